/- What the statements rest on: definitions and walks, part 13. -/
import Derived.Test.YtcnfhnndppollaaDoorJ12
set_option maxRecDepth 100000
set_option maxHeartbeats 16000000
set_option linter.unusedSimpArgs false
set_option linter.unusedVariables false
namespace Go.Proofs.YtcnfhnndppollaaDoor
open Go Go.RowKit
structure Bth where
 site:ByteArray
 level:Int
def Bth.cells (b:Bth):List Value:=[.string b.site,.int .i64 b.level]
theorem SameBerths_any (A B:Option Addr) (c d:Nat) (l:List Bth) (w:World) (hA:RowsAt w A 2 (l.map Bth.cells)) (hB:RowsAt w B 2 (l.map Bth.cells)) (hs:l.length≤1000000) :
  Calls Tryd.prog 11 #[.slice A l.length c,.slice B l.length d] w fun e w'=>e=.returned (.bool true)∧Below w.heap.size w w':=by
 have hA':=Lib.hid hA
 have hB':=Lib.hid hB
 clear hA hB
 go_enter Tryd.func11,Tryd.ntmps11
 go_wp2
 go_loopw [5] (fun i wr=>∃ (k n:Nat),k≤l.length∧i=.int .i64 k∧wr=w.drewN n) (fun i _=>l.length-(intOf i).toNat)
 case atStart=>exact⟨0,0,Nat.zero_le _,rfl,rfl⟩
 case round =>
  obtain⟨k,n,hk,rfl,rfl⟩:=hrel
  by_cases hlt:k<l.length
  ·have hk':(l.map Bth.cells)[k]?=some l[k].cells:=by simp[List.getElem?_eq_getElem hlt]
   obtain⟨b,o,rfl,hbl,hc⟩:=hA'.out _ _ hk'
   obtain⟨b',o',rfl,hbl',hc'⟩:=hB'.out _ _ hk'
   have c0:=hc 0 _ rfl
   have c1:=hc 1 _ rfl
   have d0:=hc' 0 _ rfl
   have d1:=hc' 1 _ rfl
   generalize l[k]=p at *
   simp only[Nat.add_zero,←Nat.add_assoc] at c0 c1 d0 d1
   clear hk' hc hc'
   go_wp2_with fail
   go_quiet (fail)
   go_wp2_with fail
   go_roundw
   case rel=>exact⟨k+1,_,by omega,by go_num,rfl⟩
   case measure=>simp[intOf];omega
  obtain rfl:k=l.length:=by omega
  go_wp2
  go_ret
  exact⟨rfl,below_drewN (Below.refl _ _) _⟩
theorem free_any (B:Nat) (s:Site) (cont:Int) (w:World) :
  Calls Tryd.prog 25 #[.pointer (some ⟨B,0,none⟩),.agg #[.string s.name,.int .i64 s.kind,.int .i64 s.soil,.int .i64 s.depth,.int .i64 s.step,.int .i64 s.room],.int .i64 cont] w fun e w'=>e=.returned (.func (.func 38) #[] #[.pointer (some ⟨w.heap.size+1,0,none⟩),.pointer (some ⟨w.heap.size,0,none⟩),.pointer (some ⟨w.heap.size+1+1,0,none⟩)])∧w'=((w.alloc (.cells #[.pointer (some ⟨B,0,none⟩)] 57)).alloc (.cells #[.string s.name,.int .i64 s.kind,.int .i64 s.soil,.int .i64 s.depth,.int .i64 s.step,.int .i64 s.room] 53)).alloc (.cells #[.int .i64 cont] 3):=by
 go_enter Tryd.func25,Tryd.ntmps25
 go_wp2_with fail
 go_ret
 exact⟨rfl,rfl⟩
end Go.Proofs.YtcnfhnndppollaaDoor
namespace Go.Proofs.YtcnfhnndppollaaDoor
open Go Go.RowKit
theorem lastIx_some:∀ {l:List Sty} {n:ByteArray} {i k:Nat},Cal.lastIx l n i=some k→i≤k∧∃ s,l[k-i]?=some s∧s.lot.remain=n
 | [],_,_,_,h=>by cases h
 | q :: r,n,i,k,h=>by
  unfold Cal.lastIx at h
  cases hr:Cal.lastIx r n (i+1) with
  | some j =>
   rw[hr] at h
   cases h
   obtain⟨h1,s,h2,h3⟩:=lastIx_some hr
   refine⟨by omega,s,?_,h3⟩
   rw[show k-i=(k-(i+1))+1 by omega,List.getElem?_cons_succ]
   exact h2
  | none =>
   rw[hr] at h
   dsimp only at h
   split at h
   ·rename_i h1
    cases h
    exact⟨Nat.le_refl _,q,by rw[Nat.sub_self];rfl,h1⟩
   cases h
theorem lastIx_none:∀ {l:List Sty} {n:ByteArray} {i:Nat},Cal.lastIx l n i=none→∀ s∈l,s.lot.remain≠n
 | [],_,_,_,s,hs=>by cases hs
 | q :: r,n,i,h,s,hs=>by
  unfold Cal.lastIx at h
  cases hr:Cal.lastIx r n (i+1) with
  | some j=>rw[hr] at h;cases h
  | none =>
   rw[hr] at h
   dsimp only at h
   split at h
   ·cases h
   rename_i h1
   rcases List.mem_cons.1 hs with rfl | hs
   ·exact h1
   exact lastIx_none hr s hs
theorem lotOf_none {l:List Sty} {n:ByteArray} (h:Cal.lotOf l n=none):Cal.lastIx l n 0=none:=by
 cases hl:Cal.lastIx l n 0 with
 | none=>rfl
 | some k =>
  obtain⟨_,s,h2,_⟩:=lastIx_some hl
  rw[Nat.sub_zero] at h2
  unfold Cal.lotOf at h
  rw[hl] at h
  simp only[Option.bind_some,h2,Option.map_some] at h
  cases h
theorem bkReads_snoc {y:Yd} {e:Ev} {bk bk1:Bk}:∀ {l:List Ev} {b:Bk},Cal.bkReads y b l=(bk,0)→Cal.bkAdd y bk e=(bk1,0)→Cal.bkReads y b (l ++ [e])=(bk1,0)
 | [],b,h,h1=>by
  have h:(b,(0:Int))=(bk,0):=h
  cases h
  show (if (Cal.bkAdd y bk e).2≠0 then Cal.bkAdd y bk e else Cal.bkReads y (Cal.bkAdd y bk e).1 [])=_
  rw[h1,if_neg (by simp)]
  rfl
 | q :: r,b,h,h1=>by
  unfold Cal.bkReads at h
  show (if (Cal.bkAdd y b q).2≠0 then _ else Cal.bkReads y (Cal.bkAdd y b q).1 (r ++ [e]))=_
  split at h
  ·rename_i hz;exact absurd (congrArg Prod.snd h) hz
  rename_i hz
  rw[if_neg hz]
  exact bkReads_snoc h h1
theorem bkRead_snoc {y:Yd} {e:Ev} {bk bk1:Bk} {l:List Ev} (h:Cal.bkRead y l=(bk,0)) (hl:l.length<300) (h1:Cal.bkAdd y bk e=(bk1,0)):Cal.bkRead y (l ++ [e])=(bk1,0):=by
 obtain⟨k0,_,k2⟩:=bkRead_ok h
 unfold Cal.bkRead
 rw[if_neg (by rw[k0];simp),if_neg (by simp;omega)]
 exact bkReads_snoc k2 h1
theorem bury_ok {y:Yd} {bk:Bk} {e:Ev} (hk:e.kind=0) (h:(Cal.bkAdd y bk e).2=0) :
  Cal.eventE e=0∧bk.day≤e.day∧Cal.lotOf bk.stays e.remain=none∧Cal.placeE y bk.stays e.site e.level e.cont=0∧Cal.bkErr y bk e=(⟨e.remain,if Cal.bkErr.kindOf y e.site=3 then 3 else 1,e.site,e.level,e.cont,e.day⟩,0):=by
 unfold Cal.bkAdd at h
 split at h
 ·rename_i h1;exact absurd h h1
 rename_i h1
 have h1:(Cal.bkErr y bk e).2=0:=Decidable.byContradiction h1
 have h0:=(bkErr_name h1).2
 unfold Cal.bkErr at h1 ⊢
 rw[if_neg (by rw[h0];simp)] at h1 ⊢
 split at h1
 ·cases h1
 rename_i hd
 rw[if_neg hd]
 rw[if_pos (.inl hk)] at h1 ⊢
 cases ho:Cal.lotOf bk.stays e.remain with
 | some old =>
  rw[ho] at h1
  dsimp only at h1
  first
   | cases h1;done
   |(rw[if_pos hk] at h1;cases h1)
 | none =>
  rw[ho] at h1
  dsimp only at h1 ⊢
  rw[if_neg (by omega)] at h1 ⊢
  unfold Cal.bkErr.putS at h1 ⊢
  split at h1
  ·rename_i hp;exact absurd h1 hp
  rename_i hp
  rw[if_neg hp]
  exact⟨h0,by omega,rfl,Decidable.byContradiction hp,rfl⟩
theorem grvAdd_parts {y:Yd} {l:List Ev} {x:Ev} (h:(Cal.grvAdd y l x).2=0):Cal.grvAdd y l x=(l ++ [x],0)∧∃ bk,Cal.bkRead y l=(bk,0)∧l.length<300∧(Cal.bkAdd y bk x).2=0:=by
 unfold Cal.grvAdd at h ⊢
 split at h
 ·rename_i h1;exact absurd h h1
 rename_i h1
 rw[if_neg h1]
 split at h
 ·cases h
 rename_i h2
 rw[if_neg h2]
 split at h
 ·rename_i h3;exact absurd h h3
 rename_i h3
 rw[if_neg h3]
 refine⟨rfl,(Cal.bkRead y l).1,?_,by omega,Decidable.byContradiction h3⟩
 have:(Cal.bkRead y l).2=0:=Decidable.byContradiction h1
 rw[←this]
theorem occ_snoc (l:List Sty) (s:Sty) (n:ByteArray) (lo hi:Int):Cal.occB (l ++ [s]) n lo hi=(Cal.occB l n lo hi || Cal.lying n lo hi s):=by
 simp[Cal.occB,List.any_append]
theorem place_ext {y:Yd} {l l':List Sty} (h:∀ n lo hi,Cal.occB l n lo hi=Cal.occB l' n lo hi) (n:ByteArray) (a b:Int):Cal.placeE y l n a b=Cal.placeE y l' n a b:=by
 unfold Cal.placeE Cal.covB
 simp only[h]
def Cal.freeL (y:Yd) (l:List Sty) (cont:Int):List Bth:=y.sites.flatMap fun s=>((List.range s.room.toNat).filter fun i=>decide (Cal.placeE y l s.name (i:Nat) cont=0)).map fun i=>⟨s.name,(i:Nat)⟩
theorem free_ext {y:Yd} {l l':List Sty} (h:∀ n lo hi,Cal.occB l n lo hi=Cal.occB l' n lo hi) (cont:Int):Cal.freeL y l cont=Cal.freeL y l' cont:=by
 unfold Cal.freeL
 simp only[place_ext h]
def Cal.exhume (e:Ev):Ev:=⟨e.day,1,⟨#[]⟩,0,e.remain,0,true⟩
def Cal.kept (e:Ev):Lot:=⟨e.remain,0,⟨#[]⟩,0,0,e.day⟩
theorem eventE_exhume {e:Ev} (h:Cal.eventE e=0):Cal.eventE (Cal.exhume e)=0:=by
 have hd:=(event_all h).1
 have hn:nameB e.remain=true:=by
  unfold Cal.eventE at h
  dsimp only at h
  repeat' split at h
  all_goals first | (cases h;done) | skip
  rename_i h1 h2 h3 h4 h5
  cases hq:nameB e.remain
  ·exact absurd (.inl hq) h3
  rfl
 have h0:(⟨#[]⟩:ByteArray).size=0:=rfl
 simp[Cal.eventE,Cal.exhume,hn,hd.1,hd.2,h0]
structure Undo (y:Yd) (l:List Ev) (e:Ev) (bk:Bk) (t:Lot):Prop where
 read:Cal.bkRead y l=(bk,0)
 day:bk.day≤e.day
 lo:0≤e.day
 hi:e.day≤200000
 add:Cal.grvAdd y l e=(l ++ [e],0)
 read1:Cal.bkRead y (l ++ [e])=(⟨bk.stays ++ [⟨t,-1⟩],e.day⟩,0)
 lot:Cal.lotOf (bk.stays ++ [⟨t,-1⟩]) e.remain=some t
 name:∀ s∈bk.stays,s.lot.remain≠e.remain
 out:(t.state=3∧Cal.grvAdd y (l ++ [e]) (Cal.exhume e)=([],28))∨(t.state=1∧Cal.grvAdd y (l ++ [e]) (Cal.exhume e)=(l ++ [e] ++ [Cal.exhume e],0)∧Cal.bkRead y (l ++ [e] ++ [Cal.exhume e])=(⟨bk.stays ++ [⟨t,e.day⟩] ++ [⟨Cal.kept e,-1⟩],e.day⟩,0))
theorem undo {y:Yd} {l:List Ev} {e:Ev} (hk:e.kind=0) (hl:l.length≤16∨300<l.length) (h:(Cal.grvAdd y l e).2=0):∃ bk t,Undo y l e bk t:=by
 obtain⟨hadd,bk,hr,h300,hz⟩:=grvAdd_parts h
 obtain⟨h0,hd,hno,hpl,herr⟩:=bury_ok hk hz
 have hday:=(event_all h0).1
 obtain⟨t,ht⟩:∃ t:Lot,t=⟨e.remain,if Cal.bkErr.kindOf y e.site=3 then 3 else 1,e.site,e.level,e.cont,e.day⟩:=⟨_,rfl⟩
 rw[←ht] at herr
 have hix:=lotOf_none hno
 have hname:=lastIx_none hix
 have hend:Cal.endS bk.stays e.remain e.day=bk.stays:=by unfold Cal.endS;rw[hix]
 have hb1:Cal.bkAdd y bk e=(⟨bk.stays ++ [⟨t,-1⟩],e.day⟩,0):=by
  unfold Cal.bkAdd
  rw[herr,if_neg (by simp),hend]
 have hr1:=bkRead_snoc hr h300 hb1
 have htr:t.remain=e.remain:=by rw[ht]
 have hix1:Cal.lastIx (bk.stays ++ [⟨t,-1⟩]) e.remain 0=some bk.stays.length:=by rw[Cal.lastIx_snoc,if_pos htr]
 have hlot:Cal.lotOf (bk.stays ++ [⟨t,-1⟩]) e.remain=some t:=by
  unfold Cal.lotOf
  rw[hix1]
  simp
 have hx:=eventE_exhume h0
 have hne:(Cal.exhume e).day=e.day:=rfl
 have h301:¬300≤(l ++ [e]).length:=by simp;omega
 refine⟨bk,t,hr,hd,hday.1,hday.2,hadd,hr1,hlot,hname,?_⟩
 obtain⟨s,hs⟩:=Option.isSome_iff_exists.1 (place_isSome hpl)
 have hstate:t.state=3∨t.state=1:=by
  rw[ht]
  show (if _ then (3:Int) else 1)=3∨(if _ then (3:Int) else 1)=1
  split <;> simp
 have hE:Cal.bkErr y ⟨bk.stays ++ [⟨t,-1⟩],e.day⟩ (Cal.exhume e)=if t.state≠1 then (Cal.lot0,28) else (Cal.kept e,Cal.openE y (bk.stays ++ [⟨t,-1⟩]) t e.day true):=by
  unfold Cal.bkErr
  rw[if_neg (by rw[hx];simp),if_neg (by show ¬e.day<e.day;omega),if_neg (by simp[Cal.exhume])]
  show (match Cal.lotOf (bk.stays ++ [⟨t,-1⟩]) e.remain with | none=>_ | some old=>_)=_
  rw[hlot]
  rfl
 rcases hstate with h3 | h1
 ·left
  refine⟨h3,?_⟩
  have hE2:Cal.bkErr y ⟨bk.stays ++ [⟨t,-1⟩],e.day⟩ (Cal.exhume e)=(Cal.lot0,28):=by rw[hE,if_pos (by rw[h3];simp)]
  unfold Cal.grvAdd
  rw[hr1,if_neg (by simp),if_neg h301]
  have:Cal.bkAdd y ⟨bk.stays ++ [⟨t,-1⟩],e.day⟩ (Cal.exhume e)=(⟨bk.stays ++ [⟨t,-1⟩],e.day⟩,28):=by
   unfold Cal.bkAdd
   rw[hE2]
   rfl
  rw[this]
  rfl
 right
 have hsite:t.site=e.site:=by rw[ht]
 have hlev:t.level=e.level:=by rw[ht]
 have hcov0:Cal.covB bk.stays s e.level=false:=by
  unfold Cal.placeE at hpl
  rw[hs] at hpl
  dsimp only at hpl
  repeat' split at hpl
  all_goals first | (cases hpl;done) | skip
  rename_i hc
  simpa using hc
 have hcov:Cal.covB (bk.stays ++ [⟨t,-1⟩]) s t.level=false:=by
  unfold Cal.covB at hcov0 ⊢
  rw[occ_snoc,hlev]
  have:Cal.lying s.name (e.level+1) 12 ⟨t,-1⟩=false:=by
   unfold Cal.lying
   have:decide (e.level+1≤t.level)=false:=decide_eq_false (by rw[hlev];omega)
   simp[this]
  rw[this,Bool.or_false]
  exact hcov0
 have hopen:Cal.openE y (bk.stays ++ [⟨t,-1⟩]) t e.day true=0:=by
  unfold Cal.openE
  rw[hsite,hs]
  dsimp only
  rw[hcov]
  simp
 have hE2:Cal.bkErr y ⟨bk.stays ++ [⟨t,-1⟩],e.day⟩ (Cal.exhume e)=(Cal.kept e,0):=by rw[hE,if_neg (by rw[h1];simp),hopen]
 have hend1:Cal.endS (bk.stays ++ [⟨t,-1⟩]) e.remain e.day=bk.stays ++ [⟨t,e.day⟩]:=by
  unfold Cal.endS
  rw[hix1]
  show (bk.stays ++ [(⟨t,-1⟩:Sty)]).modify bk.stays.length _=_
  apply List.ext_getElem?
  intro j
  rw[List.getElem?_modify]
  rcases Nat.lt_trichotomy j bk.stays.length with hj | hj | hj
  ·rw[List.getElem?_append_left hj,List.getElem?_append_left hj]
   have hne:¬bk.stays.length=j:=by omega
   simp[hne]
  ·subst hj
   simp
  rw[List.getElem?_eq_none (by simp;omega),List.getElem?_eq_none (by simp;omega)]
  rfl
 have hb2:Cal.bkAdd y ⟨bk.stays ++ [⟨t,-1⟩],e.day⟩ (Cal.exhume e)=(⟨bk.stays ++ [⟨t,e.day⟩] ++ [⟨Cal.kept e,-1⟩],e.day⟩,0):=by
  unfold Cal.bkAdd
  rw[hE2,if_neg (by simp)]
  show ((⟨Cal.endS (bk.stays ++ [⟨t,-1⟩]) e.remain e.day ++ [⟨Cal.kept e,-1⟩],e.day⟩:Bk),(0:Int))=_
  rw[hend1]
 refine⟨h1,?_,bkRead_snoc hr1 (by simp;omega) hb2⟩
 unfold Cal.grvAdd
 rw[hr1,if_neg (by simp),if_neg h301,hb2,if_neg (by simp)]
section
variable {y : Yd} {l : List Ev} {e : Ev} {bk : Bk} {t : Lot}
theorem Undo.occ (h:Undo y l e bk t) (n:ByteArray) (lo hi:Int):Cal.occB (bk.stays ++ [⟨t,e.day⟩] ++ [⟨Cal.kept e,-1⟩]) n lo hi=Cal.occB bk.stays n lo hi:=by
 rw[occ_snoc,occ_snoc]
 have h1:Cal.lying n lo hi ⟨t,e.day⟩=false:=by
  unfold Cal.lying
  have:decide (e.day<0)=false:=decide_eq_false (by have:=h.lo;omega)
  simp[this]
 have h2:Cal.lying n lo hi ⟨Cal.kept e,-1⟩=false:=by
  unfold Cal.lying
  simp[Cal.kept]
 rw[h1,h2,Bool.or_false,Bool.or_false]
theorem Undo.free (h:Undo y l e bk t) (cont:Int):Cal.freeL y (bk.stays ++ [⟨t,e.day⟩] ++ [⟨Cal.kept e,-1⟩]) cont=Cal.freeL y bk.stays cont:=free_ext h.occ cont
theorem Undo.now (h:Undo y l e bk t):nowL (bk.stays ++ [⟨t,e.day⟩] ++ [⟨Cal.kept e,-1⟩])=nowL bk.stays ++ [Cal.kept e]:=by
 unfold nowL
 have:¬e.day<0:=by have:=h.lo;omega
 simp[List.filter_append,this]
theorem Undo.away (h:Undo y l e bk t):∀ x∈nowL bk.stays,x.remain≠e.remain:=by
 intro x hx
 unfold nowL at hx
 obtain⟨s,hs,rfl⟩:=List.mem_map.1 hx
 exact h.name s (List.mem_filter.1 hs).1
end
theorem lot_sorted:∀ {a b:List Lot},a.Perm b→(∀ x∈b,∀ z∈b,x.remain=z.remain→x=z)→a.Pairwise (fun x z=>¬z.remain.data.toList<x.remain.data.toList)→b.Pairwise (fun x z=>¬z.remain.data.toList<x.remain.data.toList)→a=b
 | [],b,hp,_,_,_=>hp.nil_eq
 | x :: r,[],hp,_,_,_=>absurd hp.symm.nil_eq (by simp)
 | x :: r,z :: q,hp,hd,h1,h2=>by
  have hxz:x=z:=by
   have hx:x∈z :: q:=hp.mem_iff.1 (List.mem_cons_self ..)
   have hz:z∈x :: r:=hp.mem_iff.2 (List.mem_cons_self ..)
   rcases List.mem_cons.1 hx with h | hx'
   ·exact h
   rcases List.mem_cons.1 hz with h | hz'
   ·exact h.symm
   refine hd x hx z (List.mem_cons_self ..) ?_
   have l1:=(List.pairwise_cons.1 h2).1 x hx'
   have l2:=(List.pairwise_cons.1 h1).1 z hz'
   exact ByteArray.ext (Array.toList_inj.1 (List.le_antisymm (List.not_lt.1 l2) (List.not_lt.1 l1)))
  subst hxz
  rw[lot_sorted ((List.perm_cons x).1 hp) (fun u hu v hv=>hd u (List.mem_cons_of_mem _ hu) v (List.mem_cons_of_mem _ hv)) (List.pairwise_cons.1 h1).2 (List.pairwise_cons.1 h2).2]
theorem sorted_but {a b L:List Lot} {k:Lot} {n:ByteArray} (ha:a.Perm L) (hb:b.Perm (L ++ [k])) (hk:k.remain=n) (hL:∀ x∈L,x.remain≠n) (hd:∀ x∈L,∀ z∈L,x.remain=z.remain→x=z) (h1:a.Pairwise (fun x z=>¬z.remain.data.toList<x.remain.data.toList)) (h2:b.Pairwise (fun x z=>¬z.remain.data.toList<x.remain.data.toList)) :
  b.filter (fun x=>decide (x.remain≠n))=a∧(∀ x∈b,x.remain=n→x=k)∧b.length=a.length+1:=by
 have hf:(L ++ [k]).filter (fun x=>decide (x.remain≠n))=L:=by
  rw[List.filter_append,List.filter_eq_self.2 (fun x hx=>decide_eq_true (hL x hx))]
  simp[hk]
 have hp:(b.filter (fun x=>decide (x.remain≠n))).Perm L:=by
  have:=hb.filter (fun x=>decide (x.remain≠n))
  rwa [hf] at this
 refine⟨lot_sorted (hp.trans ha.symm) (fun x hx z hz=>hd x (ha.mem_iff.1 hx) z (ha.mem_iff.1 hz)) (h2.filter _) h1,fun x hx hn=>?_,?_⟩
 ·rcases List.mem_append.1 (hb.mem_iff.1 hx) with h | h
  ·exact absurd hn (hL x h)
  exact List.mem_singleton.1 h
 rw[hb.length_eq,ha.length_eq];simp
end Go.Proofs.YtcnfhnndppollaaDoor
namespace Go.Proofs.YtcnfhnndppollaaDoor
open Go Go.RowKit Go.Shelf Go.Maps
theorem elemBth:Elem Tryd.prog 41 70 2 24:=Elem.mk' Tryd.underlying41 (z:=.agg #[.string ⟨#[]⟩,.int .i64 0]) (by kernel_rfl) rfl (by decide)
theorem bth_wid (l:List Bth):∀ r∈l.map Bth.cells,r.length=2:=fun r hr=>by obtain⟨s,_,rfl⟩:=List.mem_map.1 hr;rfl
theorem bth_one (l:List Bth):∀ r∈l.map Bth.cells,∀ u∈r,u.oneCell'=true:=fun r hr u hu=>by
 obtain⟨s,_,rfl⟩:=List.mem_map.1 hr
 simp only[Bth.cells,List.mem_cons,List.not_mem_nil,or_false] at hu
 rcases hu with rfl | rfl <;> rfl
def levL (y:Yd) (st:List Sty) (cont:Int) (s:Site) (i:Nat):List Bth:=((List.range i).filter fun i=>decide (Cal.placeE y st s.name (i:Nat) cont=0)).map fun i=>⟨s.name,(i:Nat)⟩
theorem levL_no {y:Yd} {st:List Sty} {cont:Int} {s:Site} {i:Nat} (h:Cal.placeE y st s.name (i:Nat) cont≠0):levL y st cont s (i+1)=levL y st cont s i:=by
 unfold levL
 rw[List.range_succ,List.filter_append]
 simp[h]
theorem levL_yes {y:Yd} {st:List Sty} {cont:Int} {s:Site} {i:Nat} (h:Cal.placeE y st s.name (i:Nat) cont=0):levL y st cont s (i+1)=levL y st cont s i ++ [⟨s.name,(i:Nat)⟩]:=by
 unfold levL
 rw[List.range_succ,List.filter_append]
 simp[h]
theorem levL_len (y:Yd) (st:List Sty) (cont:Int) (s:Site) (i:Nat):(levL y st cont s i).length≤i:=by
 unfold levL
 rw[List.length_map]
 exact Nat.le_trans (List.length_filter_le _ _) (by simp)
def rowsF (y:Yd) (st:List Sty) (cont:Int) (k:Nat):List Bth:=(y.sites.take k).flatMap fun s=>levL y st cont s s.room.toNat
theorem rowsF_all (y:Yd) (st:List Sty) (cont:Int):rowsF y st cont y.sites.length=Cal.freeL y st cont:=by
 unfold rowsF Cal.freeL
 rw[List.take_length]
 rfl
theorem rowsF_step {y:Yd} {st:List Sty} {cont:Int} {k:Nat} {s:Site} (hk:y.sites[k]?=some s):rowsF y st cont (k+1)=rowsF y st cont k ++ levL y st cont s s.room.toNat:=by
 unfold rowsF
 rw[List.take_add_one,hk]
 simp
theorem rowsF_len {y:Yd} {st:List Sty} {cont:Int} (h:∀ s∈y.sites,s.room≤12):∀ k,(rowsF y st cont k).length≤k*12
 | 0=>Nat.le_refl _
 | k+1=>by
  have ih:=rowsF_len (st:=st) (cont:=cont) h k
  cases hk:y.sites[k]? with
  | none =>
   unfold rowsF at ih ⊢
   rw[List.take_add_one,hk]
   simp only[Option.toList_none,List.append_nil]
   omega
  | some s =>
   rw[rowsF_step hk,List.length_append]
   have h1:=levL_len y st cont s s.room.toNat
   have h2:=h s (List.mem_of_getElem? hk)
   omega
structure FeO (X:World) (Ds:List Nat) (v:Value) (rows:List Bth) (W:World):Prop where
 ob:BoxAt W X.heap.size [v]
 own:OwnL W (X.heap.size+1) 70 2 v (rows.map Bth.cells)
 bel:Below X.heap.size X W
 ds:∀ D∈Ds,W.heap[D]?=some (.deferred (some []))∧X.heap.size≤D
 nd:Ds.Nodup
 size:X.heap.size+1≤W.heap.size
section
variable {X W W' : World} {Ds : List Nat} {v v' : Value} {rows : List Bth}
theorem FeO.dlt (h:FeO X Ds v rows W):∀ D∈Ds,D<W.heap.size:=fun D hD=>(Array.getElem?_eq_some_iff.1 (h.ds D hD).1).1
theorem FeO.below (h:FeO X Ds v rows W) (hb:Below W.heap.size W W'):FeO X Ds v rows W' :=
 ⟨h.ob.below hb,OwnL.below h.own hb,below_step h.bel hb,fun D hD=>⟨(hb.block D (h.dlt D hD)).trans (h.ds D hD).1,(h.ds D hD).2⟩,h.nd,Nat.le_trans h.size hb.size⟩
theorem FeO.put (h:FeO X Ds v rows W) {D:Nat} {o o':Obj} (hD:W.heap[D]?=some o) (hb:isBook o=true) (hX:X.heap.size≤D) (hn:D∉Ds):FeO X Ds v rows (W.putObj D o') :=
 ⟨h.ob.keptF (grownBy_putObj' W D o') (othersBook hD hb),OwnL.keptF h.own (grownBy_putObj' W D o') (othersBook hD hb),belowF_put h.bel hX o',fun E hE=>⟨(World.putObj_heap_other (fun e=>by subst e;exact hn hE)).trans (h.ds E hE).1,(h.ds E hE).2⟩,h.nd,by
  have:=(grownBy_putObj' W D o').size
  exact Nat.le_trans h.size this⟩
theorem FeO.drop {D:Nat} (h:FeO X (D :: Ds) v rows W):FeO X Ds v rows (W.putObj D (.deferred none)):=by
 obtain⟨h1,h2⟩:=h.ds D (List.mem_cons_self ..)
 have h3:FeO X Ds v rows W:=⟨h.ob,h.own,h.bel,fun E hE=>h.ds E (List.mem_cons_of_mem _ hE),(List.nodup_cons.1 h.nd).2,h.size⟩
 exact h3.put h1 rfl h2 (List.nodup_cons.1 h.nd).1
theorem FeO.more {D:Nat} (h:FeO X Ds v rows W) (hD:W.heap[D]?=some (.deferred (some []))) (h1:X.heap.size≤D) (h2:∀ E∈Ds,E<D):FeO X (D :: Ds) v rows W :=
 ⟨h.ob,h.own,h.bel,fun E hE=>by
  rcases List.mem_cons.1 hE with rfl | hE
  ·exact⟨hD,h1⟩
  exact h.ds E hE,List.nodup_cons.2 ⟨fun hE=>Nat.lt_irrefl _ (h2 D hE),h.nd⟩,h.size⟩
theorem FeO.app {Z7:World} (h:FeO X Ds v rows W) {b:Bth} (hown:OwnL Z7 (X.heap.size+1) 70 2 v' (rows.map Bth.cells ++ [b].map Bth.cells)) (hg:W.grownBy Z7 v.ownBlock) :
  FeO X Ds v' (rows ++ [b]) (Z7.setCell ⟨X.heap.size,0,none⟩ v')∧BoxAt Z7 X.heap.size [v]∧KeepsOthers W (Z7.setCell ⟨X.heap.size,0,none⟩ v'):=by
 have hne:some X.heap.size≠v.ownBlock:=fun e=>by have:=(h.own.lt _ e.symm).1;omega
 have b0:=h.ob.grown hg hne
 have hk:=(OwnL.keepsF h.own hg).trans (KeepsOthers.setCell _ ⟨X.heap.size,0,none⟩ v')
 rw[←List.map_append] at hown
 exact⟨⟨b0.set 0 _ Nat.zero_lt_one,hown.offF 0 _ (by omega),(h.bel.trans (grown_below hg (fun g e=>by have:=(h.own.lt g e).1;omega) h.bel.size)).setCell (p:=⟨X.heap.size,0,none⟩) (Nat.le_refl _) _,fun D hD=>⟨hk.same _ _ (h.ds D hD).1 rfl,(h.ds D hD).2⟩,h.nd,by rw[World.size_setCell];exact Nat.le_trans h.size hg.size⟩,b0,hk⟩
end
theorem leaves_defs {F:Fence} {n:Nat} {P:Program} {fn:Func} {tmps:Array Value} {R:Ending→World→Prop} {X:World} {v:Value} {rows:List Bth}:∀ (Ds:List Nat) (W:World),FeO X Ds v rows W→(∀ W',FeO X [] v rows W'→LeavesInM F n P fn tmps R [] .returning W')→LeavesInM F n P fn tmps R (Ds.map fun D=>{ target:=.collected D,args:=#[] }) .returning W
 | [],W,h,hf=>hf W h
 | D :: Ds,W,h,hf=>by
  refine⟨by simp,.inl ⟨_,_,rfl,run_takeDeferred (h.ds D (List.mem_cons_self ..)).1,?_⟩⟩
  exact leaves_defs Ds _ h.drop hf
structure FeN (X:World) (Q:Nat) (K:FrK) (Ds:List Nat) (v:Value) (rows:List Bth) (i:Nat) (W:World):Prop where
 o:FeO X Ds v (rows ++ levL K.y K.bk.stays K.cont K.s i) W
 q:BoxAt W Q [.string K.s.name,.int .i64 K.s.kind,.int .i64 K.s.soil,.int .i64 K.s.depth,.int .i64 K.s.step,.int .i64 K.s.room]
 b:BoxAt W (Q+1) [.pointer (some ⟨K.B,0,none⟩)]
 s:BoxAt W (Q+1+1) [.string K.s.name,.int .i64 K.s.kind,.int .i64 K.s.soil,.int .i64 K.s.depth,.int .i64 K.s.step,.int .i64 K.s.room]
 c:BoxAt W (Q+1+1+1) [.int .i64 K.cont]
 far:∀ g,v.ownBlock=some g→g<Q∨Q+1+1+1<g
 le:(i:Int)≤K.s.room
 lo:X.heap.size<Q
section
variable {X W W' : World} {Q : Nat} {K : FrK} {Ds : List Nat} {v v' : Value} {rows : List Bth} {i : Nat}
theorem FeN.below (h:FeN X Q K Ds v rows i W) (hb:Below W.heap.size W W'):FeN X Q K Ds v rows i W':=⟨h.o.below hb,h.q.below hb,h.b.below hb,h.s.below hb,h.c.below hb,h.far,h.le,h.lo⟩
theorem FeN.put (h:FeN X Q K Ds v rows i W) {D:Nat} {o o':Obj} (hD:W.heap[D]?=some o) (hb:isBook o=true) (hX:X.heap.size≤D) (hn:D∉Ds):FeN X Q K Ds v rows i (W.putObj D o') :=
 ⟨h.o.put hD hb hX hn,h.q.keptF (grownBy_putObj' W D o') (othersBook hD hb),h.b.keptF (grownBy_putObj' W D o') (othersBook hD hb),h.s.keptF (grownBy_putObj' W D o') (othersBook hD hb),h.c.keptF (grownBy_putObj' W D o') (othersBook hD hb),h.far,h.le,h.lo⟩
theorem FeN.inv {X0:World} (h:FeN X Q K Ds v rows i W) (hB:BkR X K.B K.M K.S K.R K.c K.d K.y K.A K.cap K.bk) (hsb:K.sb=Q+1+1) (hbb:K.bb=Q+1) (hcb:K.cb=Q+1+1+1) (_:X0=X0):FrInv K i W :=
 ⟨h.le,by rw[hsb];exact h.s,by rw[hbb];exact h.b,by rw[hcb];exact h.c,hB.below h.o.bel⟩
theorem FeN.skip (h:FeN X Q K Ds v rows i W) (hp:Cal.placeE K.y K.bk.stays K.s.name (i:Nat) K.cont≠0) (hl:(i:Int)<K.s.room):FeN X Q K Ds v rows (i+1) W :=
 ⟨by rw[levL_no hp];exact h.o,h.q,h.b,h.s,h.c,h.far,by omega,h.lo⟩
theorem FeN.app {Z7:World} (h:FeN X Q K Ds v rows i W) (hp:Cal.placeE K.y K.bk.stays K.s.name (i:Nat) K.cont=0) (hl:(i:Int)<K.s.room)
  (hown:OwnL Z7 (X.heap.size+1) 70 2 v' ((rows ++ levL K.y K.bk.stays K.cont K.s i).map Bth.cells ++ [(⟨K.s.name,(i:Nat)⟩:Bth)].map Bth.cells)) (hg:W.grownBy Z7 v.ownBlock) (hob:v'.ownBlock=v.ownBlock∨v'.ownBlock=some W.heap.size) :
  FeN X Q K Ds v' rows (i+1) (Z7.setCell ⟨X.heap.size,0,none⟩ v')∧BoxAt Z7 X.heap.size [v]∧KeepsOthers W (Z7.setCell ⟨X.heap.size,0,none⟩ v'):=by
 obtain⟨q1,q2,q3⟩:=h.o.app hown hg
 have hlo:=h.lo
 have hQ:=h.c.lt
 have far:∀ j,Q≤j→j≤Q+1+1+1→some j≠v.ownBlock:=fun j h1 h2 e=>by have:=h.far j e.symm;omega
 refine⟨⟨by rw[levL_yes hp,←List.append_assoc];exact q1,(h.q.grown hg (far _ (Nat.le_refl _) (by omega))).offF 0 _ (by omega),(h.b.grown hg (far _ (by omega) (by omega))).offF 0 _ (by omega),(h.s.grown hg (far _ (by omega) (by omega))).offF 0 _ (by omega),(h.c.grown hg (far _ (by omega) (Nat.le_refl _))).offF 0 _ (by omega),fun g e=>?_,by omega,h.lo⟩,q2,q3⟩
 rcases hob with e2 | e2
 ·exact h.far g (e2 ▸ e)
 rw[e2] at e
 cases e
 exact .inr hQ
theorem FeO.round {s:Site} (h:FeO X Ds v rows W) (hs:K.s=s) (h0:0≤s.room):FeN X W.heap.size K Ds v rows 0 ((((W.alloc (.cells #[.string s.name,.int .i64 s.kind,.int .i64 s.soil,.int .i64 s.depth,.int .i64 s.step,.int .i64 s.room] 53)).alloc (.cells #[.pointer (some ⟨K.B,0,none⟩)] 57)).alloc (.cells #[.string s.name,.int .i64 s.kind,.int .i64 s.soil,.int .i64 s.depth,.int .i64 s.step,.int .i64 s.room] 53)).alloc (.cells #[.int .i64 K.cont] 3)):=by
 subst hs
 have b0:=BoxAt.new W #[.string K.s.name,.int .i64 K.s.kind,.int .i64 K.s.soil,.int .i64 K.s.depth,.int .i64 K.s.step,.int .i64 K.s.room] 53
 have b1:=BoxAt.new (W.alloc (.cells #[.string K.s.name,.int .i64 K.s.kind,.int .i64 K.s.soil,.int .i64 K.s.depth,.int .i64 K.s.step,.int .i64 K.s.room] 53)) #[.pointer (some ⟨K.B,0,none⟩)] 57
 have b2:=BoxAt.new ((W.alloc (.cells #[.string K.s.name,.int .i64 K.s.kind,.int .i64 K.s.soil,.int .i64 K.s.depth,.int .i64 K.s.step,.int .i64 K.s.room] 53)).alloc (.cells #[.pointer (some ⟨K.B,0,none⟩)] 57)) #[.string K.s.name,.int .i64 K.s.kind,.int .i64 K.s.soil,.int .i64 K.s.depth,.int .i64 K.s.step,.int .i64 K.s.room] 53
 have b3:=BoxAt.new (((W.alloc (.cells #[.string K.s.name,.int .i64 K.s.kind,.int .i64 K.s.soil,.int .i64 K.s.depth,.int .i64 K.s.step,.int .i64 K.s.room] 53)).alloc (.cells #[.pointer (some ⟨K.B,0,none⟩)] 57)).alloc (.cells #[.string K.s.name,.int .i64 K.s.kind,.int .i64 K.s.soil,.int .i64 K.s.depth,.int .i64 K.s.step,.int .i64 K.s.room] 53)) #[.int .i64 K.cont] 3
 rw[World.size_alloc] at b1
 rw[World.size_alloc,World.size_alloc] at b2
 rw[World.size_alloc,World.size_alloc,World.size_alloc] at b3
 have hb:=below_step (below_step (below_step (below_alloc W (.cells #[.string K.s.name,.int .i64 K.s.kind,.int .i64 K.s.soil,.int .i64 K.s.depth,.int .i64 K.s.step,.int .i64 K.s.room] 53)) (below_alloc _ (.cells #[.pointer (some ⟨K.B,0,none⟩)] 57))) (below_alloc _ (.cells #[.string K.s.name,.int .i64 K.s.kind,.int .i64 K.s.soil,.int .i64 K.s.depth,.int .i64 K.s.step,.int .i64 K.s.room] 53))) (below_alloc _ (.cells #[.int .i64 K.cont] 3))
 have ho:=h.below hb
 refine⟨?_,((b0.alloc _).alloc _).alloc _,(b1.alloc _).alloc _,b2.alloc _,b3,fun g e=>.inl (h.own.lt g e).2,by simpa using h0,by have:=h.size;omega⟩
 have:levL K.y K.bk.stays K.cont K.s 0=[]:=rfl
 rw[this,List.append_nil]
 exact ho
end
end Go.Proofs.YtcnfhnndppollaaDoor
namespace Go.Proofs.YtcnfhnndppollaaDoor
open Go Go.RowKit
variable {F : Fence} {n : Nat} {P : Program}
theorem wpIn_rangeFunc_rawV {β:Type} {g:Operand} {ps:Array Tmp} {assign body:Code} {Q:Exit→Act→World→Prop} {a:Act} {w:World}
  (hro:F.round=none) (h1:1≤n) {gf:Nat} {lb:Array Value} (hg:a.eval g=.func (.func gf) #[] lb) (hFg:F.fn gf) (eg:∀ args w,(callFunc gf args).run P w=.ok (.enter gf args) w)
  {encs:β→Array Value} {next:β→β} {Inv:β→World→Prop} {Step Ask:β→World→World→Prop} {End:β→Prop} {s0:β}
  (hseq:SeqRaw F (n-1) P gf lb encs next Inv Step Ask End s0) (hps:∀ x,(encs x).size=ps.size)
  (hkS:∀ s A B (k:Nat) (o:Obj),Inv s A→(Step s A B∨Ask s A B)→A.heap[k]?=some o→isBook o=true→B.heap[k]?=some o)
  (I IA:β→World→Prop) (Ix:Code→World→Prop)
  (hIInv:∀ s A,I s A→Inv s A) (hIS:∀ s A B,I s A→Step s A B→I (next s) B) (hIA:∀ s A B,I s A→Ask s A B→IA s B)
  (hI1:∀ s A o,isBook o=true→I s A→I s (A.alloc o))
  (hI2:∀ s A (l:Nat) (o o':Obj),w.heap.size≤l→A.heap[l]?=some o→isBook o=true→isBook o'=true→I s A→I s (A.putObj l o'))
  (hIA2:∀ s A (l:Nat) (o o':Obj),w.heap.size≤l→A.heap[l]?=some o→isBook o=true→isBook o'=true→IA s A→IA s (A.putObj l o'))
  (hIx2:∀ c A (l:Nat) (o o':Obj),w.heap.size≤l→A.heap[l]?=some o→isBook o=true→isBook o'=true→Ix c A→Ix c (A.putObj l o'))
  (h0:I s0 w) (a₁:β→Act)
  (hassign:∀ (l:Nat) (x:β) (W:World) (K:Act→World→Prop),K (a₁ x) W →
   assign.wpIn (F.inRound l) (n-1-1) P (Exit.then K (fun _ _ _=>False)) { tmps:=(ps.zip (encs x)).foldl (fun t (p,v)=>t.setIfInBounds p v) a.tmps,defers:=[] } W)
  (hbody:∀ (l:Nat) (x:β) (W:World),IA x W→body.wpIn (F.inRound l) (n-1-1) P (rawPost (I (next x)) Ix W) (a₁ x) W)
  (hdone:∀ (D:Nat) (s:β) (W:World),End s→I s W→w.heap.size≤D→W.heap[D]?=some (.deferred (some []))→Q .normal { a with defers:={ target:=.collected D,args:=#[] } :: a.defers } W)
  (hstop:∀ (D:Nat) (c:Code) (W:World),Ix c W→w.heap.size≤D→W.heap[D]?=some (.deferred (some []))→c.wpIn F n P Q { a with defers:={ target:=.collected D,args:=#[] } :: a.defers } W) :
  (Code.rangeFunc g ps assign body).wpIn F n P Q a w:=by
 refine wpIn_rangeFunc ?_
 intro fn hfn
 rw[hro]
 obtain⟨rec,hrec⟩:∃ rec:LoopState→Option Code→Loop,rec=fun st pe=>{ state:=st,pending:=pe,fn,tmps:=a.tmps,params:=ps,assign,body,defers:=w.heap.size }:=⟨_,rfl⟩
 obtain⟨Z1,hZ1⟩:∃ Z1,(w.alloc (.deferred (some []))).alloc (.loop (rec .ready none))=Z1:=⟨_,rfl⟩
 have hL1:Z1.heap[w.heap.size+1]?=some (.loop (rec .ready none)):=by
  rw[←hZ1];have:=World.alloc_heap_new (w.alloc (.deferred (some []))) (.loop (rec .ready none));rwa [World.size_alloc] at this
 have hK1:Z1.heap[w.heap.size]?=some (.deferred (some [])):=by
  rw[←hZ1];exact (Below.heap_alloc _ _ _ (by simp)).trans (World.alloc_heap_new w _)
 have hI1':I s0 Z1:=by rw[←hZ1];exact hI1 _ _ _ rfl (hI1 _ _ _ rfl h0)
 refine⟨w.heap.size+1,[{ target:=.collected w.heap.size,args:=#[] }],Z1,{ target:=.fn (.func gf) lb,args:=#[.func (.yield (w.heap.size+1)) #[] #[]] },Z1,gf,
  #[.func (.yield (w.heap.size+1)) #[] #[]] ++ lb,Z1,?_,?_,?_,?_,fun _=>h1,?_⟩
 ·rw[←hZ1,hrec];exact run_enterLoop_outer _ _ _ _ _
 ·simp only[resolve,hg]
  simp[go_sem]
 ·intro f' hf';simp[Target.leads] at hf';subst hf';exact hFg
 ·simp[invoke,go_sem,eg]
 refine (hseq (w.heap.size+1)
  (fun s W=>I s W∧W.heap[w.heap.size+1]?=some (.loop (rec .ready none))∧W.heap[w.heap.size]?=some (.deferred (some [])))
  (fun W=>∃ c,Ix c W∧W.heap[w.heap.size+1]?=some (.loop (rec .done (some c)))∧W.heap[w.heap.size]?=some (.deferred (some [])))
  Z1 (fun s A h=>hIInv s A h.1)
  (fun s A B h hs=>⟨hIS s A B h.1 hs,hkS s A B _ _ (hIInv s A h.1) (.inl hs) h.2.1 rfl,hkS s A B _ _ (hIInv s A h.1) (.inl hs) h.2.2 rfl⟩)
  ?_ ⟨hI1',hL1,hK1⟩).mono ?_
 ·rintro x A W ⟨hi,hl0,hk0⟩ hask
  have hl:=hkS x A W _ _ (hIInv x A hi) (.inr hask) hl0 rfl
  have hk:=hkS x A W _ _ (hIInv x A hi) (.inr hask) hk0 rfl
  have hia:=hIA x A W hi hask
  have hlt:w.heap.size+1<W.heap.size:=(Array.getElem?_eq_some_iff.1 hl).1
  have hy:=run_yield (P:=P) (args:=encs x) hl (by rw[hrec];exact hps x)
  rw[hrec] at hy
  refine⟨fn,_,assign,body,hy,roundIn_of_wpIn hfn (hassign _ x W _ ⟨_,run_beginRound hl (by rw[hrec]),?_⟩)⟩
  have hl2:(W.putObj (w.heap.size+1) (.loop { rec .ready none with state:=.busy })).heap[w.heap.size+1]?=some (.loop { rec .ready none with state:=.busy }):=World.putObj_heap_same hlt
  have hk2:(W.putObj (w.heap.size+1) (.loop { rec .ready none with state:=.busy })).heap[w.heap.size]?=some (.deferred (some [])):=(World.putObj_heap_other (by omega)).trans hk
  refine wpIn_mono (hbody _ x _ (hIA2 _ _ _ _ _ (by omega) hl rfl rfl hia)) ?_
  have fin:∀ (jump:Option Code) (Z3:World),KeepsOthers (W.putObj (w.heap.size+1) (.loop { rec .ready none with state:=.busy })) Z3 →
    (Instr.endRound (w.heap.size+1) jump).run P Z3=.ok (.bool jump.isNone) (Z3.putObj (w.heap.size+1) (.loop (rec (if jump.isNone then .ready else .done) jump))) ∧
    Z3.heap[w.heap.size+1]?=some (.loop { rec .ready none with state:=.busy }) ∧
    (Z3.putObj (w.heap.size+1) (.loop (rec (if jump.isNone then .ready else .done) jump))).heap[w.heap.size+1]?=some (.loop (rec (if jump.isNone then .ready else .done) jump)) ∧
    (Z3.putObj (w.heap.size+1) (.loop (rec (if jump.isNone then .ready else .done) jump))).heap[w.heap.size]?=some (.deferred (some [])):=fun jump Z3 hk3=>by
   have hl3:=hk3.same _ _ hl2 rfl
   have:=run_endRound (P:=P) jump hl3
   rw[hrec] at this ⊢
   exact⟨this,by rw[hrec] at hl3;exact hl3,World.putObj_heap_same (Array.getElem?_eq_some_iff.1 hl3).1,(World.putObj_heap_other (by omega)).trans (hk3.same _ _ hk2 rfl)⟩
  rintro e a3 Z3 hp
  cases e with
  | normal =>
   obtain⟨hk3,hi3⟩:=hp
   obtain⟨hr,hl3,hl4,hk4⟩:=fin none Z3 hk3
   exact⟨_,_,hr,.inl ⟨rfl,hI2 _ _ _ _ _ (by omega) hl3 rfl rfl hi3,hl4,hk4⟩⟩
  | ret =>
   obtain⟨hk3,hi3⟩:=hp
   obtain⟨hr,hl3,hl4,hk4⟩:=fin (some .ret) Z3 hk3
   exact⟨_,_,hr,.inr ⟨rfl,.ret,hIx2 _ _ _ _ _ (by omega) hl3 rfl rfl hi3,hl4,hk4⟩⟩
  | exit id =>
   obtain⟨hk3,hi3⟩:=hp
   obtain⟨hr,hl3,hl4,hk4⟩:=fin (some (.exit id)) Z3 hk3
   exact⟨_,_,hr,.inr ⟨rfl,.exit id,hIx2 _ _ _ _ _ (by omega) hl3 rfl rfl hi3,hl4,hk4⟩⟩
  | goto t =>
   obtain⟨hk3,hi3⟩:=hp
   obtain⟨hr,hl3,hl4,hk4⟩:=fin (some (.goto t)) Z3 hk3
   exact⟨_,_,hr,.inr ⟨rfl,.goto t,hIx2 _ _ _ _ _ (by omega) hl3 rfl rfl hi3,hl4,hk4⟩⟩
  | panic ch=>exact hp.elim
  | outgrown=>exact hp.elim
 rintro e Z2 ⟨⟨v,rfl⟩,(⟨s,hE,hi,hl,hk⟩ | ⟨c,hi,hl,hk⟩)⟩
 ·exact⟨none,_,by have:=run_endLoop (P:=P) hl (by rw[hrec];simp);rw[hrec] at this;exact this,hdone _ s _ hE (hI2 _ _ _ _ _ (by omega) hl rfl rfl hi) (Nat.le_refl _) ((World.putObj_heap_other (by omega)).trans hk)⟩
 exact⟨some c,_,by have:=run_endLoop (P:=P) hl (by rw[hrec];simp);rw[hrec] at this;exact this,hstop _ c _ (hIx2 _ _ _ _ _ (by omega) hl rfl rfl hi) (Nat.le_refl _) ((World.putObj_heap_other (by omega)).trans hk)⟩
end Go.Proofs.YtcnfhnndppollaaDoor
namespace Go.Proofs.YtcnfhnndppollaaDoor
open Go Go.RowKit Go.Shelf Go.Maps
attribute [local go_sem] Oper.semAt_some
def FreeP (w:World) (L:List Bth) (e:Ending) (w':World):Prop:=∃ v,e=.returned (.tuple #[v,.int .i64 0])∧OwnL w' w.heap.size 70 2 v (L.map Bth.cells)∧Below w.heap.size w w'
theorem yard_sites {y:Yd} (h:Cal.yardE y=0):∀ s∈y.sites,Cal.siteErr s=0:=by
 unfold Cal.yardE at h
 split at h
 ·cases h
 split at h
 ·rename_i h1 h2;exact absurd h h2
 rename_i h1 h2
 have h2:Cal.sitesErr [] y.sites=0:=Decidable.byContradiction h2
 have key:∀ (l seen:List Site),Cal.sitesErr seen l=0→∀ s∈l,Cal.siteErr s=0:=by
  intro l
  induction l with
  | nil=>intro _ _ s hs;cases hs
  | cons q r ih =>
   intro seen h s hs
   unfold Cal.sitesErr at h
   split at h
   ·rename_i h3;exact absurd h h3
   rename_i h3
   split at h
   ·cases h
   rcases List.mem_cons.1 hs with rfl | hs
   ·exact Decidable.byContradiction h3
   exact ih _ h s hs
 exact key _ _ h2
theorem yard_len {y:Yd} (h:Cal.yardE y=0):y.sites.length≤60:=by
 unfold Cal.yardE at h
 split at h
 ·cases h
 omega
theorem siteErr_all {s:Site} (h:Cal.siteErr s=0):1≤s.room∧s.room≤12:=by
 unfold Cal.siteErr at h
 repeat' split at h
 all_goals first | (cases h;done) | skip
 all_goals omega
def FeL (S R E:Option Addr) (c d ec:Nat) (y:Yd) (l:List Ev) (cont day:Int) (w wm:World) (B B2:Nat) (bk:Bk) (a:Act) (W:World):Prop:=∃ (k:Nat) (Ds:List Nat) (v x15 x42 x43 x44 x45 x46 x47 x48 x57:Value),k≤y.sites.length∧Hid (FeO wm Ds v (rowsF y bk.stays cont k) W)∧a={ tmps:=#[(.agg #[.slice S y.sites.length c,.slice R y.rests.length d,.int .i64 y.c0,.int .i64 y.c1,.int .i64 y.c2]),.slice E l.length ec,.int .i64 cont,.int .i64 day,.pointer (some ⟨w.heap.size,0,none⟩),undef,undef,undef,.slice none 0 0,.int .i64 0,.pointer (some ⟨B,0,none⟩),.int .i64 0,.pointer (some ⟨B2,0,none⟩),.pointer (some ⟨wm.heap.size,0,none⟩),undef,x15,undef,.tuple #[.pointer (some ⟨B,0,none⟩),.int .i64 0],(.agg #[.slice S y.sites.length c,.slice R y.rests.length d,.int .i64 y.c0,.int .i64 y.c1,.int .i64 y.c2]),.slice E l.length ec,.tuple #[.pointer (some ⟨B,0,none⟩),.int .i64 0],.pointer (some ⟨B,0,none⟩),.int .i64 0,.int .i64 0,.bool false,undef,.int .i64 cont,.bool true,.bool false,.bool false,.int .i64 day,.bool true,.bool false,.bool false,(.agg #[.slice S y.sites.length c,.slice R y.rests.length d,.int .i64 y.c0,.int .i64 y.c1,.int .i64 y.c2]),.slice E l.length ec,.int .i64 day,.pointer (some ⟨B2,0,none⟩),.pointer (some ⟨w.heap.size,0,none⟩),.slice S y.sites.length c,.int .i64 y.sites.length,.int .i64 k,x42,x43,x44,x45,x46,x47,x48,undef,undef,undef,undef,undef,undef,undef,undef,x57,undef],defers:=Ds.map fun D=>{ target:=.collected D,args:=#[] } }
theorem Free_any (S R:Option Addr) (c d:Nat) (y:Yd) (E:Option Addr) (ec:Nat) (l:List Ev) (cont day:Int) (w:World) (hY:YdIn w S R y) (hcap:y.sites.length≤c) (hE:EvIn w E l) (bk:Bk) (hr:Cal.bkRead y l=(bk,0)) (hd:bk.day≤day) (d0:0≤day) (d1:day≤200000) (n0:0≤cont) (n1:cont≤2) :
  Calls Tryd.prog 10 #[.agg #[.slice S y.sites.length c,.slice R y.rests.length d,.int .i64 y.c0,.int .i64 y.c1,.int .i64 y.c2],.slice E l.length ec,.int .i64 cont,.int .i64 day] w (FreeP w (Cal.freeL y bk.stays cont)):=by
 refine (callsIn_wide (n:=4)).1 ?_
 refine callsIn_of_wp_marks Tryd.func10 rfl trivial ?_ rfl
 simp only[Tryd.ntmps10,List.size_toArray,List.length_cons,List.length_nil,Nat.reduceAdd,Nat.reduceSub,Array.replicate_succ,Array.replicate_zero,List.push_toArray,List.append_toArray,List.nil_append,List.cons_append]
 have hb0:=below_alloc w (.cells #[.slice S y.sites.length c,.slice R y.rests.length d,.int .i64 y.c0,.int .i64 y.c1,.int .i64 y.c2] 26)
 have hy:=Lib.hid (BoxAt.new w #[.slice S y.sites.length c,.slice R y.rests.length d,.int .i64 y.c0,.int .i64 y.c1,.int .i64 y.c2] 26)
 have hread:=Lib.hid (read_any S R c d y E ec l _ (hY.below hb0) hcap (hE.below hb0))
 rw[hr] at hread
 obtain⟨h0,hl,hrs⟩:=bkRead_ok hr
 have hup:=Lib.hid (fun w' (h:Below w.heap.size w w')=>upTo_any S R c d y E ec l day w' (hY.below h) hcap (hE.below h) h0 hl bk hrs hd)
 have hb0:=Lib.hid hb0
 have hYz:=Lib.hid (fun w' (h:Below w.heap.size w w')=>hY.below h)
 clear hY hE hr hrs h0 hd
 (obtain⟨y0,y1,y2,y3⟩:=hy.out.c4;have y4:=hy.out.c 4 _ rfl)
 gi_wp2_with (first
  |(refine⟨trivial,?_⟩;gi_at_call 17;clear y0 y1 y2 y3 y4;refine (callsIn_wide.2 hread.out).mono ?_;intro e9 wn hrd;obtain⟨Bs,B,M,v,rfl,hbk⟩:=hrd.ok rfl;replace hy:=Lib.hid (hy.out.below hbk.bel);replace hb0:=Lib.hid (below_step hb0.out hbk.bel);clear hrd hbk;(obtain⟨y0,y1,y2,y3⟩:=hy.out.c4;have y4:=hy.out.c 4 _ rfl))
  |(refine⟨trivial,?_⟩;gi_at_call 22;refine (callsIn_wide.2 (visCont_any _ _)).mono ?_;rintro e9 wn2 ⟨rfl,rfl⟩)
  |(refine⟨trivial,?_⟩;gi_at_call 23;refine (callsIn_wide.2 (visDay_any _ _)).mono ?_;rintro e9 wn2 ⟨rfl,rfl⟩)
  |(refine⟨trivial,?_⟩;gi_at_call 24;clear y0 y1 y2 y3 y4;refine (callsIn_wide.2 (hup.out _ hb0.out)).mono ?_;rintro e9 wm ⟨Bs2,B2,M2,v2,rfl,hbk2⟩;have hbk2:=Lib.hid hbk2;have y0:=((hy.out.below hbk2.out.bel).alloc (.cells #[.slice none 0 0] 41)).c 0 _ rfl;replace hb0:=Lib.hid (below_step hb0.out hbk2.out.bel)))
 obtain⟨A,cap,_,hbr⟩:=hbk2.out.read
 have hok:=hbr.ok.yard
 have hbr:=Lib.hid hbr
 have hF0:Hid (FeO wm [] (.slice none 0 0) (rowsF y bk.stays cont 0) (wm.alloc (.cells #[.slice none 0 0] 41))):=⟨BoxAt.new wm #[.slice none 0 0] _,OwnL.nil _ _ _ _,below_alloc _ _,fun D hD=>(by cases hD),List.nodup_nil,by simp⟩
 clear hy y0 hbk2 hup
 generalize wm.alloc (.cells #[.slice none 0 0] 41)=Z0 at *
 refine wpIn_loop (FeL S R E c d ec y l cont day w wm B B2 bk) (fun a _=>y.sites.length-(intOf (a.tmps.getD 41 undef)).toNat) ?_ ?_
 ·exact⟨0,[],.slice none 0 0,undef,undef,undef,undef,undef,undef,undef,undef,undef,Nat.zero_le _,hF0,rfl⟩
 clear hF0
 rintro a W ⟨k,Ds,v,x15,x42,x43,x44,x45,x46,x47,x48,x57,hk,hF,rfl⟩
 by_cases hlt:k<y.sites.length
 ·have hkk:(k:Int)<(y.sites.length:Int):=by omega
  have hk':y.sites[k]?=some y.sites[k]:=List.getElem?_eq_getElem hlt
  have hstep:=Lib.hid (rowsF_step (st:=bk.stays) (cont:=cont) hk')
  have hse:=yard_sites hok _ (List.getElem_mem hlt)
  have hrl:=Lib.hid (rowsF_len (y:=y) (st:=bk.stays) (cont:=cont) (fun s hs=>(siteErr_all (yard_sites hok s hs)).2) k)
  have hsr:=Lib.hid (fun W (h:Below w.heap.size w W)=>site_at (hYz.out W h).sites hk')
  generalize y.sites[k]=s at *
  obtain⟨r0,r1⟩:=siteErr_all hse
  obtain⟨b,o,hS2,hbl,hc⟩:=hsr.out _ (below_step hb0.out hF.out.bel)
  subst hS2
  have c0:=hc 0 _ rfl
  have c1:=hc 1 _ rfl
  have c2:=hc 2 _ rfl
  have c3:=hc 3 _ rfl
  have c4:=hc 4 _ rfl
  have c5:=hc 5 _ rfl
  rw[Nat.add_zero] at c0
  clear hc hk' hse hsr
  have hlen60:=yard_len hok
  have hDl:=Lib.hid hF.out.dlt
  have hDx:=Lib.hid (fun D hD=>(hF.out.ds D hD).2)
  have hsz:=Lib.hid hF.out.size
  gi_wp2_with (refine⟨trivial,?_⟩;gi_at_call 25;clear c0 c1 c2 c3 c4 c5 hbl;refine (callsIn_wide.2 (free_any B2 s cont _)).mono ?_;rintro e9 wf ⟨rfl,rfl⟩)
  obtain⟨Y,hY⟩:∃ Y,(((W.alloc (.cells #[.string s.name,.int .i64 s.kind,.int .i64 s.soil,.int .i64 s.depth,.int .i64 s.step,.int .i64 s.room] 53)).alloc (.cells #[.pointer (some ⟨B2,0,none⟩)] 57)).alloc (.cells #[.string s.name,.int .i64 s.kind,.int .i64 s.soil,.int .i64 s.depth,.int .i64 s.step,.int .i64 s.room] 53)).alloc (.cells #[.int .i64 cont] 3)=Y:=⟨_,rfl⟩
  have hN:FeN wm W.heap.size (⟨W.heap.size+1+1,W.heap.size+1,W.heap.size+1+1+1,B2,M2,some ⟨b,o,none⟩,R,c,d,y,A,cap,bk,s,cont⟩:FrK) Ds v (rowsF y bk.stays cont k) 0 Y:=by rw[←hY];exact hF.out.round (K:=(⟨W.heap.size+1+1,W.heap.size+1,W.heap.size+1+1+1,B2,M2,some ⟨b,o,none⟩,R,c,d,y,A,cap,bk,s,cont⟩:FrK)) (s:=s) rfl (by show 0≤s.room;omega)
  rw[hY]
  have hWY:W.heap.size<Y.heap.size:=hN.q.lt
  have hXY:wm.heap.size<Y.heap.size:=Nat.lt_trans hN.lo hWY
  replace hDl:Hid (∀ D∈Ds,D<Y.heap.size):=fun D hD=>Nat.lt_trans (hDl.out D hD) hWY
  replace hN:=Lib.hid hN
  clear hY hF hsz
  generalize W.heap.size=Q at *
  refine wpIn_rangeFunc_rawV rfl (by omega) (gf:=38) (lb:=#[.pointer (some ⟨Q+1+1,0,none⟩),.pointer (some ⟨Q+1,0,none⟩),.pointer (some ⟨Q+1+1+1,0,none⟩)]) rfl trivial (enters_of Tryd.func38 (by kernel_rfl) rfl)
   (free_raw (⟨Q+1+1,Q+1,Q+1+1+1,B2,M2,some ⟨b,o,none⟩,R,c,d,y,A,cap,bk,s,cont⟩:FrK) r0 r1 n0 n1 3) (fun _=>rfl)
   (fun i A B k o _ hs hk _=>by have hb:Below A.heap.size A B:=(by rcases hs with h | h <;> exact h.2.2);exact (hb.block k (Array.getElem?_eq_some_iff.1 hk).1).trans hk)
   (fun i Zi=>∃ v,FeN wm Q (⟨Q+1+1,Q+1,Q+1+1+1,B2,M2,some ⟨b,o,none⟩,R,c,d,y,A,cap,bk,s,cont⟩:FrK) Ds v (rowsF y bk.stays cont k) i Zi) (fun i Zi=>(∃ v,FeN wm Q (⟨Q+1+1,Q+1,Q+1+1+1,B2,M2,some ⟨b,o,none⟩,R,c,d,y,A,cap,bk,s,cont⟩:FrK) Ds v (rowsF y bk.stays cont k) i Zi)∧(i:Int)<s.room∧Cal.placeE y bk.stays s.name (i:Nat) cont=0) (fun _ _=>False)
   (fun i A h=>by obtain⟨v,h⟩:=h;exact h.inv (X0:=A) hbr.out rfl rfl rfl rfl)
   (fun i A B h hs=>by obtain⟨v,h⟩:=h;exact⟨v,(h.skip hs.2.1 hs.1).below hs.2.2⟩)
   (fun i A B h hs=>by obtain⟨v,h⟩:=h;exact⟨⟨v,h.below hs.2.2⟩,hs.1,hs.2.1⟩)
   (fun i A o _ h=>by obtain⟨v,h⟩:=h;exact⟨v,h.below (below_alloc _ _)⟩)
   (fun i A l o o' hl hX ho _ h=>by obtain⟨v,h⟩:=h;exact⟨v,h.put hX ho (by omega) (fun hD=>by have:=hDl.out l hD;omega)⟩)
   (fun i A l o o' hl hX ho _ h=>by obtain⟨⟨v,h⟩,h1⟩:=h;exact⟨⟨v,h.put hX ho (by omega) (fun hD=>by have:=hDl.out l hD;omega)⟩,h1⟩)
   (fun _ _ _ _ _ _ _ _ _ h=>h.elim)
   ⟨v,hN.out⟩ ?a1 ?assign ?body ?done ?stop
  case assign =>
   intro l x W K hK
   gi_wp2
   exact hK
  case body =>
   rintro l0 i W ⟨⟨v,hN⟩,hil,hp⟩
   obtain⟨A5,c5,hv5,_⟩:=OwnL.form hN.o.own
   obtain⟨q5,hq5⟩:∃ q:Nat,v=.slice A5 q c5:=⟨_,hv5⟩
   clear hv5
   subst hq5
   have z0:=hN.o.ob.c 0 _ rfl;have s0:=hN.q.c 0 _ rfl
   have hll:=levL_len y bk.stays cont s i
   have hrl2:=hrl.out
   have happ:=Lib.hid (fun Z7 v' hown (hg:(W.alloc (.cells #[.string s.name,.int .i64 (i:Nat)] 70)).grownBy Z7 (Value.slice A5 q5 c5).ownBlock) hob=>(hN.below (below_alloc W (.cells #[.string s.name,.int .i64 (i:Nat)] 70))).app (v':=v') hp hil hown hg hob)
   have hN:=Lib.hid hN
   clear hp
   gi_wp2_with (gi_at_builtin;refine wpListF_append_rows elemBth rfl _ _ rfl rfl rfl (OwnL.below hN.out.o.own (below_alloc W (.cells #[.string s.name,.int .i64 (i:Nat)] 70))) (rowsAt_new W [.string s.name,.int .i64 (i:Nat)] 70) rfl (bth_wid [⟨s.name,(i:Nat)⟩]) (bth_one [⟨s.name,(i:Nat)⟩]) (by simp only[List.length_map,List.length_singleton,List.length_append];omega) (by decide) (by have:=hN.out.o.size;rw[World.size_alloc];omega) ?_;intro v' w7 hown7 hg7 hob7;obtain⟨A6,c6,hv6,_⟩:=OwnL.form hown7;obtain⟨q6,hq6⟩:∃ q:Nat,v'=.slice A6 q c6:=⟨_,hv6⟩;clear hv6;subst hq6;obtain⟨q1,q2,q3⟩:=happ.out w7 _ hown7 hg7 hob7;have q1:=Lib.hid q1;have q3:=Lib.hid q3;have f0:=q2.free 0 Nat.zero_lt_one;have u0:=q2.c 0 _ rfl;clear hown7 hg7 hob7 q2)
   exact⟨(KeepsOthers.alloc _ _).trans q3.out,_,q1.out⟩
  case done =>
   rintro D i W hE ⟨v,hN⟩ hle hD
   have hF2:Hid (FeO wm (D :: Ds) v (rowsF y bk.stays cont (k+1)) W):=by
    show FeO _ _ _ _ _
    have h:=hN.o.more hD (by omega) (fun E hE=>by have:=hDl.out E hE;omega)
    have hE':(i:Int)=s.room:=hE
    rw[hstep.out,show s.room.toNat=i by omega]
    exact h
   have hwr:IntKind.i64.wrap ((k:Int)+1)=(k:Int)+1:=wrap_small _ (by omega) (by omega)
   clear hN hD
   gi_wp2
   refine⟨⟨k+1,D :: Ds,v,_,_,_,_,_,_,_,_,_,by omega,hF2,rfl⟩,?_⟩
   simp[intOf]
   omega
  case stop =>
   rintro D c W h
   exact h.elim
 obtain rfl:k=y.sites.length:=by omega
 obtain⟨A5,c5,hv5,_⟩:=OwnL.form hF.out.own
 obtain⟨q5,hq5⟩:∃ q:Nat,v=.slice A5 q c5:=⟨_,hv5⟩
 clear hv5
 subst hq5
 have z0:=hF.out.ob.c 0 _ rfl
 have hbz:=hb0.out.size
 gi_wp2
 refine leaves_defs Ds W hF.out (fun W' hF'=>?_)
 refine⟨_,results_tmp2 rfl _ _ _,_,rfl,?_,below_step hb0.out hF'.bel⟩
 have h:=hF'.own.less (B':=w.heap.size) (by omega)
 rw[rowsF_all] at h
 exact h
end Go.Proofs.YtcnfhnndppollaaDoor
namespace Go.Proofs.YtcnfhnndppollaaDoor
open Go Go.RowKit Go.Shelf
theorem wpAnyH_hide {P:Program} {md:Region.Mode} {ops:Array Oper} {Q:Exit→Act→World→Prop} {S:World→Prop} {fuel:Nat} {listed:Array Bool} {a:Act} {w:World} (hp:∀ c a (d:Nat) v w,Q (.panic c) (a.put (some d) v) w→Q (.panic c) a w)
  (h:∀ Q0,(∀ c a (d:Nat) v w,Q0 (.panic c) (a.put (some d) v) w→Q0 (.panic c) a w)→Hid (Q0=Q)→wpAnyH P md ops Q0 S fuel listed a w):wpAnyH P md ops Q S fuel listed a w:=h Q hp rfl
theorem tkQ {P:Program} {ops:Array Oper} {Q:Exit→Act→World→Prop} {md:Region.Mode} {S:World→Prop} (i:Nat) (d:Nat) (hp:∀ c a (d:Nat) v w,Q (.panic c) (a.put (some d) v) w→Q (.panic c) a w) {oi:Oper} {v:Value} {fuel:Nat} {listed:Array Bool} {a:Act} {w:World}
  (hy:∀ w,S w→(execOp a.eval oi).run P w=.ok (.value v) w) (h:wpAnyH P md ops Q S fuel (listed.setIfInBounds i true) (a.put (some d) v) w)
  (hi:ops[i]?=some oi:=by exact rfl) (hdd:oi.dst=some d:=by kernel_rfl) (hs:Region.noSelect ops=true:=by kernel_rfl) (hf:Region.free md ops listed i=true:=by decide +kernel) (hr:(Region.ready md ops listed).contains i=true:=by decide +kernel)
  (hw:Region.wanted oi (yielded ops a.tmps)=true:=by kernel_rfl) (hS:S w:=by assumption):wpAnyH P md ops Q S (fuel+1) listed a w :=
 tkH2 i d hy h hi hdd hs hf hr (fun c _ w h=>by rw[hdd] at h;exact hp c _ d v w h) hw hS
theorem tkQx {P:Program} {ops:Array Oper} {Q:Exit→Act→World→Prop} {md:Region.Mode} {S:World→Prop} (i:Nat) (d:Nat) (hp:∀ c a (d:Nat) v w,Q (.panic c) (a.put (some d) v) w→Q (.panic c) a w) {oi:Oper} {v:Value} {fuel:Nat} {listed l':Array Bool} {a a':Act} {w:World}
  (h:wpAnyH P md ops Q S fuel l' a' w) (hi:ops[i]?=some oi:=by exact rfl)
  (hy:∀ w,S w→(execOp a.eval oi).run P w=.ok (.value v) w:=by (intro w' hSw;replace hSw:=hSw.cs;(try simp only[cs_iff_cons] at hSw);go_simp;(try with_reducible rfl)))
  (ha:a.put (some d) v=a':=by ((try simp only[Act.put,List.setIfInBounds_toArray,List.set_cons_zero,List.set_cons_succ]);exact rfl))
  (hl:listed.setIfInBounds i true=l':=by ((try simp only[List.setIfInBounds_toArray,List.set_cons_zero,List.set_cons_succ]);exact rfl))
  (hdd:oi.dst=some d:=by kernel_rfl) (hs:Region.noSelect ops=true:=by kernel_rfl) (hf:Region.free md ops listed i=true:=by decide +kernel) (hr:(Region.ready md ops listed).contains i=true:=by decide +kernel)
  (hw:Region.wanted oi (yielded ops a.tmps)=true:=by kernel_rfl) (hS:S w:=by assumption):wpAnyH P md ops Q S (fuel+1) listed a w :=
 tkQ i d hp hy (by rw[ha,hl];exact h) hi hdd hs hf hr hw hS
end Go.Proofs.YtcnfhnndppollaaDoor
