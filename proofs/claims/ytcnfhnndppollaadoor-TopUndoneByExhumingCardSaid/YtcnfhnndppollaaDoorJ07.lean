/- What the statements rest on: definitions and walks, part 07. -/
import Derived.Test.YtcnfhnndppollaaDoorJ06
set_option maxRecDepth 100000
set_option maxHeartbeats 16000000
set_option linter.unusedSimpArgs false
set_option linter.unusedVariables false
namespace Go.Proofs.YtcnfhnndppollaaDoor
open Go Go.RowKit Go.Maps
theorem Cal.lastIx_snoc (l:List Sty) (s:Sty) (n:ByteArray):Cal.lastIx (l ++ [s]) n 0=if s.lot.remain=n then some l.length else Cal.lastIx l n 0:=by
 have h:∀ (l:List Sty) (i:Nat),Cal.lastIx (l ++ [s]) n i=if s.lot.remain=n then some (i+l.length) else Cal.lastIx l n i:=by
  intro l
  induction l with
  | nil =>
   intro i
   show (match (none:Option Nat) with | some k=>some k | none=>if s.lot.remain=n then some i else none)=_
   rfl
  | cons q r ih =>
   intro i
   show (match Cal.lastIx (r ++ [s]) n (i+1) with | some k=>some k | none=>if q.lot.remain=n then some i else none)=_
   rw[ih]
   by_cases hs:s.lot.remain=n
   ·rw[if_pos hs,if_pos hs]
    simp only[List.length_cons,Option.some.injEq];omega
   rw[if_neg hs,if_neg hs]
   rfl
 rw[h l 0,Nat.zero_add]
theorem Cal.lastIx_names:∀ {l l':List Sty} (n:ByteArray) (i:Nat),l.map (fun s=>s.lot.remain)=l'.map (fun s=>s.lot.remain)→Cal.lastIx l n i=Cal.lastIx l' n i
 | [],[],_,_,_=>rfl
 | [],_ :: _,_,_,h=>by simp at h
 | _ :: _,[],_,_,h=>by simp at h
 | a :: r,b :: t,n,i,h=>by
  simp only[List.map_cons,List.cons.injEq] at h
  unfold Cal.lastIx
  rw[Cal.lastIx_names n (i+1) h.2,h.1]
theorem endS_lots (l:List Sty) (n:ByteArray) (d:Int):(Cal.endS l n d).map (·.lot)=l.map (·.lot):=by
 unfold Cal.endS
 cases Cal.lastIx l n 0 with
 | none=>rfl
 | some i =>
  show (l.modify i _).map _=_
  apply List.ext_getElem
  ·simp
  intro k h1 h2
  simp only[List.getElem_map,List.getElem_modify]
  split <;> rfl
theorem endS_len (l:List Sty) (n:ByteArray) (d:Int):(Cal.endS l n d).length=l.length:=by
 have:=congrArg List.length (endS_lots l n d)
 simpa using this
theorem lastF_snoc (l:List Sty) (s:Sty):lastF (l ++ [s])=setAt (lastF l) s.lot.remain.data.toList (natV l.length):=by
 funext x
 unfold setAt
 by_cases h:x=s.lot.remain.data.toList
 ·subst h
  rw[if_pos rfl,lastF_name,Cal.lastIx_snoc,if_pos rfl]
  rfl
 rw[if_neg h]
 unfold lastF
 rw[Cal.lastIx_snoc,if_neg (fun e=>h (by rw[e]))]
theorem lastF_endS (l:List Sty) (n:ByteArray) (d:Int):lastF (Cal.endS l n d)=lastF l:=by
 funext x
 unfold lastF
 rw[Cal.lastIx_names (l':=l) _ 0]
 have:=congrArg (List.map (·.remain)) (endS_lots l n d)
 rw[List.map_map,List.map_map] at this
 exact this
theorem place_isSome {y:Yd} {l:List Sty} {n:ByteArray} {a b:Int} (h:Cal.placeE y l n a b=0):(Cal.siteOf y.sites n).isSome=true:=by
 unfold Cal.placeE at h
 split at h
 ·cases h
 rename_i s hs;rw[hs];rfl
theorem event_all {e:Ev} (h:Cal.eventE e=0):(0≤e.day∧e.day≤200000)∧(0≤e.kind∧e.kind≤4)∧((e.kind=0∨e.kind=2)→(0≤e.level∧e.level≤11)∧(0≤e.cont∧e.cont≤2))∧(e.kind=3→0≤e.level∧e.level≤11):=by
 unfold Cal.eventE at h
 dsimp only at h
 repeat' split at h
 all_goals first | (cases h;done) | skip
 all_goals exact⟨by omega,by omega,by omega,by omega⟩
theorem bkErr_lot {y:Yd} {bk:Bk} {e:Ev} (hok:BkOk y bk.stays) (h:(Cal.bkErr y bk e).2=0) :
  (Cal.bkErr y bk e).1.remain=e.remain∧((0≤(Cal.bkErr y bk e).1.level∧(Cal.bkErr y bk e).1.level≤11)∧(0≤(Cal.bkErr y bk e).1.since∧(Cal.bkErr y bk e).1.since≤200000)∧(0≤(Cal.bkErr y bk e).1.cont∧(Cal.bkErr y bk e).1.cont≤2)) ∧
  (((Cal.bkErr y bk e).1.state=1∨(Cal.bkErr y bk e).1.state=3)→(Cal.siteOf y.sites (Cal.bkErr y bk e).1.site).isSome=true)∧((Cal.bkErr y bk e).1.site=e.site∨(Cal.bkErr y bk e).1.site=⟨#[]⟩∨∃ s∈bk.stays,(Cal.bkErr y bk e).1.site=s.lot.site)∧Cal.eventE e=0:=by
 by_cases h0:Cal.eventE e=0
 ·obtain⟨hday,hkind,hput,hlow⟩:=event_all h0
  by_cases hd:e.day<bk.day
  ·have e1:Cal.bkErr y bk e=(Cal.lot0,9):=by unfold Cal.bkErr;rw[if_neg (by rw[h0];simp),if_pos hd]
   rw[e1] at h;cases h
  have hE:Cal.bkErr y bk e=if e.kind=0∨e.kind=2 then
     match Cal.lotOf bk.stays e.remain with
     | some old=>if e.kind=0 then (Cal.lot0,5) else if old.state≠0 then (Cal.lot0,28) else Cal.bkErr.putS y bk e
     | none=>if e.kind=2 then (Cal.lot0,6) else Cal.bkErr.putS y bk e
    else match Cal.lotOf bk.stays e.remain with
     | none=>(Cal.lot0,6)
     | some old=>if old.state≠1 then (Cal.lot0,28) else
      if e.kind=1 then (⟨e.remain,0,⟨#[]⟩,0,0,e.day⟩,Cal.openE y bk.stays old e.day e.order)
      else if e.kind=4 then (⟨e.remain,2,⟨#[]⟩,0,0,e.day⟩,Cal.openE y bk.stays old e.day e.order)
      else if Cal.bkErr.kindOf y old.site≠0 then (Cal.lot0,15)
      else if old.level≤e.level then (Cal.lot0,2)
      else if Cal.occB bk.stays old.site e.level (old.level-1) then (Cal.lot0,16)
      else (⟨e.remain,1,old.site,e.level,old.cont,e.day⟩,Cal.openE y bk.stays old e.day e.order):=by
   unfold Cal.bkErr;rw[if_neg (by rw[h0];simp),if_neg hd];rfl
  have hputS:(Cal.bkErr.putS y bk e).2=0→e.kind=0∨e.kind=2→(Cal.bkErr.putS y bk e).1.remain=e.remain∧((0≤(Cal.bkErr.putS y bk e).1.level∧(Cal.bkErr.putS y bk e).1.level≤11)∧(0≤(Cal.bkErr.putS y bk e).1.since∧(Cal.bkErr.putS y bk e).1.since≤200000)∧(0≤(Cal.bkErr.putS y bk e).1.cont∧(Cal.bkErr.putS y bk e).1.cont≤2)) ∧
    (((Cal.bkErr.putS y bk e).1.state=1∨(Cal.bkErr.putS y bk e).1.state=3)→(Cal.siteOf y.sites (Cal.bkErr.putS y bk e).1.site).isSome=true)∧((Cal.bkErr.putS y bk e).1.site=e.site∨(Cal.bkErr.putS y bk e).1.site=⟨#[]⟩∨∃ s∈bk.stays,(Cal.bkErr.putS y bk e).1.site=s.lot.site):=by
   intro hp hk
   unfold Cal.bkErr.putS at hp ⊢
   split at hp
   ·rename_i hne;exact absurd hp hne
   rename_i hne
   rw[if_neg hne]
   have hpl:Cal.placeE y bk.stays e.site e.level e.cont=0:=by simpa using hne
   have:=hput hk
   exact⟨rfl,⟨this.1,hday,this.2⟩,fun _=>place_isSome hpl,.inl rfl⟩
  rw[hE] at h ⊢
  by_cases hk:e.kind=0∨e.kind=2
  ·rw[if_pos hk] at h ⊢
   cases ho:Cal.lotOf bk.stays e.remain with
   | none =>
    rw[ho] at h
    dsimp only at h ⊢
    by_cases k2:e.kind=2
    ·rw[if_pos k2] at h;cases h
    rw[if_neg k2] at h ⊢
    obtain⟨p1,p2,p3,p4⟩:=hputS h hk
    exact⟨p1,p2,p3,p4,h0⟩
   | some old =>
    rw[ho] at h
    dsimp only at h ⊢
    by_cases k0:e.kind=0
    ·rw[if_pos k0] at h;cases h
    rw[if_neg k0] at h ⊢
    by_cases s0:old.state≠0
    ·rw[if_pos s0] at h;cases h
    rw[if_neg s0] at h ⊢
    obtain⟨p1,p2,p3,p4⟩:=hputS h hk
    exact⟨p1,p2,p3,p4,h0⟩
  rw[if_neg hk] at h ⊢
  cases ho:Cal.lotOf bk.stays e.remain with
  | none=>rw[ho] at h;cases h
  | some old =>
   obtain⟨st,hst,hlot,_⟩:=lotOf_mem ho
   have hnum:=hok.num st hst
   have hsite:=hok.site st hst
   rw[hlot] at hnum hsite
   rw[ho] at h
   dsimp only at h ⊢
   by_cases s1:old.state≠1
   ·rw[if_pos s1] at h;cases h
   rw[if_neg s1] at h ⊢
   by_cases k1:e.kind=1
   ·rw[if_pos k1] at h ⊢
    exact⟨rfl,⟨⟨Int.le_refl 0,by show (0:Int)≤11;decide⟩,hday,⟨Int.le_refl 0,by show (0:Int)≤2;decide⟩⟩,fun hh=>(by rcases hh with hh | hh <;> cases hh),.inr (.inl rfl),h0⟩
   rw[if_neg k1] at h ⊢
   by_cases k4:e.kind=4
   ·rw[if_pos k4] at h ⊢
    exact⟨rfl,⟨⟨Int.le_refl 0,by show (0:Int)≤11;decide⟩,hday,⟨Int.le_refl 0,by show (0:Int)≤2;decide⟩⟩,fun hh=>(by rcases hh with hh | hh <;> cases hh),.inr (.inl rfl),h0⟩
   rw[if_neg k4] at h ⊢
   by_cases z1:Cal.bkErr.kindOf y old.site≠0
   ·rw[if_pos z1] at h;cases h
   rw[if_neg z1] at h ⊢
   by_cases z2:old.level≤e.level
   ·rw[if_pos z2] at h;cases h
   rw[if_neg z2] at h ⊢
   cases z3:Cal.occB bk.stays old.site e.level (old.level-1)
   ·rw[z3] at h
    rw[if_neg (by decide)] at h ⊢
    have:=hlow (by omega)
    exact⟨rfl,⟨this,hday,hnum.2.2⟩,fun _=>hsite (.inl (by simpa using s1)),.inr (.inr ⟨st,hst,by rw[hlot]⟩),h0⟩
   rw[z3] at h;cases h
 have e1:Cal.bkErr y bk e=(Cal.lot0,Cal.eventE e):=by unfold Cal.bkErr;rw[if_pos h0]
 rw[e1] at h
 exact absurd h h0
theorem BkOk.add {y:Yd} {bk:Bk} {e:Ev} (hok:BkOk y bk.stays) (hl:bk.stays.length<400) (hn1:e.remain.size≤maxLen) (hn2:e.site.size≤maxLen):BkOk y (Cal.bkAdd y bk e).1.stays:=by
 unfold Cal.bkAdd
 by_cases h:(Cal.bkErr y bk e).2≠0
 ·rw[if_pos h];exact hok
 rw[if_neg h]
 have h:(Cal.bkErr y bk e).2=0:=by simpa using h
 obtain⟨p1,p2,p3,p4,p5⟩:=bkErr_lot hok h
 have hmem:∀ s∈Cal.endS bk.stays e.remain e.day ++ [⟨(Cal.bkErr y bk e).1,-1⟩],s.lot=(Cal.bkErr y bk e).1∨∃ q∈bk.stays,s.lot=q.lot:=by
  intro s hs
  rcases List.mem_append.1 hs with hs | hs
  ·right
   have:s.lot∈(Cal.endS bk.stays e.remain e.day).map (·.lot):=List.mem_map.2 ⟨s,hs,rfl⟩
   rw[endS_lots] at this
   obtain⟨q,hq,e1⟩:=List.mem_map.1 this
   exact⟨q,hq,e1.symm⟩
  rw[List.mem_singleton] at hs
  subst hs
  exact .inl rfl
 refine⟨hok.yard,?_,fun s hs=>?_,fun s hs=>?_,fun s hs=>?_,fun s hs=>?_⟩
 ·show (Cal.endS bk.stays e.remain e.day ++ [_]).length≤400
  rw[List.length_append,endS_len]
  simp;omega
 ·rcases hmem s hs with h1 | ⟨q,hq,h1⟩
  ·rw[h1,p1];exact hn1
  rw[h1];exact hok.nm q hq
 ·rcases hmem s hs with h1 | ⟨q,hq,h1⟩
  ·rw[h1]
   rcases p4 with h2 | h2 | ⟨r,hr,h2⟩
   ·rw[h2];exact hn2
   ·rw[h2];exact Nat.zero_le _
   rw[h2];exact hok.sn r hr
  rw[h1];exact hok.sn q hq
 ·rcases hmem s hs with h1 | ⟨q,hq,h1⟩
  ·rw[h1];exact p2
  rw[h1];exact hok.num q hq
 rcases hmem s hs with h1 | ⟨q,hq,h1⟩
 ·rw[h1];exact p3
 rw[h1];exact hok.site q hq
end Go.Proofs.YtcnfhnndppollaaDoor
namespace Go.Proofs.YtcnfhnndppollaaDoor
open Go Go.RowKit
theorem flat_set {m:Nat}:∀ {rows:List (List Value)} {i j:Nat} (hw:∀ r∈rows,r.length=m) (hi:i<rows.length) (hj:j<m) (u:Value),rows.flatten.set (i*m+j) u=(rows.set i (rows[i].set j u)).flatten
 | [],i,j,_,hi,_,_=>by simp at hi
 | q :: r,0,j,hw,_,hj,u=>by
  have hq:=hw q (List.mem_cons_self ..)
  rw[List.flatten_cons,Nat.zero_mul,Nat.zero_add,List.set_append_left _ _ (by omega)]
  rfl
 | q :: r,i+1,j,hw,hi,hj,u=>by
  have hq:=hw q (List.mem_cons_self ..)
  have ih:=flat_set (i:=i) (j:=j) (fun x hx=>hw x (List.mem_cons_of_mem _ hx)) (by simpa using hi) hj u
  rw[List.flatten_cons,List.set_append_right _ _ (by rw[hq,Nat.succ_mul];omega),hq,show (i+1)*m+j-m=i*m+j by rw[Nat.succ_mul];omega,ih]
  rfl
theorem OwnL.setAt {w:World} {B:Nat} {E:TypeId} {m g c:Nat} {rows:List (List Value)} (h:OwnL w B E m (.slice (some ⟨g,0,none⟩) rows.length c) rows) {i j:Nat} (hi:i<rows.length) (hj:j<m) (u:Value) (hu:u.oneCell'=true) :
  OwnL (w.setCell ⟨g,i*m+j,none⟩ u) B E m (.slice (some ⟨g,0,none⟩) rows.length c) (rows.set i (rows[i].set j u))∧w.frozen? ⟨g,i*m+j,none⟩=false∧∃ x,w.cell? ⟨g,i*m+j,none⟩=some x:=by
 have hw:=h.wid
 have hil:rows[i].length=m:=hw _ (List.getElem_mem hi)
 have hfl:=flat_len hw
 have hlt:i*m+j<rows.flatten.length:=by
  rw[hfl]
  have:=Nat.mul_le_mul_right m (show i+1≤rows.length from hi)
  rw[Nat.succ_mul] at this
  omega
 rcases h.own.2 with ⟨h0,_⟩ | ⟨g',cap,cur,hv,hb,hg,h2,h3,h4,h5⟩
 ·cases h0
 simp only[Value.slice.injEq,Option.some.injEq,Addr.mk.injEq,and_true,true_and] at hv
 obtain⟨rfl,rfl⟩:=hv
 have hcl:i*m+j<cur.size:=by rw[←h5,List.length_take] at hlt;simp at hlt;omega
 refine⟨⟨⟨?_,.inr ⟨g,c,cur.setIfInBounds (i*m+j) u,by rw[List.length_set],hb,?_,by rw[List.length_set];exact h2,h3,by simp[h4],?_⟩⟩,?_,?_⟩,?_,?_⟩
 ·rw[←flat_set hw hi hj u,List.length_set,hfl,List.length_set]
 ·simp[World.setCell,Array.getElem?_modify,hg]
 ·rw[List.length_set,←flat_set hw hi hj u,←h5]
  rw[Array.toList_setIfInBounds,List.take_set]
 ·intro r hr
  rcases List.mem_or_eq_of_mem_set hr with hr | rfl
  ·exact hw r hr
  rw[List.length_set];exact hil
 ·intro r hr x hx
  rcases List.mem_or_eq_of_mem_set hr with hr | rfl
  ·exact h.one r hr x hx
  rcases List.mem_or_eq_of_mem_set hx with hx | rfl
  ·exact h.one _ (List.getElem_mem hi) x hx
  exact hu
 ·unfold World.frozen?
  simp[hg]
 obtain⟨x,hx⟩:∃ x,cur[i*m+j]?=some x:=⟨_,Array.getElem?_eq_getElem hcl⟩
 exact⟨x,by unfold World.cell?;simp[hg,hx]⟩
end Go.Proofs.YtcnfhnndppollaaDoor
namespace Go.Proofs.YtcnfhnndppollaaDoor
open Go Go.RowKit Go.Maps Go.WideMaps
theorem error_any (B M:Nat) (S R:Option Addr) (c d:Nat) (y:Yd) (A:Option Addr) (cap:Nat) (bk:Bk) (e:Ev) (w:World) (hB:BkR w B M S R c d y A cap bk) (hn1:e.remain.size≤maxLen) (hn2:e.site.size≤maxLen) :
  Calls Tryd.prog 36 #[.pointer (some ⟨B,0,none⟩),.agg #[.int .i64 e.day,.int .i64 e.kind,.string e.site,.int .i64 e.level,.string e.remain,.int .i64 e.cont,.bool e.order]] w (ErP w (Cal.bkErr y bk e)):=by
 by_cases h0:Cal.eventE e=0
 ·by_cases hd:e.day<bk.day
  ·exact error_bad B M S R c d y A cap bk e w hB hn1 hn2 (.inr hd)
  by_cases hk:e.kind=0∨e.kind=2
  ·exact error_put B M S R c d y A cap bk e w hB hn1 hn2 h0 hd hk
  exact error_take B M S R c d y A cap bk e w hB hn1 hn2 h0 hd hk
 exact error_bad B M S R c d y A cap bk e w hB hn1 hn2 (.inl h0)
structure BkW (w0 w:World) (Bs B M:Nat) (S R:Option Addr) (c d:Nat) (y:Yd) (v:Value) (bk:Bk):Prop where
 box:BoxAt w B [.slice S y.sites.length c,.slice R y.rests.length d,.int .i64 y.c0,.int .i64 y.c1,.int .i64 y.c2,v,.map (some M),.int .i64 bk.day]
 own:OwnL w Bs 88 7 v (bk.stays.map Sty.cells)
 map:MapIs Tryd.prog 9 strLit w M bk.stays.length (lastF bk.stays)
 lo:w0.heap.size≤B∧w0.heap.size≤M
 hi:B<Bs∧M<Bs∧Bs≤w.heap.size∧B≠M
 yd:YdIn w0 S R y
 bel:Below w0.heap.size w0 w
 ok:BkOk y bk.stays
section
variable {w0 w w' : World} {Bs B M : Nat} {S R : Option Addr} {c d : Nat} {y : Yd} {v : Value} {bk : Bk}
theorem BkW.below (h:BkW w0 w Bs B M S R c d y v bk) (hb:Below w.heap.size w w'):BkW w0 w' Bs B M S R c d y v bk :=
 ⟨h.box.below hb,h.own.below hb,h.map.below hb (by have:=h.hi;omega),h.lo,⟨h.hi.1,h.hi.2.1,Nat.le_trans h.hi.2.2.1 hb.size,h.hi.2.2.2⟩,h.yd,h.bel.trans (hb.mono h.bel.size),h.ok⟩
theorem BkW.read (h:BkW w0 w Bs B M S R c d y v bk):∃ A cap,v=.slice A bk.stays.length cap∧BkR w B M S R c d y A cap bk:=by
 obtain⟨A,cap,hv,hr⟩:=h.own.form
 rw[List.length_map] at hv
 have hb:=h.box
 rw[hv] at hb
 exact⟨A,cap,hv,hb,hr,⟨_,h.map⟩,by have:=h.hi;omega,h.yd.below h.bel,h.ok⟩
end
theorem elemSty:Elem Tryd.prog 83 88 7 72:=Elem.mk' Tryd.underlying83 (z:=.agg #[.string ⟨#[]⟩,.int .i64 0,.string ⟨#[]⟩,.int .i64 0,.int .i64 0,.int .i64 0,.int .i64 0]) (by kernel_rfl) rfl (by decide)
theorem sty_wid (l:List Sty):∀ r∈l.map Sty.cells,r.length=7:=fun r hr=>by obtain⟨s,_,rfl⟩:=List.mem_map.1 hr;rfl
theorem sty_one (l:List Sty):∀ r∈l.map Sty.cells,∀ u∈r,u.oneCell'=true:=fun r hr u hu=>by
 obtain⟨s,_,rfl⟩:=List.mem_map.1 hr
 simp only[Sty.cells,List.mem_cons,List.not_mem_nil,or_false] at hu
 rcases hu with rfl | rfl | rfl | rfl | rfl | rfl | rfl <;> rfl
end Go.Proofs.YtcnfhnndppollaaDoor
namespace Go.Proofs.YtcnfhnndppollaaDoor
open Go Go.RowKit
section
variable {F : Fence} {n : Nat} {P : Program} {ops : Array Oper} {Q : Exit → Act → World → Prop} {md : Region.Mode} {S : World → Prop} {y : Nat}
def waiters (ops:Array Oper) (md:Region.Mode) (i:Nat):List Nat :=
 (List.range ops.size).foldl (fun acc k=>if k == i || ((ops[k]?.map fun o=>o.after.any fun e=>Region.binds md e && acc.contains e.on).getD false) then k :: acc else acc) []
def chained (ops:Array Oper) (md:Region.Mode) (i:Nat) (C:List Nat):Bool :=
 C.all fun k=>k == i || ((ops[k]?.map fun o=>o.after.any fun e=>Region.binds md e && C.contains e.on).getD false)
def unlistedB (listed:Array Bool) (C:List Nat):Bool:=C.all fun k=>listed.getD k true == false
theorem not_ready_of_chained {i j:Nat} {C:List Nat} {listed:Array Bool} (hC:chained ops md i C=true) (hU:∀ k∈C,listed.getD k true=false) (hj:j∈Region.ready md ops listed) (hji:j≠i):j∉C:=by
 intro hm
 have h1:=List.all_eq_true.1 hC j hm
 obtain⟨_,oj,hoj,hall⟩:=mem_ready.1 hj
 simp only[hoj,Option.map_some,Option.getD_some,Bool.or_eq_true,beq_iff_eq] at h1
 rcases h1 with h1 | h1
 ·exact hji h1
 obtain⟨e,he,hb⟩:=Array.any_eq_true'.1 h1
 rw[Bool.and_eq_true] at hb
 have hin:e.on∈C:=by simpa using hb.2
 have h2:=hall e he hb.1
 have h0:=hU _ hin
 rcases Nat.lt_or_ge e.on listed.size with h' | h'
 ·simp[h'] at h0 h2;rw[h0] at h2;cases h2
 simp[h'] at h0
theorem unlisted_spec {listed:Array Bool} {C:List Nat} (h:unlistedB listed C=true):∀ k∈C,listed.getD k true=false:=fun k hk=>by
 have:=List.all_eq_true.1 h k hk
 simpa using this
end
end Go.Proofs.YtcnfhnndppollaaDoor
namespace Go.Proofs.YtcnfhnndppollaaDoor
open Go Go.RowKit
section
variable {P : Program} {ops : Array Oper} {Q : Exit → Act → World → Prop} {md : Region.Mode} {S : World → Prop} {y : Nat}
def wpAnyHY (P:Program) (md:Region.Mode) (ops:Array Oper) (Q:Exit→Act→World→Prop) (S:World→Prop) (y:Nat):Nat→Array Bool→Act→World→Prop
 | 0,listed,a,w=>Region.ready md ops listed=[]∧Q .normal a w
 | fuel+1,listed,a,w =>
  (Region.ready md ops listed=[]→Q .normal a w) ∧
  ∀ i∈Region.ready md ops listed,wpOp P ops Q i (fun a' w'=>((listed.setIfInBounds i true).getD y true=false→S w')∧wpAnyHY P md ops Q S y fuel (listed.setIfInBounds i true) a' w') a w
theorem wpAny_of_heldZ:∀ (fuel:Nat) (listed:Array Bool) (a:Act) (w:World),wpAnyHY P md ops Q S y fuel listed a w→wpAny P md ops Q fuel listed a w
 | 0,_,_,_,h=>h
 | fuel+1,_,_,_,h=>⟨h.1,fun i hi=>wpOp_mono (fun a' w' h'=>wpAny_of_heldZ fuel _ a' w' h'.2) (h.2 i hi)⟩
theorem wpAnyHY_first {i:Nat} {oi:Oper} {v:Value} {C:List Nat} (hi:ops[i]?=some oi) (hsel:∀ (j:Nat) (o:Oper) cs b,ops[j]?=some o→o.op≠.select cs b)
  (hQ:∀ c a w,Q (.panic c) (a.put oi.dst v) w→Q (.panic c) a w) (hC:chained ops md i C=true) (hyC:y∈C) (hiy:i≠y) :
  ∀ (fuel:Nat) (listed:Array Bool) (a:Act) (w:World),(∀ k∈C,listed.getD k true=false) →
   (∀ j oj,ops[j]?=some oj→j≠i→listed.getD j true=false→(∀ e∈oj.after,Region.binds md e=true→e.on≠i)→oi.apart ops oj=true) →
   i∈Region.ready md ops listed→YieldsIf P ops S oi v a→S w →
   wpAnyHY P md ops Q S y fuel (listed.setIfInBounds i true) (a.put oi.dst v) w→wpAnyHY P md ops Q S y (fuel+1) listed a w:=by
 intro fuel
 induction fuel with
 | zero =>
  intro listed a w hU _ hr hy hS H
  refine⟨fun h=>(by rw[h] at hr;cases hr),fun j hj=>?_⟩
  by_cases hji:j=i
  ·subst hji;exact hy.wpOp hi hS ⟨fun _=>hS,H⟩
  have:=ready_mono hj hji
  rw[H.1] at this
  cases this
 | succ fuel ih =>
  intro listed a w hU hfree hr hy hS H
  refine⟨fun h=>(by rw[h] at hr;cases hr),fun j hj=>?_⟩
  by_cases hji:j=i
  ·subst hji;exact hy.wpOp hi hS ⟨fun _=>hS,H⟩
  have h1:=H.2 j (ready_mono hj hji)
  have hjC:=not_ready_of_chained hC hU hj hji
  have hjy:j≠y:=fun e=>hjC (e ▸ hyC)
  obtain⟨hjun,oj,hoj,hall⟩:=mem_ready.1 hj
  have hnot:∀ e∈oj.after,Region.binds md e=true→e.on≠i:=fun e he hb heq=>by
   have h1:=hall e he hb
   have h0:=(mem_ready.1 hr).1
   rw[heq] at h1
   rcases Nat.lt_or_ge i listed.size with h' | h'
   ·simp[h'] at h0 h1;rw[h0] at h1;cases h1
   simp[Array.getElem?_eq_none h'] at h1
  have h2:=wpOp_putIf hoj (hfree j oj hoj hji hjun hnot) (fun cs b=>hsel i oi cs b hi) (fun cs b=>hsel j oj cs b hoj) hQ hy h1
  have hfree':∀ k ok,ops[k]?=some ok→k≠i→(listed.setIfInBounds j true).getD k true=false →
    (∀ e∈ok.after,Region.binds md e=true→e.on≠i)→oi.apart ops ok=true:=fun k ok hk hki hun hno=>by
   refine hfree k ok hk hki ?_ hno
   by_cases hjk:j=k
   ·subst hjk;exact hjun
   rw[getD_set_ne true hjk] at hun;exact hun
  have hU':∀ k∈C,(listed.setIfInBounds j true).getD k true=false:=fun k hk=>by
   have hjk:j≠k:=fun e=>hjC (e ▸ hk)
   rw[getD_set_ne true hjk];exact hU k hk
  have hyu:((listed.setIfInBounds i true).setIfInBounds j true).getD y true=false:=by
   rw[Array.setIfInBounds_comm _ _ (Ne.symm hji),getD_set_ne true hiy];exact hU' y hyC
  refine wpOp_mono (fun a' w' h3=>⟨fun _=>h3.2.1 hyu,ih (listed.setIfInBounds j true) a' w' hU' hfree' (ready_mono hr (Ne.symm hji)) h3.1 (h3.2.1 hyu) ?_⟩) h2
  rw[Array.setIfInBounds_comm _ _ hji]
  exact h3.2.2
theorem wp_region_heldZ {id:Nat} {a:Act} {w:World} (y:Nat) (hm:P.follows .mixedOrders=true) (hS:S w.drew)
  (h:S w.drew→wpAnyHY P .any ops Q S y ops.size (Array.replicate ops.size false) a w.drew):(Code.region id ops true).wp P Q a w :=
 wp_region_any hm (wpAny_of_heldZ _ _ _ _ (h hS))
theorem wpAnyHY_done {listed:Array Bool} {a:Act} {w:World} (hr:Region.ready md ops listed=[]) (h:Q .normal a w):∀ fuel,wpAnyHY P md ops Q S y fuel listed a w
 | 0=>⟨hr,h⟩
 | _+1=>⟨fun _=>h,by rw[hr];simp⟩
theorem tkZ (i d:Nat) {oi:Oper} {v:Value} {fuel:Nat} {listed:Array Bool} {a:Act} {w:World}
  (hy:∀ w,S w→(execOp a.eval oi).run P w=.ok (.value v) w) (h:wpAnyHY P md ops Q S y fuel (listed.setIfInBounds i true) (a.put (some d) v) w)
  (hi:ops[i]?=some oi:=by exact rfl) (hdd:oi.dst=some d:=by kernel_rfl) (hs:Region.noSelect ops=true:=by kernel_rfl) (hf:Region.free md ops listed i=true:=by decide +kernel) (hr:(Region.ready md ops listed).contains i=true:=by decide +kernel)
  (hC:chained ops md i (waiters ops md i)=true:=by kernel_rfl) (hyC:(waiters ops md i).contains y=true:=by kernel_rfl) (hiy:(i == y)=false:=by kernel_rfl) (hU:unlistedB listed (waiters ops md i)=true:=by kernel_rfl)
  (hQ:∀ c a w,Q (.panic c) (a.put oi.dst v) w→Q (.panic c) a w:=by exact fun _ _ _ h=>h) (hw:Region.wanted oi (yielded ops a.tmps)=true:=by kernel_rfl) (hS:S w:=by assumption):wpAnyHY P md ops Q S y (fuel+1) listed a w :=
 wpAnyHY_first hi (Region.noSelect_spec hs) hQ hC (by simpa using hyC) (by simpa using hiy) fuel listed a w (unlisted_spec hU) (Region.free_spec hi hf) (by simpa using hr) (Or.inl ⟨hw,hy⟩) hS (by rw[hdd];exact h)
theorem tkZx (i d:Nat) {oi:Oper} {v:Value} {fuel:Nat} {listed l':Array Bool} {a a':Act} {w:World}
  (h:wpAnyHY P md ops Q S y fuel l' a' w) (hi:ops[i]?=some oi:=by exact rfl)
  (hy:∀ w,S w→(execOp a.eval oi).run P w=.ok (.value v) w:=by (intro w' hSw;replace hSw:=hSw.cs;(try simp only[cs_iff_cons] at hSw);go_simp;(try with_reducible rfl)))
  (ha:a.put (some d) v=a':=by ((try simp only[Act.put,List.setIfInBounds_toArray,List.set_cons_zero,List.set_cons_succ]);exact rfl))
  (hl:listed.setIfInBounds i true=l':=by ((try simp only[List.setIfInBounds_toArray,List.set_cons_zero,List.set_cons_succ]);exact rfl))
  (hdd:oi.dst=some d:=by kernel_rfl) (hs:Region.noSelect ops=true:=by kernel_rfl) (hf:Region.free md ops listed i=true:=by decide +kernel) (hr:(Region.ready md ops listed).contains i=true:=by decide +kernel)
  (hC:chained ops md i (waiters ops md i)=true:=by kernel_rfl) (hyC:(waiters ops md i).contains y=true:=by kernel_rfl) (hiy:(i == y)=false:=by kernel_rfl) (hU:unlistedB listed (waiters ops md i)=true:=by kernel_rfl)
  (hQ:∀ c a w,Q (.panic c) (a.put oi.dst v) w→Q (.panic c) a w:=by exact fun _ _ _ h=>h) (hw:Region.wanted oi (yielded ops a.tmps)=true:=by kernel_rfl) (hS:S w:=by assumption):wpAnyHY P md ops Q S y (fuel+1) listed a w :=
 tkZ i d hy (by rw[ha,hl];exact h) hi hdd hs hf hr hC hyC hiy hU hQ hw hS
theorem ratZ (i:Nat) {o:Oper} {fuel:Nat} {listed:Array Bool} {a:Act} {w:World} (hr:Region.ready md ops listed=[i]) (ho:ops[i]?=some o)
  (h:∀ K':Act→World→Prop,Shut (∀ a w,S w→(S w→wpAnyHY P md ops Q S y fuel (listed.setIfInBounds i true) a w)→K' a w)→if Region.wanted o (yielded ops a.tmps)=true then Oper.wp P o a w K' Q else K' (a.put o.dst undef) w) :
  wpAnyHY P md ops Q S y (fuel+1) listed a w:=by
 refine⟨fun h0=>absurd (hr ▸ h0) (by simp),?_⟩
 rw[hr]
 intro j hj
 rcases List.mem_singleton.1 hj with rfl
 refine wpOp_step ho (fun K' hK=>?_)
 have:=h K' (fun a w hS hW=>hK a w ⟨fun _=>hS,hW hS⟩)
 split
 ·rename_i hw;rw[if_pos hw] at this;exact this
 rename_i hw;rw[if_neg hw] at this;exact this
theorem ratZc (i:Nat) {o:Oper} {fuel:Nat} {listed:Array Bool} {a:Act} {w:World} (hr:Region.ready md ops listed=[i]) (ho:ops[i]?=some o) (hy:(listed.setIfInBounds i true).getD y true=true)
  (h:∀ K':Act→World→Prop,Shut (∀ a w,wpAnyHY P md ops Q S y fuel (listed.setIfInBounds i true) a w→K' a w)→if Region.wanted o (yielded ops a.tmps)=true then Oper.wp P o a w K' Q else K' (a.put o.dst undef) w) :
  wpAnyHY P md ops Q S y (fuel+1) listed a w:=by
 refine⟨fun h0=>absurd (hr ▸ h0) (by simp),?_⟩
 rw[hr]
 intro j hj
 rcases List.mem_singleton.1 hj with rfl
 refine wpOp_step ho (fun K' hK=>?_)
 have:=h K' (fun a w hW=>hK a w ⟨fun e=>(by rw[hy] at e;cases e),hW⟩)
 split
 ·rename_i hw;rw[if_pos hw] at this;exact this
 rename_i hw;rw[if_neg hw] at this;exact this
end
end Go.Proofs.YtcnfhnndppollaaDoor
namespace Go.Proofs.YtcnfhnndppollaaDoor
open Go Go.RowKit Go.Maps Go.WideMaps
structure AdB (w:World) (e:Ev) (L:Nat) (t:Lot) (W:World):Prop where
 e:BoxAt W w.heap.size [.int .i64 e.day,.int .i64 e.kind,.string e.site,.int .i64 e.level,.string e.remain,.int .i64 e.cont,.bool e.order]
 l:BoxAt W L [.string t.remain,.int .i64 t.state,.string t.site,.int .i64 t.level,.int .i64 t.cont,.int .i64 t.since]
 lt:w.heap.size<L
theorem AdB.below {w:World} {e:Ev} {L:Nat} {t:Lot} {W W':World} (h:AdB w e L t W) (hb:Below W.heap.size W W'):AdB w e L t W':=⟨h.e.below hb,h.l.below hb,h.lt⟩
theorem AdB.grown {w:World} {e:Ev} {L:Nat} {t:Lot} {W W':World} {row:Option Nat} (h:AdB w e L t W) (hg:W.grownBy W' row) (h1:∀ g,row=some g→g<w.heap.size∨L<g):AdB w e L t W' :=
 ⟨h.e.grown hg (fun x=>by have:=h1 _ x.symm;have:=h.lt;omega),h.l.grown hg (fun x=>by have:=h1 _ x.symm;have:=h.lt;omega),h.lt⟩
theorem endS_none {l:List Sty} {n:ByteArray} {d:Int} (h:Cal.lastIx l n 0=none):Cal.endS l n d=l:=by unfold Cal.endS;rw[h]
theorem endS_rows {l:List Sty} {n:ByteArray} {d:Int} {i:Nat} (h:Cal.lastIx l n 0=some i) (hi:i<(l.map Sty.cells).length):(l.map Sty.cells).set i ((l.map Sty.cells)[i].set 6 (.int .i64 d))=(Cal.endS l n d).map Sty.cells:=by
 have e:Cal.endS l n d=l.modify i (fun s=>⟨s.lot,d⟩):=by unfold Cal.endS;rw[h]
 rw[e]
 apply List.ext_getElem
 ·simp
 intro k h1 h2
 simp only[List.getElem_set,List.getElem_map,List.getElem_modify]
 split
 ·rename_i hik
  subst hik
  rfl
 rfl
structure AdS (w0 w:World) (Bs B M L:Nat) (S R:Option Addr) (c d:Nat) (y:Yd) (v:Value) (bk:Bk) (e:Ev) (t:Lot) (l:List Sty) (W:World):Prop where
 box:BoxAt W B [.slice S y.sites.length c,.slice R y.rests.length d,.int .i64 y.c0,.int .i64 y.c1,.int .i64 y.c2,v,.map (some M),.int .i64 bk.day]
 own:OwnL W Bs 88 7 v (l.map Sty.cells)
 map:MapIs Tryd.prog 9 strLit W M bk.stays.length (lastF bk.stays)
 b:AdB w e L t W
 bel:Below w0.heap.size w0 W
 lo:w0.heap.size≤B∧w0.heap.size≤M
 hi:B<Bs∧M<Bs∧Bs≤w.heap.size∧B≠M
 vb:∀ g,v.ownBlock=some g→g<w.heap.size
 len:l.length=bk.stays.length
theorem AdS.below {w0 w:World} {Bs B M L:Nat} {S R:Option Addr} {c d:Nat} {y:Yd} {v:Value} {bk:Bk} {e:Ev} {t:Lot} {l:List Sty} {W W':World} (h:AdS w0 w Bs B M L S R c d y v bk e t l W) (hb:Below W.heap.size W W'):AdS w0 w Bs B M L S R c d y v bk e t l W' :=
 ⟨h.box.below hb,h.own.below hb,h.map.below hb (by have:=h.hi;have:=h.b.l.lt;have:=h.b.lt;omega),h.b.below hb,h.bel.trans (hb.mono h.bel.size),h.lo,h.hi,h.vb,h.len⟩
def AddP (w0 w:World) (Bs B M:Nat) (S R:Option Addr) (c d:Nat) (y:Yd) (r:Bk × Int) (e:Ending) (w':World):Prop:=e=.returned (.int .i64 r.2)∧∃ v,BkW w0 w' Bs B M S R c d y v r.1
theorem vadd_any (w0:World) (Bs B M:Nat) (S R:Option Addr) (c d:Nat) (y:Yd) (v:Value) (bk:Bk) (e:Ev) (w:World) (hW:BkW w0 w Bs B M S R c d y v bk) (hn1:e.remain.size≤maxLen) (hn2:e.site.size≤maxLen) (hlen:bk.stays.length<400) :
  Calls Tryd.prog 18 #[.pointer (some ⟨B,0,none⟩),.agg #[.int .i64 e.day,.int .i64 e.kind,.string e.site,.int .i64 e.level,.string e.remain,.int .i64 e.cont,.bool e.order]] w (AddP w0 w Bs B M S R c d y (Cal.bkAdd y bk e)):=by
 have hbk':=Lib.hid (hW.ok.add hlen hn1 hn2)
 have hb0:=below_alloc w (.cells #[.int .i64 e.day,.int .i64 e.kind,.string e.site,.int .i64 e.level,.string e.remain,.int .i64 e.cont,.bool e.order] 29)
 have g0:=Lib.hid (BoxAt.new w #[.int .i64 e.day,.int .i64 e.kind,.string e.site,.int .i64 e.level,.string e.remain,.int .i64 e.cont,.bool e.order] 29)
 have hWs:=Lib.hid (hW.hi.2.2.1)
 have hyd:=Lib.hid hW.yd
 have hW1:=Lib.hid (hW.below hb0)
 have herr:=Lib.hid (fun w' A cap (h:BkR w' B M S R c d y A cap bk)=>error_any B M S R c d y A cap bk e w' h hn1 hn2)
 have hlot:=Lib.hid (fun h=>bkErr_lot (e:=e) hW.ok h)
 have hv0:=Lib.hid (fun g (h:v.ownBlock=some g)=>hW.own.lt g h)
 obtain⟨A,cap,rfl,hBR⟩:=hW1.out.read
 have hBR:=Lib.hid hBR
 clear hW hb0
 obtain⟨r,hr⟩:∃ r,r=Cal.bkErr y bk e:=⟨_,rfl⟩
 rw[←hr] at hlot
 replace herr:=Lib.hid (fun w' A cap (h:BkR w' B M S R c d y A cap bk)=>(by have:=herr.out w' A cap h;rw[←hr] at this;exact this:Calls Tryd.prog 36 #[.pointer (some ⟨B,0,none⟩),.agg #[.int .i64 e.day,.int .i64 e.kind,.string e.site,.int .i64 e.level,.string e.remain,.int .i64 e.cont,.bool e.order]] w' (ErP w' r)))
 have hadd:Cal.bkAdd y bk e=if r.2≠0 then (bk,r.2) else (⟨Cal.endS bk.stays e.remain e.day ++ [⟨r.1,-1⟩],e.day⟩,0):=by rw[hr];rfl
 obtain⟨t,E⟩:=r
 dsimp only at hadd
 go_enter Tryd.func18,Tryd.ntmps18
 by_cases hE:E=0
 ·subst hE
  rw[if_neg (by simp)] at hadd
  have hf:=Lib.hid hadd
  have hltz:=Lib.hid (hlot.out rfl)
  clear hadd hlot
  go_upto_region 4 with (go_at_call 36;refine (herr.out _ _ _ hBR.out).mono ?_;rintro e9 wn ⟨rfl,hbn⟩;have g1:=Lib.hid (g0.out.below hbn);replace hW1:=Lib.hid (hW1.out.below hbn);have hws:=Lib.hid (Nat.lt_of_lt_of_le g0.out.lt hbn.size);clear hbn)
  have hD:Hid (AdS w0 w Bs B M wn.heap.size S R c d y (.slice A bk.stays.length cap) bk e t bk.stays (wn.alloc (.cells #[.string t.remain,.int .i64 t.state,.string t.site,.int .i64 t.level,.int .i64 t.cont,.int .i64 t.since] 38))):=by
   have hb:=below_alloc wn (.cells #[.string t.remain,.int .i64 t.state,.string t.site,.int .i64 t.level,.int .i64 t.cont,.int .i64 t.since] 38)
   have h:=hW1.out.below hb
   exact⟨h.box,h.own,h.map,⟨g1.out.below hb,BoxAt.new wn #[.string t.remain,.int .i64 t.state,.string t.site,.int .i64 t.level,.int .i64 t.cont,.int .i64 t.since] 38,by have:=g0.out.lt;have:=hws.out;omega⟩,h.bel,h.lo,⟨hW1.out.hi.1,hW1.out.hi.2.1,hWs.out,hW1.out.hi.2.2.2⟩,fun g hg=>(hv0.out g hg).2,rfl⟩
  have hrd:Hid (BkR (wn.alloc (.cells #[.string t.remain,.int .i64 t.state,.string t.site,.int .i64 t.level,.int .i64 t.cont,.int .i64 t.since] 38)) B M S R c d y A cap bk):=by
   obtain⟨A2,cap2,hv2,h2⟩:=(hW1.out.below (below_alloc wn (.cells #[.string t.remain,.int .i64 t.state,.string t.site,.int .i64 t.level,.int .i64 t.cont,.int .i64 t.since] 38))).read
   simp only[Value.slice.injEq,true_and] at hv2
   obtain⟨rfl,rfl⟩:=hv2
   exact h2
  have hLs:Hid (wn.heap.size=wn.heap.size):=rfl
  generalize wn.heap.size=L at *
  obtain⟨W,hW⟩:∃ W,wn.alloc (.cells #[.string t.remain,.int .i64 t.state,.string t.site,.int .i64 t.level,.int .i64 t.cont,.int .i64 t.since] 38)=W:=⟨_,rfl⟩
  rw[hW] at hD hrd ⊢
  clear hW hLs hws g0 g1 hW1 hv0 hBR herr hWs
  replace hD:=Lib.hid (hD.out.below ((Below.refl W.heap.size W).drew))
  replace hrd:=Lib.hid (hrd.out.below ((Below.refl W.heap.size W).drew))
  obtain⟨X1,hX1⟩:∃ X1,W.drew=X1:=⟨_,rfl⟩
  rw[hX1] at hD hrd
  refine wp_region_held_drew (S:=Sx X1 [(B,6,.map (some M)),(w.heap.size,4,.string e.remain)]) (by kernel_rfl) (by rw[hX1];exact (Sx.mk (by simp only[cs_iff_cons];exact⟨hD.out.box.c 6 _ rfl,hD.out.b.e.c 4 _ rfl,cs_nil _⟩) (Below.refl _ _))) (fun hHeld=>?_)
  rw[hX1] at hHeld ⊢
  clear hX1
  have hlk:=Lib.hid (fun w' (hSw:Sx X1 [(B,6,.map (some M)),(w.heap.size,4,.string e.remain)] w')=>(hrd.out.below hSw.bel).look e.remain hn1)
  cases hli:Cal.lastIx bk.stays e.remain 0 with
  | none =>
   rw[hli] at hlk
   have hes:=Lib.hid (endS_none (d:=e.day) hli)
   refine tkHx 0 19 ?_
   refine tkHx 1 20 ?_
   refine tkHx 2 21 ?_
   refine tkHx 3 22 ?_
   refine tkHx 4 23 ?_
   refine tkHx 5 24 ?_
   refine tkHx 6 25 (hy:=by (intro w' hSw;have hl:=hlk.out w' hSw;simp only[Option.map_none,Option.getD_none,Option.isSome_none] at hl;go_simp;(try with_reducible rfl))) ?_
   refine tkHx 7 18 ?_
   refine tkHx 8 26 ?_
   refine tkHx 9 27 ?_
   refine tkHx 10 7 ?_
   refine tkHx 11 8 ?_
   refine wpAnyH_done (by kernel_rfl) ?_ _
   have hD:Hid (AdS w0 w Bs B M L S R c d y (.slice A bk.stays.length cap) bk e t (Cal.endS bk.stays e.remain e.day) X1):=by show AdS _ _ _ _ _ _ _ _ _ _ _ _ _ _ _ _ _;rw[hes.out];exact hD.out
   clear hHeld hlk hli hes hrd
   go_upto_region 7 with fail
   replace hD:=Lib.hid (hD.out.below (Below.refl _ _).drew)
   obtain⟨X7,hX7⟩:∃ X7,World.drew X1=X7:=⟨_,rfl⟩
   rw[hX7] at hD
   have hbnd:=hD.out.hi
   have hlo:=hD.out.lo
   have hblt:=hD.out.b.lt
   have hlL:=hD.out.b.l.lt
   have hnl:=hD.out.len
   refine wp_region_held_drew (S:=Sx w0 [(B,5,.slice A bk.stays.length cap),(B,6,.map (some M)),(w.heap.size,4,.string e.remain)]) (by kernel_rfl) (by rw[hX7];exact (Sx.mk (by simp only[cs_iff_cons];exact⟨hD.out.box.c 5 _ rfl,hD.out.box.c 6 _ rfl,hD.out.b.e.c 4 _ rfl,cs_nil _⟩) hD.out.bel)) (fun hHeld=>?_)
   rw[hX7] at hHeld ⊢
   clear hX7
   obtain⟨w3,hup,hm3,hg3,hsz3⟩:=hD.out.map.store strLit_inj (string_keyed Tryd.underlying9) Tryd.underlying84 (by unfold maxLen;omega) (val:=.int .i64 (bk.stays.length:Int)) (keyOf_string_mk Tryd.underlying9 hn1)
   refine tkHx 0 38 ?_
   refine tkHx 1 39 ?_
   refine tkHx 2 40 ?_
   refine tkHx 3 41 ?_
   refine tkHx 4 42 ?_
   refine tkHx 5 43 ?_
   refine tkHx 6 44 ?_
   refine tkHx 7 45 ?_
   refine tkHx 8 46 ?_
   refine tkHx 9 47 ?_
   refine tkHx 10 48 ?_
   (refine ratHx 11 (fun K hK=>?_);go_simp)
   refine hK.out _ _ (hHeld.keep hg3 (fun x hx=>by simp at hx;rcases hx with rfl | rfl | rfl <;> exact⟨by show _≠M;omega,by show _<X7.heap.size;omega⟩) (by omega)) (fun hHeld=>?_)
   clear hK K
   (try simp only[apS,apN,siA,scZ,scS])
   refine wpAnyH_done (by kernel_rfl) ?_ _
   clear hup
   have hown3:=hD.out.own.kept hg3 (by right;intro e1;have:=(hD.out.own.lt M e1).1;omega)
   have hbox3:=hD.out.box.grown hg3 (by simp;omega)
   have hb3:=hD.out.b.grown hg3 (fun k9 e1=>by cases e1;omega)
   have hvb:=hD.out.vb
   have hm3:MapIs Tryd.prog 9 strLit w3 M (bk.stays.length+1) (lastF (Cal.endS bk.stays e.remain e.day ++ [(⟨t,-1⟩:Sty)])):=by
    rw[lastF_snoc,lastF_endS,hnl,show (⟨t,-1⟩:Sty).lot.remain=e.remain from hltz.out.1]
    exact hm3
   have hbel3:=hHeld.bel
   clear hHeld hD hg3
   replace hown3:=Lib.hid hown3
   replace hbox3:=Lib.hid hbox3
   replace hb3:=Lib.hid hb3
   replace hm3:=Lib.hid hm3
   replace hbel3:=Lib.hid hbel3
   replace hvb:=Lib.hid hvb
   go_upto_region 8 with fail
   have hdr:=(Below.refl w3.heap.size w3).drew
   replace hown3:=Lib.hid (hown3.out.below hdr)
   replace hbox3:=Lib.hid (hbox3.out.below hdr)
   replace hb3:=Lib.hid (hb3.out.below hdr)
   replace hm3:=Lib.hid (hm3.out.below hdr (by have:=hb3.out.l.lt;omega))
   replace hbel3:=Lib.hid (hbel3.out.trans (Below.refl _ _).drew)
   clear hdr
   obtain⟨X8,hX8⟩:∃ X8,w3.drew=X8:=⟨_,rfl⟩
   rw[hX8] at hown3 hbox3 hb3 hm3 hbel3
   have hL8:L<X8.heap.size:=hb3.out.l.lt
   clear hsz3
   refine wp_region_heldZ (S:=Sx w0 [(B,5,.slice A bk.stays.length cap),(L,0,.string t.remain),(L,1,.int .i64 t.state),(L,2,.string t.site),(L,3,.int .i64 t.level),(L,4,.int .i64 t.cont),(L,5,.int .i64 t.since)]) 11 (by kernel_rfl) (by rw[hX8];exact (Sx.mk (by simp only[cs_iff_cons];exact⟨hbox3.out.c 5 _ rfl,hb3.out.l.c 0 _ rfl,hb3.out.l.c 1 _ rfl,hb3.out.l.c 2 _ rfl,hb3.out.l.c 3 _ rfl,hb3.out.l.c 4 _ rfl,hb3.out.l.c 5 _ rfl,cs_nil _⟩) hbel3.out)) (fun hHeld=>?_)
   rw[hX8] at hHeld ⊢
   clear hX8
   refine tkZx 0 49 ?_
   refine tkZx 1 50 ?_
   refine tkZx 2 51 ?_
   refine tkZx 3 52 ?_
   refine tkZx 4 53 ?_
   refine tkZx 5 54 ?_
   refine tkZx 6 55 ?_
   refine ratZ 7 (by decide +kernel) rfl (fun K hK=>?_)
   rw[if_pos (by kernel_rfl)]
   go_simp
   refine hK.out _ _ (hHeld.step (below_alloc _ _)) (fun hH2=>?_)
   clear hK K hHeld
   have hHeld:=hH2
   clear hH2
   (try simp only[apS,apN,siA,scZ,scS])
   have hba:=below_alloc X8 (.cells #[.string t.remain,.int .i64 t.state,.string t.site,.int .i64 t.level,.int .i64 t.cont,.int .i64 t.since,.int .i64 (-1)] 88)
   replace hown3:=Lib.hid (hown3.out.below hba)
   replace hbox3:=Lib.hid (hbox3.out.below hba)
   replace hb3:=Lib.hid (hb3.out.below hba)
   replace hm3:=Lib.hid (hm3.out.below hba (by omega))
   clear hba
   have hsrc:=rowsAt_new X8 [.string t.remain,.int .i64 t.state,.string t.site,.int .i64 t.level,.int .i64 t.cont,.int .i64 t.since,.int .i64 (-1)] 88
   refine ratZ 8 (by decide +kernel) rfl (fun K hK=>?_)
   refine step_append_rows elemSty (by rfl) (.tmp 53) (.tmp 56) (by rfl) (by rfl) (by rfl) hown3.out hsrc rfl (sty_wid [(⟨t,-1⟩:Sty)]) (sty_one [(⟨t,-1⟩:Sty)]) (by rw[List.length_map,hnl];simp;omega) (by decide) (by simp;omega) ?_
   intro v' w7 hown7 hg7 hob7
   have hown7:OwnL w7 Bs 88 7 v' ((Cal.endS bk.stays e.remain e.day ++ [(⟨t,-1⟩:Sty)]).map Sty.cells):=by rw[List.map_append];exact hown7
   have hrow:∀ k9,Value.ownBlock (.slice A bk.stays.length cap)=some k9→Bs≤k9∧k9<w.heap.size:=fun k9 e1=>⟨(hown3.out.lt k9 e1).1,hvb.out k9 e1⟩
   have hbox7:=hbox3.out.grown hg7 (fun e1=>by have:=hrow B e1.symm;omega)
   have hb7:=hb3.out.grown hg7 (fun k9 e1=>.inl (hrow k9 e1).2)
   have hm7:=hm3.out.kept hg7 (fun e1=>by have:=hrow M e1.symm;omega)
   have hbel7:Below w0.heap.size w0 w7:=hHeld.bel.trans (grown_below hg7 (fun k9 e1=>by have:=hrow k9 e1;omega) hHeld.bel.size)
   have hS7:Sx w0 [(B,5,.slice A bk.stays.length cap),(L,0,.string t.remain),(L,1,.int .i64 t.state),(L,2,.string t.site),(L,3,.int .i64 t.level),(L,4,.int .i64 t.cont),(L,5,.int .i64 t.since)] w7:=⟨by simp only[cs_iff_cons];exact⟨hbox7.c 5 _ rfl,hb7.l.c 0 _ rfl,hb7.l.c 1 _ rfl,hb7.l.c 2 _ rfl,hb7.l.c 3 _ rfl,hb7.l.c 4 _ rfl,hb7.l.c 5 _ rfl,cs_nil _⟩,hbel7⟩
   refine hK.out _ _ hS7 (fun hH2=>?_)
   clear hS7
   have hg7s:=hg7.size
   clear hK K hHeld
   have hHeld:=hH2
   clear hH2 hown3 hbox3 hb3 hm3 hg7 hob7 hsrc hrow hvb
   (try simp only[apS,apN,siA,scZ,scS])
   obtain⟨A5,c5,hv5,_⟩:=OwnL.form hown7
   obtain⟨q5,hq5⟩:∃ q5,q5=((Cal.endS bk.stays e.remain e.day ++ [(⟨t,-1⟩:Sty)]).map Sty.cells).length:=⟨_,rfl⟩
   rw[←hq5] at hv5
   have hq5z:Hid (q5=(Cal.endS bk.stays e.remain e.day ++ [(⟨t,-1⟩:Sty)]).length):=by show _=_;rw[hq5,List.length_map]
   clear hq5
   subst hv5
   refine tkZx 9 58 ?_
   refine tkZx 10 59 ?_
   have y0:=hbox7.c 5 _ rfl;have y1:=hbox7.free 5 (by simp)
   refine ratZc 11 (by decide +kernel) rfl (by decide +kernel) (fun K hK=>?_)
   rw[if_pos (by kernel_rfl)]
   go_simp
   refine hK.out _ _ ?_
   clear hK K
   (try simp only[apS,apN,siA,scZ,scS])
   refine wpAnyHY_done (by decide +kernel) ?_ _
   clear y0 y1 hHeld
   have hbox9:=hbox7.set 5 (.slice A5 q5 c5) (by simp)
   have hown9:=hown7.offF (B':=B) 5 (.slice A5 q5 c5) hbnd.1
   have hm9:=hm7.setCell (a:=⟨B,5,none⟩) (fun e1=>hbnd.2.2.2 e1.symm) (.slice A5 q5 c5)
   have he9:=hb7.e.offF (B':=B) 5 (.slice A5 q5 c5) (by omega)
   have hbel9:=hbel7.setCell (p:=⟨B,5,none⟩) hlo.1 (.slice A5 q5 c5)
   have hsz9:w.heap.size<(w7.setCell ⟨B,5,none⟩ (.slice A5 q5 c5)).heap.size:=he9.lt
   obtain⟨W9,hW9⟩:∃ W9,w7.setCell ⟨B,5,none⟩ (.slice A5 q5 c5)=W9:=⟨_,rfl⟩
   rw[hW9] at hbox9 hown9 hm9 he9 hbel9 hsz9 ⊢
   clear hW9 hbox7 hown7 hm7 hb7 hbel7 hg7s
   have z7:=hbox9.c 7 _ rfl;have u7:=hbox9.free 7 (by simp);have z0:=he9.c 0 _ rfl
   have hbox9:=Lib.hid (hbox9.set 7 (.int .i64 e.day) (by simp))
   have hown9:=Lib.hid (hown9.offF (B':=B) 7 (.int .i64 e.day) hbnd.1)
   have hm9:=Lib.hid (hm9.setCell (a:=⟨B,7,none⟩) (fun e1=>hbnd.2.2.2 e1.symm) (.int .i64 e.day))
   have hbel9:=Lib.hid (hbel9.setCell (p:=⟨B,7,none⟩) hlo.1 (.int .i64 e.day))
   clear he9
   go_wp2
   go_ret
   rw[hf.out]
   refine⟨rfl,_,hbox9.out,hown9.out,?_,hlo,⟨hbnd.1,hbnd.2.1,by rw[World.size_setCell];omega,hbnd.2.2.2⟩,hyd.out,hbel9.out,?_⟩
   ·have h:=hm9.out
    have hl:(Cal.endS bk.stays e.remain e.day ++ [(⟨t,-1⟩:Sty)]).length=bk.stays.length+1:=by rw[List.length_append,hnl];rfl
    show MapIs _ _ _ _ _ (Cal.endS bk.stays e.remain e.day ++ [(⟨t,-1⟩:Sty)]).length _
    rw[hl]
    exact h
   have h:=hbk'.out
   rw[hf.out] at h
   exact h
  | some i =>
   rw[hli] at hlk
   have hil:=(Cal.lastIx_lt hli).2
   rw[Nat.zero_add] at hil
   have hnl0:=hrd.out.ok.len
   obtain⟨g,hg⟩:∃ g,A=some ⟨g,0,none⟩:=by
    rcases hD.out.own.own.2 with ⟨h1,_⟩ | ⟨g,_,_,h1,_⟩
    ·simp only[Value.slice.injEq] at h1
     omega
    simp only[Value.slice.injEq] at h1
    exact⟨g,h1.1⟩
   subst hg
   refine tkHx 0 19 ?_
   refine tkHx 1 20 ?_
   refine tkHx 2 21 ?_
   refine tkHx 3 22 ?_
   refine tkHx 4 23 ?_
   refine tkHx 5 24 ?_
   refine tkHx 6 25 (hy:=by (intro w' hSw;have hl:=hlk.out w' hSw;simp only[Option.map_some,Option.getD_some,Option.isSome_some,natV] at hl;go_simp;(try with_reducible rfl))) ?_
   refine tkHx 7 18 ?_
   refine tkHx 8 26 ?_
   refine tkHx 9 27 ?_
   refine tkHx 10 7 ?_
   refine tkHx 11 8 ?_
   refine wpAnyH_done (by kernel_rfl) ?_ _
   clear hHeld hlk hrd
   go_upto_region 6 with fail
   replace hD:=Lib.hid (hD.out.below (Below.refl _ _).drew)
   obtain⟨X6,hX6⟩:∃ X6,X1.drew=X6:=⟨_,rfl⟩
   rw[hX6] at hD
   have hown:OwnL X6 Bs 88 7 (.slice (some ⟨g,0,none⟩) (bk.stays.map Sty.cells).length cap) (bk.stays.map Sty.cells):=by rw[List.length_map];exact hD.out.own
   have him:i<(bk.stays.map Sty.cells).length:=by rw[List.length_map];exact hil
   obtain⟨hset,hfz,x,hx⟩:=hown.setAt him (j:=6) (by decide) (.int .i64 e.day) rfl
   rw[endS_rows hli him] at hset
   rw[List.length_map] at hset
   have hset:=Lib.hid hset
   have hgb:=hD.out.vb g rfl
   have hgB:=(hown.lt g rfl).1
   have hbn:=hD.out.hi
   have hlo0:=hD.out.lo
   have hbl:=hD.out.b.lt
   have hll:=hD.out.b.l.lt
   have hDn:Hid (AdS w0 w Bs B M L S R c d y (.slice (some ⟨g,0,none⟩) bk.stays.length cap) bk e t (Cal.endS bk.stays e.remain e.day) (X6.setCell ⟨g,i*7+6,none⟩ (.int .i64 e.day))) :=
    ⟨hD.out.box.offF (B':=g) _ _ (by omega),hset.out,hD.out.map.setCell (a:=⟨g,i*7+6,none⟩) (by show M≠g;omega) _,hD.out.b.grown (grown_set _ _ _ _) (fun k e1=>by cases e1;exact .inl hgb),hD.out.bel.setCell (p:=⟨g,i*7+6,none⟩) (by show w0.heap.size≤g;have:=hD.out.bel.size;omega) _,hD.out.lo,hD.out.hi,hD.out.vb,by rw[endS_len]⟩
   clear hown him hset
   refine wp_region_held_drew (S:=Sx w0 [(B,5,.slice (some ⟨g,0,none⟩) bk.stays.length cap),(w.heap.size,0,.int .i64 e.day)]) (by kernel_rfl) (by rw[hX6];exact (Sx.mk (by simp only[cs_iff_cons];exact⟨hD.out.box.c 5 _ rfl,hD.out.b.e.c 0 _ rfl,cs_nil _⟩) hD.out.bel)) (fun hHeld=>?_)
   rw[hX6] at hHeld ⊢
   clear hX6 hli
   refine tkHx 0 29 ?_
   refine tkHx 1 30 ?_
   refine tkHx 2 31 ?_
   refine tkHx 3 32 ?_
   refine tkHx 4 33 ?_
   refine tkHx 5 34 ?_
   refine tkHx 6 35 ?_
   refine tkHx 7 36 ?_
   refine tkHx 8 37 ?_
   (refine ratHx 9 (fun K hK=>?_);go_simp)
   refine hK.out _ _ (hHeld.keep (grown_set _ _ _ _) (fun x hx=>by simp at hx;rcases hx with rfl | rfl <;> exact⟨by show _≠g;omega,by show _<X6.heap.size;omega⟩) (by omega)) (fun hHeld=>?_)
   clear hK K
   (try simp only[apS,apN,siA,scZ,scS])
   refine wpAnyH_done (by kernel_rfl) ?_ _
   clear hD hHeld hfz hx
   obtain⟨Y6,hY6⟩:∃ Y6,X6.setCell ⟨g,i*7+6,none⟩ (.int .i64 e.day)=Y6:=⟨_,rfl⟩
   rw[hY6] at hDn ⊢
   clear hY6
   have hD:=Lib.hid hDn.out
   clear hDn hgb hgB hbn hlo0 hbl hll
   go_upto_region 7 with fail
   replace hD:=Lib.hid (hD.out.below (Below.refl _ _).drew)
   obtain⟨X7,hX7⟩:∃ X7,World.drew Y6=X7:=⟨_,rfl⟩
   rw[hX7] at hD
   have hbnd:=hD.out.hi
   have hlo:=hD.out.lo
   have hblt:=hD.out.b.lt
   have hlL:=hD.out.b.l.lt
   have hnl:=hD.out.len
   refine wp_region_held_drew (S:=Sx w0 [(B,5,.slice (some ⟨g,0,none⟩) bk.stays.length cap),(B,6,.map (some M)),(w.heap.size,4,.string e.remain)]) (by kernel_rfl) (by rw[hX7];exact (Sx.mk (by simp only[cs_iff_cons];exact⟨hD.out.box.c 5 _ rfl,hD.out.box.c 6 _ rfl,hD.out.b.e.c 4 _ rfl,cs_nil _⟩) hD.out.bel)) (fun hHeld=>?_)
   rw[hX7] at hHeld ⊢
   clear hX7
   obtain⟨w3,hup,hm3,hg3,hsz3⟩:=hD.out.map.store strLit_inj (string_keyed Tryd.underlying9) Tryd.underlying84 (by unfold maxLen;omega) (val:=.int .i64 (bk.stays.length:Int)) (keyOf_string_mk Tryd.underlying9 hn1)
   refine tkHx 0 38 ?_
   refine tkHx 1 39 ?_
   refine tkHx 2 40 ?_
   refine tkHx 3 41 ?_
   refine tkHx 4 42 ?_
   refine tkHx 5 43 ?_
   refine tkHx 6 44 ?_
   refine tkHx 7 45 ?_
   refine tkHx 8 46 ?_
   refine tkHx 9 47 ?_
   refine tkHx 10 48 ?_
   (refine ratHx 11 (fun K hK=>?_);go_simp)
   refine hK.out _ _ (hHeld.keep hg3 (fun x hx=>by simp at hx;rcases hx with rfl | rfl | rfl <;> exact⟨by show _≠M;omega,by show _<X7.heap.size;omega⟩) (by omega)) (fun hHeld=>?_)
   clear hK K
   (try simp only[apS,apN,siA,scZ,scS])
   refine wpAnyH_done (by kernel_rfl) ?_ _
   clear hup
   have hown3:=hD.out.own.kept hg3 (by right;intro e1;have:=(hD.out.own.lt M e1).1;omega)
   have hbox3:=hD.out.box.grown hg3 (by simp;omega)
   have hb3:=hD.out.b.grown hg3 (fun k9 e1=>by cases e1;omega)
   have hvb:=hD.out.vb
   have hm3:MapIs Tryd.prog 9 strLit w3 M (bk.stays.length+1) (lastF (Cal.endS bk.stays e.remain e.day ++ [(⟨t,-1⟩:Sty)])):=by
    rw[lastF_snoc,lastF_endS,hnl,show (⟨t,-1⟩:Sty).lot.remain=e.remain from hltz.out.1]
    exact hm3
   have hbel3:=hHeld.bel
   clear hHeld hD hg3
   replace hown3:=Lib.hid hown3
   replace hbox3:=Lib.hid hbox3
   replace hb3:=Lib.hid hb3
   replace hm3:=Lib.hid hm3
   replace hbel3:=Lib.hid hbel3
   replace hvb:=Lib.hid hvb
   go_upto_region 8 with fail
   have hdr:=(Below.refl w3.heap.size w3).drew
   replace hown3:=Lib.hid (hown3.out.below hdr)
   replace hbox3:=Lib.hid (hbox3.out.below hdr)
   replace hb3:=Lib.hid (hb3.out.below hdr)
   replace hm3:=Lib.hid (hm3.out.below hdr (by have:=hb3.out.l.lt;omega))
   replace hbel3:=Lib.hid (hbel3.out.trans (Below.refl _ _).drew)
   clear hdr
   obtain⟨X8,hX8⟩:∃ X8,w3.drew=X8:=⟨_,rfl⟩
   rw[hX8] at hown3 hbox3 hb3 hm3 hbel3
   have hL8:L<X8.heap.size:=hb3.out.l.lt
   clear hsz3
   refine wp_region_heldZ (S:=Sx w0 [(B,5,.slice (some ⟨g,0,none⟩) bk.stays.length cap),(L,0,.string t.remain),(L,1,.int .i64 t.state),(L,2,.string t.site),(L,3,.int .i64 t.level),(L,4,.int .i64 t.cont),(L,5,.int .i64 t.since)]) 11 (by kernel_rfl) (by rw[hX8];exact (Sx.mk (by simp only[cs_iff_cons];exact⟨hbox3.out.c 5 _ rfl,hb3.out.l.c 0 _ rfl,hb3.out.l.c 1 _ rfl,hb3.out.l.c 2 _ rfl,hb3.out.l.c 3 _ rfl,hb3.out.l.c 4 _ rfl,hb3.out.l.c 5 _ rfl,cs_nil _⟩) hbel3.out)) (fun hHeld=>?_)
   rw[hX8] at hHeld ⊢
   clear hX8
   refine tkZx 0 49 ?_
   refine tkZx 1 50 ?_
   refine tkZx 2 51 ?_
   refine tkZx 3 52 ?_
   refine tkZx 4 53 ?_
   refine tkZx 5 54 ?_
   refine tkZx 6 55 ?_
   refine ratZ 7 (by decide +kernel) rfl (fun K hK=>?_)
   rw[if_pos (by kernel_rfl)]
   go_simp
   refine hK.out _ _ (hHeld.step (below_alloc _ _)) (fun hH2=>?_)
   clear hK K hHeld
   have hHeld:=hH2
   clear hH2
   (try simp only[apS,apN,siA,scZ,scS])
   have hba:=below_alloc X8 (.cells #[.string t.remain,.int .i64 t.state,.string t.site,.int .i64 t.level,.int .i64 t.cont,.int .i64 t.since,.int .i64 (-1)] 88)
   replace hown3:=Lib.hid (hown3.out.below hba)
   replace hbox3:=Lib.hid (hbox3.out.below hba)
   replace hb3:=Lib.hid (hb3.out.below hba)
   replace hm3:=Lib.hid (hm3.out.below hba (by omega))
   clear hba
   have hsrc:=rowsAt_new X8 [.string t.remain,.int .i64 t.state,.string t.site,.int .i64 t.level,.int .i64 t.cont,.int .i64 t.since,.int .i64 (-1)] 88
   refine ratZ 8 (by decide +kernel) rfl (fun K hK=>?_)
   refine step_append_rows elemSty (by rfl) (.tmp 53) (.tmp 56) (by rfl) (by rfl) (by rfl) hown3.out hsrc rfl (sty_wid [(⟨t,-1⟩:Sty)]) (sty_one [(⟨t,-1⟩:Sty)]) (by rw[List.length_map,hnl];simp;omega) (by decide) (by simp;omega) ?_
   intro v' w7 hown7 hg7 hob7
   have hown7:OwnL w7 Bs 88 7 v' ((Cal.endS bk.stays e.remain e.day ++ [(⟨t,-1⟩:Sty)]).map Sty.cells):=by rw[List.map_append];exact hown7
   have hrow:∀ k9,Value.ownBlock (.slice (some ⟨g,0,none⟩) bk.stays.length cap)=some k9→Bs≤k9∧k9<w.heap.size:=fun k9 e1=>⟨(hown3.out.lt k9 e1).1,hvb.out k9 e1⟩
   have hbox7:=hbox3.out.grown hg7 (fun e1=>by have:=hrow B e1.symm;omega)
   have hb7:=hb3.out.grown hg7 (fun k9 e1=>.inl (hrow k9 e1).2)
   have hm7:=hm3.out.kept hg7 (fun e1=>by have:=hrow M e1.symm;omega)
   have hbel7:Below w0.heap.size w0 w7:=hHeld.bel.trans (grown_below hg7 (fun k9 e1=>by have:=hrow k9 e1;omega) hHeld.bel.size)
   have hS7:Sx w0 [(B,5,.slice (some ⟨g,0,none⟩) bk.stays.length cap),(L,0,.string t.remain),(L,1,.int .i64 t.state),(L,2,.string t.site),(L,3,.int .i64 t.level),(L,4,.int .i64 t.cont),(L,5,.int .i64 t.since)] w7:=⟨by simp only[cs_iff_cons];exact⟨hbox7.c 5 _ rfl,hb7.l.c 0 _ rfl,hb7.l.c 1 _ rfl,hb7.l.c 2 _ rfl,hb7.l.c 3 _ rfl,hb7.l.c 4 _ rfl,hb7.l.c 5 _ rfl,cs_nil _⟩,hbel7⟩
   refine hK.out _ _ hS7 (fun hH2=>?_)
   clear hS7
   have hg7s:=hg7.size
   clear hK K hHeld
   have hHeld:=hH2
   clear hH2 hown3 hbox3 hb3 hm3 hg7 hob7 hsrc hrow hvb
   (try simp only[apS,apN,siA,scZ,scS])
   obtain⟨A5,c5,hv5,_⟩:=OwnL.form hown7
   obtain⟨q5,hq5⟩:∃ q5,q5=((Cal.endS bk.stays e.remain e.day ++ [(⟨t,-1⟩:Sty)]).map Sty.cells).length:=⟨_,rfl⟩
   rw[←hq5] at hv5
   have hq5z:Hid (q5=(Cal.endS bk.stays e.remain e.day ++ [(⟨t,-1⟩:Sty)]).length):=by show _=_;rw[hq5,List.length_map]
   clear hq5
   subst hv5
   refine tkZx 9 58 ?_
   refine tkZx 10 59 ?_
   have y0:=hbox7.c 5 _ rfl;have y1:=hbox7.free 5 (by simp)
   refine ratZc 11 (by decide +kernel) rfl (by decide +kernel) (fun K hK=>?_)
   rw[if_pos (by kernel_rfl)]
   go_simp
   refine hK.out _ _ ?_
   clear hK K
   (try simp only[apS,apN,siA,scZ,scS])
   refine wpAnyHY_done (by decide +kernel) ?_ _
   clear y0 y1 hHeld
   have hbox9:=hbox7.set 5 (.slice A5 q5 c5) (by simp)
   have hown9:=hown7.offF (B':=B) 5 (.slice A5 q5 c5) hbnd.1
   have hm9:=hm7.setCell (a:=⟨B,5,none⟩) (fun e1=>hbnd.2.2.2 e1.symm) (.slice A5 q5 c5)
   have he9:=hb7.e.offF (B':=B) 5 (.slice A5 q5 c5) (by omega)
   have hbel9:=hbel7.setCell (p:=⟨B,5,none⟩) hlo.1 (.slice A5 q5 c5)
   have hsz9:w.heap.size<(w7.setCell ⟨B,5,none⟩ (.slice A5 q5 c5)).heap.size:=he9.lt
   obtain⟨W9,hW9⟩:∃ W9,w7.setCell ⟨B,5,none⟩ (.slice A5 q5 c5)=W9:=⟨_,rfl⟩
   rw[hW9] at hbox9 hown9 hm9 he9 hbel9 hsz9 ⊢
   clear hW9 hbox7 hown7 hm7 hb7 hbel7 hg7s
   have z7:=hbox9.c 7 _ rfl;have u7:=hbox9.free 7 (by simp);have z0:=he9.c 0 _ rfl
   have hbox9:=Lib.hid (hbox9.set 7 (.int .i64 e.day) (by simp))
   have hown9:=Lib.hid (hown9.offF (B':=B) 7 (.int .i64 e.day) hbnd.1)
   have hm9:=Lib.hid (hm9.setCell (a:=⟨B,7,none⟩) (fun e1=>hbnd.2.2.2 e1.symm) (.int .i64 e.day))
   have hbel9:=Lib.hid (hbel9.setCell (p:=⟨B,7,none⟩) hlo.1 (.int .i64 e.day))
   clear he9
   go_wp2
   go_ret
   rw[hf.out]
   refine⟨rfl,_,hbox9.out,hown9.out,?_,hlo,⟨hbnd.1,hbnd.2.1,by rw[World.size_setCell];omega,hbnd.2.2.2⟩,hyd.out,hbel9.out,?_⟩
   ·have h:=hm9.out
    have hl:(Cal.endS bk.stays e.remain e.day ++ [(⟨t,-1⟩:Sty)]).length=bk.stays.length+1:=by rw[List.length_append,hnl];rfl
    show MapIs _ _ _ _ _ (Cal.endS bk.stays e.remain e.day ++ [(⟨t,-1⟩:Sty)]).length _
    rw[hl]
    exact h
   have h:=hbk'.out
   rw[hf.out] at h
   exact h
 rw[if_pos hE] at hadd
 have hEq:(E != 0)=true:=by simp[hE]
 have hf:=Lib.hid hadd
 clear hadd hE hr hlot hbk'
 go_wp2_with (go_at_call 36;refine (herr.out _ _ _ hBR.out).mono ?_;rintro e9 wn ⟨rfl,hbn⟩;replace hW1:=Lib.hid (hW1.out.below hbn);clear hbn)
 go_ret
 rw[hf.out]
 exact⟨rfl,_,hW1.out.below (below_alloc _ _)⟩
end Go.Proofs.YtcnfhnndppollaaDoor
