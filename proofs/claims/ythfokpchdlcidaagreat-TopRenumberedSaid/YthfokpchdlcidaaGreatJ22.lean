/- What the statements rest on: definitions and walks, part 22. -/
import Derived.Test.YthfokpchdlcidaaGreatJ10
import Derived.Test.YthfokpchdlcidaaGreatJ21
set_option maxRecDepth 100000
set_option maxHeartbeats 16000000
set_option linter.unusedSimpArgs false
set_option linter.unusedVariables false
namespace Go.Proofs.YthfokpchdlcidaaGreat
open Go Go.RowKit Go.Shelf
theorem over_same {a b:List Pt} (ha:Cal.polyE a=0) (hb:Cal.polyE b=0):Cal.overR a b=Cal.overlapP a b:=by
 rw[Bool.eq_iff_iff,Cal.overR_over (Cal.goodP_of ha) (Cal.goodP_of hb),Cal.overlap_over ha hb]
theorem within_same {a b:List Pt} (ha:Cal.polyE a=0) (hb:Cal.polyE b=0):Cal.withinR a b=Cal.withinP a b:=by
 rw[Bool.eq_iff_iff,Cal.withinR_in ha hb,Cal.within_in ha hb]
def ovB (p:Plo) (q:Plo):Bool:=Cal.overlapP q.ps p.ps
theorem plotE_4 {sec:List Pt} {bf:List Plo} {p:Plo} (h1:nameB p.name=false):plotE sec bf p=((bf.length:Int),4):=by
 unfold plotE;rw[h1];rfl
theorem plotE_5 {sec:List Pt} {bf:List Plo} {p:Plo} (h1:nameB p.name=true) (h2:(bf.any fun q=>sameN q p)=true):plotE sec bf p=((bf.length:Int),5):=by
 unfold plotE;rw[if_pos h1,if_pos h2]
theorem plotE_6 {sec:List Pt} {bf:List Plo} {p:Plo} (h1:nameB p.name=true) (h2:(bf.any fun q=>sameN q p)=false) (h3:Cal.polyE p.ps≠0):plotE sec bf p=((bf.length:Int),Cal.polyE p.ps):=by
 unfold plotE;rw[if_pos h1,h2,if_neg (by decide),if_neg h3]
theorem plotE_7 {sec:List Pt} {bf:List Plo} {p:Plo} (h1:nameB p.name=true) (h2:(bf.any fun q=>sameN q p)=false) (h3:Cal.polyE p.ps=0) (h4:Cal.withinP p.ps sec=false):plotE sec bf p=((bf.length:Int),2):=by
 unfold plotE;rw[if_pos h1,h2,if_neg (by decide),if_pos h3,h4,if_neg (by decide)]
theorem plotE_13 {sec:List Pt} {bf:List Plo} {p:Plo} (h1:nameB p.name=true) (h2:(bf.any fun q=>sameN q p)=false) (h3:Cal.polyE p.ps=0) (h4:Cal.withinP p.ps sec=true) {j:Nat} {q:Plo} (hj:bf[j]?=some q) (h5:(bf.take j).any (ovB p)=false) (h6:ovB p q=true):plotE sec bf p=((j:Int),13):=by
 have:idxP (fun q=>Cal.overlapP q.ps p.ps) bf=j:=idxP_at hj h5 h6
 unfold plotE;rw[if_pos h1,h2,if_neg (by decide),if_pos h3,if_pos h4,this,if_neg (by omega)]
theorem plotE_0 {sec:List Pt} {bf:List Plo} {p:Plo} (h1:nameB p.name=true) (h2:(bf.any fun q=>sameN q p)=false) (h3:Cal.polyE p.ps=0) (h4:Cal.withinP p.ps sec=true) (h5:bf.any (ovB p)=false):plotE sec bf p=(0,0):=by
 have:idxP (fun q=>Cal.overlapP q.ps p.ps) bf=-1:=idxP_no h5
 unfold plotE;rw[if_pos h1,h2,if_neg (by decide),if_pos h3,if_pos h4,this,if_pos (by omega)]
structure CdI (w:World) (s:Sct) (p:Plo) (k:Nat) (B:Nat) (W:World):Prop where
 cs:CsI w s W
 b6:BoxAt W B [.string p.name,.slice p.V p.ps.length p.d]
 b7:BoxAt W (B+1) [.int .i64 k,.int .i64 k]
theorem CdI.below {w:World} {s:Sct} {p:Plo} {k B:Nat} {X Y:World} (h:CdI w s p k B X) (hb:Below X.heap.size X Y):CdI w s p k B Y:=⟨h.cs.below hb,h.b6.below hb,h.b7.below hb⟩
theorem any_take_succ {g:Plo→Bool} {l:List Plo} {j:Nat} {q:Plo} (hj:l[j]?=some q) (h:(l.take j).any g=false) (hq:g q=false):(l.take (j+1)).any g=false:=by
 obtain⟨hlt,rfl⟩:=List.getElem?_eq_some_iff.1 hj
 rw[List.take_succ_eq_append_getElem hlt,List.any_append,h]
 simpa using hq
theorem any_take_hit {g:Plo→Bool} {l:List Plo} {j k:Nat} {q:Plo} (hj:l[j]?=some q) (hk:j<k) (hq:g q=true):(l.take k).any g=true :=
 List.any_eq_true.2 ⟨q,List.mem_of_getElem? (i:=j) (by rw[List.getElem?_take_of_lt hk];exact hj),hq⟩
end Go.Proofs.YthfokpchdlcidaaGreat
namespace Go.Proofs.YthfokpchdlcidaaGreat
open Go Go.RowKit Go.Shelf
theorem sectL_zero {sec:List Pt}:∀ {l bf:List Plo},(sectL sec bf l).2.2=0→∀ k (h:k<l.length),(plotE sec (bf ++ l.take k) l[k]).2=0
 | [],_,_,k,h=>by simp at h
 | p :: r,bf,hz,k,h=>by
  unfold sectL at hz
  split at hz
  ·rename_i h0
   cases k with
   | zero=>simpa using h0
   | succ k =>
    have:=sectL_zero (l:=r) (bf:=bf ++ [p]) hz k (by simpa using h)
    simpa using this
  rename_i h0;exact absurd hz h0
theorem sectE_zero {name:ByteArray} {ps:List Pt} {l:List Plo} (h:(sectE name ps l).2.2=0):nameB name=true∧Cal.polyE ps=0∧l.length≤60∧∀ k (h:k<l.length),(plotE ps (l.take k) l[k]).2=0:=by
 unfold sectE at h
 split at h
 ·rename_i h1
  split at h
  ·rename_i h2
   split at h
   ·cases h
   refine⟨h1,h2,by omega,fun k hk=>?_⟩
   have:=sectL_zero h k hk
   simpa using this
  rename_i h2;exact absurd h h2
 cases h
def sumA:List Plo→Int
 | []=>0
 | p :: r=>Cal.areaP p.ps+sumA r
theorem sumA_take {l:List Plo} {k:Nat} (h:k<l.length):sumA (l.take (k+1))=sumA (l.take k)+Cal.areaP l[k].ps:=by
 rw[List.take_succ_eq_append_getElem h]
 have app:∀ a b:List Plo,sumA (a ++ b)=sumA a+sumA b:=fun a b=>by
  induction a with
  | nil=>simp[sumA]
  | cons x r ih=>rw[List.cons_append,sumA,sumA,ih];omega
 rw[app]
 simp[sumA]
theorem sumA_box:∀ {l:List Plo},(∀ p∈l,-20000000000000≤Cal.areaP p.ps∧Cal.areaP p.ps≤20000000000000)→-(20000000000000*(l.length:Int))≤sumA l∧sumA l≤20000000000000*(l.length:Int)
 | [],_=>by simp[sumA]
 | p :: r,h=>by
  have ih:=sumA_box (l:=r) (fun q hq=>h q (List.mem_cons_of_mem _ hq))
  have hp:=h p (List.mem_cons_self ..)
  rw[sumA,List.length_cons]
  omega
theorem area_box {w:World} {V:Option Addr} {ps:List Pt} (h:Pts w V ps) (hl:ps.length≤10):-20000000000000≤Cal.areaP ps∧Cal.areaP ps≤20000000000000:=by
 have:=areaTo_box h ps.length (Nat.le_refl _)
 unfold Cal.areaP
 omega
def gapS (s:Sct):Int:=if (sectE s.name s.ps s.l).2.2=0 then Cal.areaP s.ps-sumA s.l else 0
structure GpI (w:World) (s:Sct) (W:World):Prop where
 a:BoxAt W w.heap.size [.string s.name,.slice s.V s.ps.length s.d,.slice s.S s.l.length s.e]
 bel:Below w.heap.size w W
theorem GpI.below {w:World} {s:Sct} {X Y:World} (h:GpI w s X) (hb:Below X.heap.size X Y):GpI w s Y:=⟨h.a.below hb,below_step h.bel hb⟩
theorem Gap_any (s:Sct) (w:World) (hS:SctR w s) :
  Calls Tryz.prog 34 #[.agg #[.string s.name,.slice s.V s.ps.length s.d,.slice s.S s.l.length s.e]] w fun e w'=>e=.returned (.tuple #[.int .i64 (gapS s),.int .i64 (sectE s.name s.ps s.l).2.2])∧Below w.heap.size w w':=by
 have hI:Hid (GpI w s (w.alloc (.cells #[.string s.name,.slice s.V s.ps.length s.d,.slice s.S s.l.length s.e] 25))):=⟨BoxAt.new w #[.string s.name,.slice s.V s.ps.length s.d,.slice s.S s.l.length s.e] 25,below_alloc _ _⟩
 have hcs:=Lib.hid (fun W (hW:GpI w s W)=>CheckSection_any s W (hS.below hW.bel))
 have hsz:=hS.plots.size
 by_cases h0:(sectE s.name s.ps s.l).2.2=0
 ·have hz:=sectE_zero h0
  have hg:gapS s=Cal.areaP s.ps-sumA s.l:=by unfold gapS;rw[if_pos h0]
  have hC:=hS.pts.plg hz.2.1 (few_ok hS.few hz.2.1)
  have hCb:=area_box hC.v.pts hC.len
  have hPl:Hid (∀ p∈s.l,Plg w p.V p.ps∧-20000000000000≤Cal.areaP p.ps∧Cal.areaP p.ps≤20000000000000):=fun p hp=>by
   obtain⟨k,hk,rfl⟩:=List.getElem_of_mem hp
   have h3:=(plotE_zero (hz.2.2.2 k hk)).2.2.1
   have hq:=(hS.plots.pts _ hp).plg h3 (few_ok (hS.fews _ hp) h3)
   exact⟨hq,area_box hq.v.pts hq.len⟩
  have hl60:=hz.2.2.1
  obtain⟨R,hR⟩:∃ R,sectE s.name s.ps s.l=R:=⟨_,rfl⟩
  rw[hR] at h0 hcs
  rw[hg,hR]
  obtain⟨R1,R2,R3⟩:=R
  dsimp only at h0 hcs ⊢
  subst h0
  obtain⟨A,hA⟩:∃ A,Cal.areaP s.ps=A:=⟨_,rfl⟩
  rw[hA] at hCb ⊢
  replace hA:=Lib.hid hA
  replace hC:=Lib.hid hC
  have hrows:=Lib.hid hS.plots.rows
  clear hz hg hR hS
  obtain⟨nm,V,d,ps,S,e,l⟩:=s
  dsimp only at *
  have hS0:Hid ((0:Int)=sumA (l.take 0)):=rfl
  (obtain⟨a0,a1,a2⟩:=hI.out.a.c3)
  go_enter Tryz.func34,Tryz.ntmps34
  go_wp2_with (first
   |(go_at_call 41;clear a0 a1 a2;refine (hcs.out _ hI.out).mono ?_;rintro e0 wn ⟨rfl,hbn⟩;replace hI:=Lib.hid (hI.out.below hbn);clear hbn;have lt0:=hI.out.a.lt;(obtain⟨a0,a1,a2⟩:=hI.out.a.c3))
   |(go_at_call 68;clear a0 a1 a2;refine (area_any V d ps _ (hC.out.below (below_step hI.out.bel (below_alloc _ _))).v.pts).mono ?_;rintro e0 wm ⟨rfl,hbn⟩;rw[hA.out];replace hI:=Lib.hid ((hI.out.below (below_alloc _ _)).below hbn);clear hbn lt0;(obtain⟨a0,a1,a2⟩:=hI.out.a.c3)))
  clear a0 a1 a2
  go_loopw [6,23] (fun v i wr=>∃ (k:Nat) (z:Int),k≤l.length∧i=.int .i64 k∧v=.int .i64 (A-z)∧Hid (z=sumA (l.take k))∧Hid (GpI w _ wr)) (fun _ i _=>l.length-(intOf i).toNat)
  case atStart=>exact⟨0,0,Nat.zero_le _,rfl,by go_num,hS0,hI⟩
  case round =>
   clear hS0 hI
   obtain⟨k,z,hk,rfl,rfl,hz,hI⟩:=hrel
   by_cases hlt:k<l.length
   ·have hk':l[k]?=some l[k]:=List.getElem?_eq_getElem hlt
    have hst:=sumA_take hlt
    have hp:=hPl.out _ (List.getElem_mem hlt)
    have hb1:∀ m,-(20000000000000*60)≤sumA (l.take m)∧sumA (l.take m)≤20000000000000*60:=fun m=>by
     have:=sumA_box (l:=l.take m) (fun p hp=>(hPl.out p (List.mem_of_mem_take hp)).2)
     rw[List.length_take] at this
     omega
    have hz1:=hb1 k
    rw[←hz.out] at hz1 hst
    clear hb1
    generalize l[k]=p at *
    obtain⟨b,o,rfl,hbl,c0,c1⟩:=plo_at (hrows.out.below hI.out.bel) hk'
    obtain⟨g,hg⟩:∃ g,Cal.areaP p.ps=g:=⟨_,rfl⟩
    have hPp:=Lib.hid hp.1
    have hgb:=hp.2
    rw[hg] at hgb hst
    replace hg:=Lib.hid hg
    have hz2:Hid (z+g=sumA (l.take (k+1))):=hst.symm
    clear hst hp hk' hz
    have lt0:=hI.out.a.lt
    go_wp2_with (go_at_call 68;refine (area_any p.V p.d p.ps _ (hPp.out.below (below_step hI.out.bel (below_alloc _ _))).v.pts).mono ?_;rintro e0 wm ⟨rfl,hbn⟩;rw[hg.out];replace hI:=Lib.hid ((hI.out.below (below_alloc _ _)).below hbn);clear hbn lt0)
    go_roundw
    case rel=>exact⟨k+1,z+g,by omega,by go_num,by go_num,hz2,hI⟩
    case measure=>simp[intOf];omega
   obtain rfl:k=l.length:=by omega
   replace hz:Hid (z=sumA l):=by show _=_;rw[hz.out,List.take_length]
   go_wp2_with fail
   go_ret2
   exact⟨by rw[←hz.out];rfl,hI.out.bel⟩
 have hg:gapS s=0:=by unfold gapS;rw[if_neg h0]
 rw[hg]
 obtain⟨R,hR⟩:∃ R,sectE s.name s.ps s.l=R:=⟨_,rfl⟩
 rw[hR] at h0 hcs
 rw[hR]
 obtain⟨R1,R2,R3⟩:=R
 dsimp only at h0 hcs ⊢
 clear hR hg hS
 (obtain⟨a0,a1,a2⟩:=hI.out.a.c3)
 go_enter Tryz.func34,Tryz.ntmps34
 go_wp2_with (go_at_call 41;clear a0 a1 a2;refine (hcs.out _ hI.out).mono ?_;rintro e0 wn ⟨rfl,hbn⟩;replace hI:=Lib.hid (hI.out.below hbn);clear hbn)
 go_ret2
 exact⟨rfl,hI.out.bel.trans (below_alloc _ _ |>.mono (by have:=hI.out.bel.size;omega))⟩
end Go.Proofs.YthfokpchdlcidaaGreat
namespace Go.Proofs.YthfokpchdlcidaaGreat
open Go Go.RowKit Go.Shelf
def fieldS (A1 A2 A3 S:Option Addr):Sct:=⟨⟨#[115]⟩,A1,4,Cal.boxP 0 0 100 100,S,2,[⟨⟨#[97]⟩,A2,4,Cal.boxP 0 0 50 100⟩,⟨⟨#[98]⟩,A3,4,Cal.boxP 50 0 100 50⟩]⟩
theorem field_zero (A1 A2 A3 S:Option Addr):(sectE (fieldS A1 A2 A3 S).name (fieldS A1 A2 A3 S).ps (fieldS A1 A2 A3 S).l).2.2=0:=by kernel_rfl
theorem field_gap (A1 A2 A3 S:Option Addr):gapS (fieldS A1 A2 A3 S)=5000:=by kernel_rfl
theorem secSize1:(Tryz.prog.info? 25).map (·.size)=some 3:=by kernel_rfl
theorem Field_any (w:World):Calls Tryz.prog 35 #[] w fun e w'=>∃ A1 A2 A3 S,e=.returned (.agg #[.string ⟨#[115]⟩,.slice A1 4 4,.slice S 2 2])∧SctR w' (fieldS A1 A2 A3 S)∧Below w.heap.size w w':=by
 have h1:=Lib.hid (BoxAt.new w #[.string ⟨#[]⟩,.slice none 0 0,.slice none 0 0] 25)
 have hb0:=Lib.hid (below_alloc w (.cells #[.string ⟨#[]⟩,.slice none 0 0,.slice none 0 0] 25))
 go_enter Tryz.func35,Tryz.ntmps35
 go_wp2_with fail
 refine (lawBox_any _ _ _ _ _).mono ?_
 rintro e w1 ⟨A1,rfl,hA1,hp1,hb1⟩
 have hx1:=Lib.hid (h1.out.below hb1)
 have hp1:=Lib.hid hp1
 have hs1:Hid (w.heap.size<A1):=by
  show w.heap.size<A1
  have:=hb0.out.size
  simp only[World.size_alloc] at hA1 this;omega
 have hb1:=Lib.hid (below_step hb0.out hb1)
 go_wp2_with fail
 refine (lawBox_any _ _ _ _ _).mono ?_
 rintro e w2 ⟨A2,rfl,hA2,hp2,hb2⟩
 have hx2:=Lib.hid (hx1.out.below hb2)
 have hp1:=Lib.hid (hp1.out.below hb2)
 have hp2:=Lib.hid hp2
 have hs2:Hid (w.heap.size<A2):=by
  show w.heap.size<A2
  have:=hx1.out.lt
  omega
 have hb2:=Lib.hid (below_step hb1.out hb2)
 go_wp2_with fail
 refine (lawBox_any _ _ _ _ _).mono ?_
 rintro e w3 ⟨A3,rfl,hA3,hp3,hb3⟩
 have hx3:=Lib.hid (hx2.out.below hb3)
 have hp1:=Lib.hid (hp1.out.below hb3)
 have hp2:=Lib.hid (hp2.out.below hb3)
 have hp3:=Lib.hid hp3
 have hs3:Hid (w.heap.size<A3):=by
  show w.heap.size<A3
  have:=hx2.out.lt
  omega
 have hb3:=Lib.hid (below_step hb2.out hb3)
 clear h1 hx1 hx2 hb1 hb2 hb0
 have hrow:=Lib.hid (fun t=>rows_new (m:=2) w3 [[.string ⟨#[97]⟩,.slice (some ⟨A2,0,none⟩) 4 4],[.string ⟨#[98]⟩,.slice (some ⟨A3,0,none⟩) 4 4]] (fun r hr=>by simp at hr;rcases hr with rfl | rfl <;> rfl) #[.string ⟨#[97]⟩,.slice (some ⟨A2,0,none⟩) 4 4,.string ⟨#[98]⟩,.slice (some ⟨A3,0,none⟩) 4 4] rfl t)
 have hx4:=Lib.hid (fun t=>hx3.out.below (below_alloc w3 (.cells #[.string ⟨#[97]⟩,.slice (some ⟨A2,0,none⟩) 4 4,.string ⟨#[98]⟩,.slice (some ⟨A3,0,none⟩) 4 4] t)))
 have hbl:=Lib.hid (fun t=>below_alloc w3 (.cells #[.string ⟨#[97]⟩,.slice (some ⟨A2,0,none⟩) 4 4,.string ⟨#[98]⟩,.slice (some ⟨A3,0,none⟩) 4 4] t))
 go_wp2_with (refine wpList_store_box rfl 25 (.tmp 0) (.tmp 7) rfl (w.heap.size) _ [.string ⟨#[115]⟩,.slice (some ⟨A1,0,none⟩) 4 4,.slice (some ⟨w3.heap.size,0,none⟩) 2 2] (by rfl) (by rfl) (hx4.out _) rfl secSize1 (by kernel_rfl) ?_;intro w5 h5 hg5)
 (try simp only[Exit.inBlock,Exit.then])
 have hal:=below_alloc w3 (.cells #[.string ⟨#[97]⟩,.slice (some ⟨A2,0,none⟩) 4 4,.string ⟨#[98]⟩,.slice (some ⟨A3,0,none⟩) 4 4] 74)
 have hb45:=below_of_grownB (below_step hb3.out hal) hg5 (Nat.le_refl _)
 have z1:=hs1.out
 have z2:=hs2.out
 have z3:=hs3.out
 have hps:∀ b ps,PtsR w3 (some ⟨b,0,none⟩) ps→b≠w.heap.size→PtsR w5 (some ⟨b,0,none⟩) ps:=fun b ps h hne=>(h.below hal).far hg5 hne
 have k1:=hps A1 _ hp1.out (by omega)
 have k2:=hps A2 _ hp2.out (by omega)
 have k3:=hps A3 _ hp3.out (by omega)
 have k4:=(hrow.out 74).farI hg5 (fun a e=>by cases e;exact fun h=>by have:=Option.some.inj h;dsimp only at this;have:=hx3.out.lt;omega)
 refine bodyPost_ret (results_mid1 rfl _ _ (w.heap.size) [.string ⟨#[115]⟩,.slice (some ⟨A1,0,none⟩) 4 4,.slice (some ⟨w3.heap.size,0,none⟩) 2 2] _ rfl h5.range Tryz.underlying25 rfl secSize1) rfl ⟨_,some ⟨A2,0,none⟩,some ⟨A3,0,none⟩,_,rfl,⟨show (1:Nat)≤maxLen by decide,k1,.inl (show (4:Nat)≤10 by decide),⟨k4,show (2:Nat)≤1000000 by decide,?_,?_⟩,Nat.le_refl _,?_⟩,hb45⟩
 ·intro p hp
  rcases List.mem_cons.1 hp with rfl | hp
  ·exact k2
  rw[List.mem_singleton.1 hp];exact k3
 ·intro p hp
  rcases List.mem_cons.1 hp with rfl | hp
  ·exact show (1:Nat)≤maxLen by decide
  rw[List.mem_singleton.1 hp];exact show (1:Nat)≤maxLen by decide
 intro p hp
 rcases List.mem_cons.1 hp with rfl | hp
 ·exact .inl (show (4:Nat)≤10 by decide)
 rw[List.mem_singleton.1 hp];exact .inl (show (4:Nat)≤10 by decide)
end Go.Proofs.YthfokpchdlcidaaGreat
namespace Go.Proofs.YthfokpchdlcidaaGreat
open Go Go.RowKit Go.Shelf
attribute [local go_sem] Oper.semAt_some
theorem common_s (s t:Sd) (w:World) (hs:SmS s) (ht:SmS t) (h1:Cal.trn s t.a=0) (h2:Cal.trn s t.b=0) (h3:0<Cal.alongS s t.a t.b) :
  Calls Tryz.prog 79 #[.agg #[.int .i64 s.a.x,.int .i64 s.a.y,.int .i64 s.b.x,.int .i64 s.b.y],.agg #[.int .i64 t.a.x,.int .i64 t.a.y,.int .i64 t.b.x,.int .i64 t.b.y]] w fun e w'=>e=.returned (.tuple #[.agg #[.int .i64 (comT s t).1.a.x,.int .i64 (comT s t).1.a.y,.int .i64 (comT s t).1.b.x,.int .i64 (comT s t).1.b.y],.bool (comT s t).2])∧Below w.heap.size w w':=by
 have hmo:(Tryz.prog).follows Departure.mixedOrders=true:=by kernel_rfl
 obtain⟨u,hut⟩:∃ u:Sd,u=⟨t.b,t.a⟩:=⟨_,rfl⟩
 have hu:SmS u:=hut ▸ ⟨ht.b,ht.a⟩
 have hR:Hid (comT s t=(⟨if 0<Cal.alongS s u.a s.a then u.a else s.a,if Cal.alongS s u.b s.b<0 then u.b else s.b⟩,decide (Cal.alongS s (if 0<Cal.alongS s u.a s.a then u.a else s.a) (if Cal.alongS s u.b s.b<0 then u.b else s.b)<0))):=by show _=_;unfold comT;rw[if_pos ⟨h1,h2⟩,if_pos h3,hut]
 replace hut:=Lib.hid hut
 have d3:decide (0<Cal.alongS s t.a t.b)=true:=decide_eq_true h3
 replace h1:=Lib.hid h1
 replace h2:=Lib.hid h2
 replace h3:=Lib.hid h3
 have hI:=Lib.hid (CmI.first w s t)
 have m1:Hid True:=trivial
 go_enter Tryz.func79,Tryz.ntmps79
 go_wp2_with (first
  |(go_at_call 81;clear m1;refine (turn_any s t.a _ hs ht.a).mono ?_;rintro e wn ⟨rfl,hbn⟩;rw[h1.out];replace hI:=Lib.hid (hI.out.below hbn);clear hbn;obtain⟨a0,a1,a2,a3⟩:=hI.out.s.c4;obtain⟨b0,b1,b2,b3⟩:=hI.out.t.c4;obtain⟨f0,f1,f2,f3⟩:=hI.out.t.fr4)
  |(go_at_call 81;refine (turn_any s t.b _ hs ht.b).mono ?_;clear a0 a1 a2 a3 b0 b1 b2 b3 f0 f1 f2 f3;rintro e wn ⟨rfl,hbn⟩;rw[h2.out];replace hI:=Lib.hid (hI.out.below hbn);clear hbn;obtain⟨a0,a1,a2,a3⟩:=hI.out.s.c4;obtain⟨b0,b1,b2,b3⟩:=hI.out.t.c4;obtain⟨f0,f1,f2,f3⟩:=hI.out.t.fr4)
  |(go_at_call 116;refine (along_any s t.a t.b _ hs ht.a ht.b).mono ?_;clear a0 a1 a2 a3 b0 b1 b2 b3 f0 f1 f2 f3;rintro e wn ⟨rfl,hbn⟩;replace hI:=Lib.hid (hI.out.below hbn);clear hbn;obtain⟨a0,a1,a2,a3⟩:=hI.out.s.c4;obtain⟨b0,b1,b2,b3⟩:=hI.out.t.c4;obtain⟨f0,f1,f2,f3⟩:=hI.out.t.fr4))
 replace hI:=Lib.hid hI.out.swap
 obtain⟨W4,hW4⟩:∃ W4,(((wn.setCell ⟨w.heap.size+1,0,none⟩ (.int .i64 t.b.x)).setCell ⟨w.heap.size+1,1,none⟩ (.int .i64 t.b.y)).setCell ⟨w.heap.size+1,2,none⟩ (.int .i64 t.a.x)).setCell ⟨w.heap.size+1,3,none⟩ (.int .i64 t.a.y)=W4:=⟨_,rfl⟩
 rw[hW4,←hut.out] at hI
 rw[hW4]
 clear hW4
 clear a0 a1 a2 a3 b0 b1 b2 b3 f0 f1 f2 f3
 obtain⟨a0,a1,a2,a3⟩:=hI.out.s.c4;obtain⟨b0,b1,b2,b3⟩:=hI.out.t.c4;obtain⟨f0,f1,f2,f3⟩:=hI.out.t.fr4
 have l0:=hI.out.s.lt
 have l1:=hI.out.t.lt
 have l2:=hI.out.z.lt
 have n0:¬w.heap.size=W4.heap.size:=by omega
 have n1:¬w.heap.size+1=W4.heap.size:=by omega
 have n2:¬w.heap.size+1+1=W4.heap.size:=by omega
 have hJ1:=Lib.hid (CmJ.new hI.out s.a s.b)
 have hJ2:=Lib.hid (CmJ.new hI.out s.b s.a).flip
 clear d3
 go_region_o
 ·clear n0 n1 n2 hJ2 l0 l1 l2
  clear a0 a1 a2 a3 b0 b1 b2 b3 f0 f1 f2 f3
  obtain⟨Bf,hn⟩:∃ n,W4.heap.size=n:=⟨_,rfl⟩
  generalize ((W4.alloc (.cells #[.int .i64 s.a.x,.int .i64 s.a.y] 27)).alloc (.cells #[.int .i64 s.b.x,.int .i64 s.b.y] 27)).drew=X at hJ1 ⊢
  rw[hn] at hJ1 ⊢
  clear hI hn
  obtain⟨Be,hBe⟩:∃ B,Bf+1=B:=⟨_,rfl⟩
  rw[hBe] at hJ1 ⊢
  clear hBe
  have hJ:=hJ1
  clear hJ1
  have k0:=hJ.out.hf
  have k1:=hJ.out.he
  have k2:=hJ.out.ne
  have n0:¬Bf=Be:=k2
  have n1:¬Be=Bf:=fun e=>k2 e.symm
  have n2:¬Bf=w.heap.size:=by omega
  have n3:¬Bf=w.heap.size+1:=by omega
  have n4:¬Be=w.heap.size:=by omega
  have n5:¬Be=w.heap.size+1:=by omega
  clear k2
  (obtain⟨a0,a1,a2,a3⟩:=hJ.out.base.s.c4;obtain⟨b0,b1,b2,b3⟩:=hJ.out.base.t.c4;obtain⟨f0,f1⟩:=hJ.out.f.c2;obtain⟨e0,e1⟩:=hJ.out.e.c2;obtain⟨f2,f3⟩:=hJ.out.f.fr2;obtain⟨e2,e3⟩:=hJ.out.e.fr2)
  by_cases c1:0<Cal.alongS s u.a s.a
  ·have d1:decide (0<Cal.alongS s u.a s.a)=true:=decide_eq_true c1
   have hF:Hid ((if 0<Cal.alongS s u.a s.a then u.a else s.a)=u.a):=if_pos c1
   replace c1:=Lib.hid c1
   have m2:Hid True:=trivial
   go_wp2_with (go_at_call 116;clear m2;refine (along_any s u.a s.a _ hs hu.a hs.a).mono ?_;clear a0 a1 a2 a3 b0 b1 b2 b3 f0 f1 f2 f3 e0 e1 e2 e3;rintro e X2 ⟨rfl,hbn⟩;replace hJ:=Lib.hid (hJ.out.below hbn);clear hbn;(obtain⟨a0,a1,a2,a3⟩:=hJ.out.base.s.c4;obtain⟨b0,b1,b2,b3⟩:=hJ.out.base.t.c4;obtain⟨f0,f1⟩:=hJ.out.f.c2;obtain⟨e0,e1⟩:=hJ.out.e.c2;obtain⟨f2,f3⟩:=hJ.out.f.fr2;obtain⟨e2,e3⟩:=hJ.out.e.fr2))
   replace hJ:=Lib.hid (hJ.out.setF u.a)
   clear a0 a1 a2 a3 b0 b1 b2 b3 f0 f1 f2 f3 e0 e1 e2 e3
   refine (along_any s u.b s.b _ hs hu.b hs.b).mono ?_
   rintro e X3 ⟨rfl,hbn⟩
   replace hJ:=Lib.hid (hJ.out.below hbn)
   clear hbn
   (obtain⟨a0,a1,a2,a3⟩:=hJ.out.base.s.c4;obtain⟨b0,b1,b2,b3⟩:=hJ.out.base.t.c4;obtain⟨f0,f1⟩:=hJ.out.f.c2;obtain⟨e0,e1⟩:=hJ.out.e.c2;obtain⟨f2,f3⟩:=hJ.out.f.fr2;obtain⟨e2,e3⟩:=hJ.out.e.fr2)
   by_cases c2:Cal.alongS s u.b s.b<0
   ·have d2:decide (Cal.alongS s u.b s.b<0)=true:=decide_eq_true c2
    have hE:Hid (comT s t=(⟨u.a,u.b⟩,decide (Cal.alongS s u.a u.b<0))):=by show _=_;rw[hR.out,hF.out,if_pos c2]
    replace c2:=Lib.hid c2
    go_wp2_with fail
    replace hJ:=Lib.hid (hJ.out.setE u.b)
    obtain⟨Y,hY⟩:∃ Y,(X3.setCell ⟨Be,0,none⟩ (.int .i64 u.b.x)).setCell ⟨Be,1,none⟩ (.int .i64 u.b.y)=Y:=⟨_,rfl⟩
    rw[hY] at hJ ⊢
    clear hY
    clear a0 a1 a2 a3 b0 b1 b2 b3 f0 f1 f2 f3 e0 e1 e2 e3
    refine wp_region_held_drew (S:=CmK w s Bf Be u.a u.b) (by kernel_rfl) (hJ.out.k.below ((Below.refl _ _).drew)) (fun hHeld=>?_)
    refine tkCx 0 54 ?_
    refine tkCx 1 55 ?_
    refine tkCx 2 56 ?_
    refine tkCx 3 57 ?_
    refine tkCx 4 58 ?_
    refine tkCx 5 59 ?_
    (refine ratHx 6 (fun K hK=>?_);go_simp)
    refine (along_any s u.a u.b _ hs hu.a hu.b).mono ?_
    rintro e9 wn ⟨rfl,hbn⟩
    go_simp
    refine hK.out _ _ (hHeld.below hbn) (fun hHeld=>?_)
    clear hK K hbn
    (try simp only[apS,apN,siA,scZ,scS])
    refine tkCx 7 61 ?_
    obtain⟨z0,z1,z2,z3,hz⟩:=hHeld.z
    obtain⟨r0,r1,r2,r3⟩:=hz.c4;obtain⟨g0,g1,g2,g3⟩:=hz.fr4
    have hz9:=Lib.hid ((((hz.set 0 (.int .i64 u.a.x) (by simp)).set 1 (.int .i64 u.a.y) (by simp)).set 2 (.int .i64 u.b.x) (by simp)).set 3 (.int .i64 u.b.y) (by simp))
    (refine ratHx 8 (fun K hK=>?_);go_simp)
    refine hK.out _ _ ((((hHeld.store 0 (by omega) _).store 1 (by omega) _).store 2 (by omega) _).store 3 (by omega) _) (fun hHeld=>?_)
    clear hK K
    (try simp only[apS,apN,siA,scZ,scS])
    refine tkCx 9 5 ?_
    refine wpAnyH_done (by kernel_rfl) ?_ _
    go_wp2_with fail
    refine bodyPost_ret (results_mid2 rfl _ _ (w.heap.size+1+1) [.int .i64 u.a.x,.int .i64 u.a.y,.int .i64 u.b.x,.int .i64 u.b.y] _ rfl hz9.out.range Tryz.underlying90 rfl sgSize) rfl ⟨(by rw[hE.out];rfl),hHeld.bel⟩
   have d2:decide (Cal.alongS s u.b s.b<0)=false:=decide_eq_false c2
   have hE:Hid (comT s t=(⟨u.a,s.b⟩,decide (Cal.alongS s u.a s.b<0))):=by show _=_;rw[hR.out,hF.out,if_neg c2]
   replace c2:=Lib.hid c2
   go_wp2_with fail
   clear a0 a1 a2 a3 b0 b1 b2 b3 f0 f1 f2 f3 e0 e1 e2 e3
   refine wp_region_held_drew (S:=CmK w s Bf Be u.a s.b) (by kernel_rfl) (hJ.out.k.below ((Below.refl _ _).drew)) (fun hHeld=>?_)
   refine tkCx 0 54 ?_
   refine tkCx 1 55 ?_
   refine tkCx 2 56 ?_
   refine tkCx 3 57 ?_
   refine tkCx 4 58 ?_
   refine tkCx 5 59 ?_
   (refine ratHx 6 (fun K hK=>?_);go_simp)
   refine (along_any s u.a s.b _ hs hu.a hs.b).mono ?_
   rintro e9 wn ⟨rfl,hbn⟩
   go_simp
   refine hK.out _ _ (hHeld.below hbn) (fun hHeld=>?_)
   clear hK K hbn
   (try simp only[apS,apN,siA,scZ,scS])
   refine tkCx 7 61 ?_
   obtain⟨z0,z1,z2,z3,hz⟩:=hHeld.z
   obtain⟨r0,r1,r2,r3⟩:=hz.c4;obtain⟨g0,g1,g2,g3⟩:=hz.fr4
   have hz9:=Lib.hid ((((hz.set 0 (.int .i64 u.a.x) (by simp)).set 1 (.int .i64 u.a.y) (by simp)).set 2 (.int .i64 s.b.x) (by simp)).set 3 (.int .i64 s.b.y) (by simp))
   (refine ratHx 8 (fun K hK=>?_);go_simp)
   refine hK.out _ _ ((((hHeld.store 0 (by omega) _).store 1 (by omega) _).store 2 (by omega) _).store 3 (by omega) _) (fun hHeld=>?_)
   clear hK K
   (try simp only[apS,apN,siA,scZ,scS])
   refine tkCx 9 5 ?_
   refine wpAnyH_done (by kernel_rfl) ?_ _
   go_wp2_with fail
   refine bodyPost_ret (results_mid2 rfl _ _ (w.heap.size+1+1) [.int .i64 u.a.x,.int .i64 u.a.y,.int .i64 s.b.x,.int .i64 s.b.y] _ rfl hz9.out.range Tryz.underlying90 rfl sgSize) rfl ⟨(by rw[hE.out];rfl),hHeld.bel⟩
  have d1:decide (0<Cal.alongS s u.a s.a)=false:=decide_eq_false c1
  have hF:Hid ((if 0<Cal.alongS s u.a s.a then u.a else s.a)=s.a):=if_neg c1
  replace c1:=Lib.hid c1
  have m2:Hid True:=trivial
  go_wp2_with (go_at_call 116;clear m2;refine (along_any s u.a s.a _ hs hu.a hs.a).mono ?_;clear a0 a1 a2 a3 b0 b1 b2 b3 f0 f1 f2 f3 e0 e1 e2 e3;rintro e X2 ⟨rfl,hbn⟩;replace hJ:=Lib.hid (hJ.out.below hbn);clear hbn;(obtain⟨a0,a1,a2,a3⟩:=hJ.out.base.s.c4;obtain⟨b0,b1,b2,b3⟩:=hJ.out.base.t.c4;obtain⟨f0,f1⟩:=hJ.out.f.c2;obtain⟨e0,e1⟩:=hJ.out.e.c2;obtain⟨f2,f3⟩:=hJ.out.f.fr2;obtain⟨e2,e3⟩:=hJ.out.e.fr2))
  clear a0 a1 a2 a3 b0 b1 b2 b3 f0 f1 f2 f3 e0 e1 e2 e3
  refine (along_any s u.b s.b _ hs hu.b hs.b).mono ?_
  rintro e X3 ⟨rfl,hbn⟩
  replace hJ:=Lib.hid (hJ.out.below hbn)
  clear hbn
  (obtain⟨a0,a1,a2,a3⟩:=hJ.out.base.s.c4;obtain⟨b0,b1,b2,b3⟩:=hJ.out.base.t.c4;obtain⟨f0,f1⟩:=hJ.out.f.c2;obtain⟨e0,e1⟩:=hJ.out.e.c2;obtain⟨f2,f3⟩:=hJ.out.f.fr2;obtain⟨e2,e3⟩:=hJ.out.e.fr2)
  by_cases c2:Cal.alongS s u.b s.b<0
  ·have d2:decide (Cal.alongS s u.b s.b<0)=true:=decide_eq_true c2
   have hE:Hid (comT s t=(⟨s.a,u.b⟩,decide (Cal.alongS s s.a u.b<0))):=by show _=_;rw[hR.out,hF.out,if_pos c2]
   replace c2:=Lib.hid c2
   go_wp2_with fail
   replace hJ:=Lib.hid (hJ.out.setE u.b)
   obtain⟨Y,hY⟩:∃ Y,(X3.setCell ⟨Be,0,none⟩ (.int .i64 u.b.x)).setCell ⟨Be,1,none⟩ (.int .i64 u.b.y)=Y:=⟨_,rfl⟩
   rw[hY] at hJ ⊢
   clear hY
   clear a0 a1 a2 a3 b0 b1 b2 b3 f0 f1 f2 f3 e0 e1 e2 e3
   refine wp_region_held_drew (S:=CmK w s Bf Be s.a u.b) (by kernel_rfl) (hJ.out.k.below ((Below.refl _ _).drew)) (fun hHeld=>?_)
   refine tkCx 0 54 ?_
   refine tkCx 1 55 ?_
   refine tkCx 2 56 ?_
   refine tkCx 3 57 ?_
   refine tkCx 4 58 ?_
   refine tkCx 5 59 ?_
   (refine ratHx 6 (fun K hK=>?_);go_simp)
   refine (along_any s s.a u.b _ hs hs.a hu.b).mono ?_
   rintro e9 wn ⟨rfl,hbn⟩
   go_simp
   refine hK.out _ _ (hHeld.below hbn) (fun hHeld=>?_)
   clear hK K hbn
   (try simp only[apS,apN,siA,scZ,scS])
   refine tkCx 7 61 ?_
   obtain⟨z0,z1,z2,z3,hz⟩:=hHeld.z
   obtain⟨r0,r1,r2,r3⟩:=hz.c4;obtain⟨g0,g1,g2,g3⟩:=hz.fr4
   have hz9:=Lib.hid ((((hz.set 0 (.int .i64 s.a.x) (by simp)).set 1 (.int .i64 s.a.y) (by simp)).set 2 (.int .i64 u.b.x) (by simp)).set 3 (.int .i64 u.b.y) (by simp))
   (refine ratHx 8 (fun K hK=>?_);go_simp)
   refine hK.out _ _ ((((hHeld.store 0 (by omega) _).store 1 (by omega) _).store 2 (by omega) _).store 3 (by omega) _) (fun hHeld=>?_)
   clear hK K
   (try simp only[apS,apN,siA,scZ,scS])
   refine tkCx 9 5 ?_
   refine wpAnyH_done (by kernel_rfl) ?_ _
   go_wp2_with fail
   refine bodyPost_ret (results_mid2 rfl _ _ (w.heap.size+1+1) [.int .i64 s.a.x,.int .i64 s.a.y,.int .i64 u.b.x,.int .i64 u.b.y] _ rfl hz9.out.range Tryz.underlying90 rfl sgSize) rfl ⟨(by rw[hE.out];rfl),hHeld.bel⟩
  have d2:decide (Cal.alongS s u.b s.b<0)=false:=decide_eq_false c2
  have hE:Hid (comT s t=(⟨s.a,s.b⟩,decide (Cal.alongS s s.a s.b<0))):=by show _=_;rw[hR.out,hF.out,if_neg c2]
  replace c2:=Lib.hid c2
  go_wp2_with fail
  clear a0 a1 a2 a3 b0 b1 b2 b3 f0 f1 f2 f3 e0 e1 e2 e3
  refine wp_region_held_drew (S:=CmK w s Bf Be s.a s.b) (by kernel_rfl) (hJ.out.k.below ((Below.refl _ _).drew)) (fun hHeld=>?_)
  refine tkCx 0 54 ?_
  refine tkCx 1 55 ?_
  refine tkCx 2 56 ?_
  refine tkCx 3 57 ?_
  refine tkCx 4 58 ?_
  refine tkCx 5 59 ?_
  (refine ratHx 6 (fun K hK=>?_);go_simp)
  refine (along_any s s.a s.b _ hs hs.a hs.b).mono ?_
  rintro e9 wn ⟨rfl,hbn⟩
  go_simp
  refine hK.out _ _ (hHeld.below hbn) (fun hHeld=>?_)
  clear hK K hbn
  (try simp only[apS,apN,siA,scZ,scS])
  refine tkCx 7 61 ?_
  obtain⟨z0,z1,z2,z3,hz⟩:=hHeld.z
  obtain⟨r0,r1,r2,r3⟩:=hz.c4;obtain⟨g0,g1,g2,g3⟩:=hz.fr4
  have hz9:=Lib.hid ((((hz.set 0 (.int .i64 s.a.x) (by simp)).set 1 (.int .i64 s.a.y) (by simp)).set 2 (.int .i64 s.b.x) (by simp)).set 3 (.int .i64 s.b.y) (by simp))
  (refine ratHx 8 (fun K hK=>?_);go_simp)
  refine hK.out _ _ ((((hHeld.store 0 (by omega) _).store 1 (by omega) _).store 2 (by omega) _).store 3 (by omega) _) (fun hHeld=>?_)
  clear hK K
  (try simp only[apS,apN,siA,scZ,scS])
  refine tkCx 9 5 ?_
  refine wpAnyH_done (by kernel_rfl) ?_ _
  go_wp2_with fail
  refine bodyPost_ret (results_mid2 rfl _ _ (w.heap.size+1+1) [.int .i64 s.a.x,.int .i64 s.a.y,.int .i64 s.b.x,.int .i64 s.b.y] _ rfl hz9.out.range Tryz.underlying90 rfl sgSize) rfl ⟨(by rw[hE.out];rfl),hHeld.bel⟩
 clear n0 n1 n2 hJ1 l0 l1 l2
 clear a0 a1 a2 a3 b0 b1 b2 b3 f0 f1 f2 f3
 obtain⟨Be,hn⟩:∃ n,W4.heap.size=n:=⟨_,rfl⟩
 generalize ((W4.alloc (.cells #[.int .i64 s.b.x,.int .i64 s.b.y] 27)).alloc (.cells #[.int .i64 s.a.x,.int .i64 s.a.y] 27)).drew=X at hJ2 ⊢
 rw[hn] at hJ2 ⊢
 clear hI hn
 obtain⟨Bf,hBf⟩:∃ B,Be+1=B:=⟨_,rfl⟩
 rw[hBf] at hJ2 ⊢
 clear hBf
 have hJ:=hJ2
 clear hJ2
 have k0:=hJ.out.hf
 have k1:=hJ.out.he
 have k2:=hJ.out.ne
 have n0:¬Bf=Be:=k2
 have n1:¬Be=Bf:=fun e=>k2 e.symm
 have n2:¬Bf=w.heap.size:=by omega
 have n3:¬Bf=w.heap.size+1:=by omega
 have n4:¬Be=w.heap.size:=by omega
 have n5:¬Be=w.heap.size+1:=by omega
 clear k2
 (obtain⟨a0,a1,a2,a3⟩:=hJ.out.base.s.c4;obtain⟨b0,b1,b2,b3⟩:=hJ.out.base.t.c4;obtain⟨f0,f1⟩:=hJ.out.f.c2;obtain⟨e0,e1⟩:=hJ.out.e.c2;obtain⟨f2,f3⟩:=hJ.out.f.fr2;obtain⟨e2,e3⟩:=hJ.out.e.fr2)
 by_cases c1:0<Cal.alongS s u.a s.a
 ·have d1:decide (0<Cal.alongS s u.a s.a)=true:=decide_eq_true c1
  have hF:Hid ((if 0<Cal.alongS s u.a s.a then u.a else s.a)=u.a):=if_pos c1
  replace c1:=Lib.hid c1
  have m2:Hid True:=trivial
  go_wp2_with (go_at_call 116;clear m2;refine (along_any s u.a s.a _ hs hu.a hs.a).mono ?_;clear a0 a1 a2 a3 b0 b1 b2 b3 f0 f1 f2 f3 e0 e1 e2 e3;rintro e X2 ⟨rfl,hbn⟩;replace hJ:=Lib.hid (hJ.out.below hbn);clear hbn;(obtain⟨a0,a1,a2,a3⟩:=hJ.out.base.s.c4;obtain⟨b0,b1,b2,b3⟩:=hJ.out.base.t.c4;obtain⟨f0,f1⟩:=hJ.out.f.c2;obtain⟨e0,e1⟩:=hJ.out.e.c2;obtain⟨f2,f3⟩:=hJ.out.f.fr2;obtain⟨e2,e3⟩:=hJ.out.e.fr2))
  replace hJ:=Lib.hid (hJ.out.setF u.a)
  clear a0 a1 a2 a3 b0 b1 b2 b3 f0 f1 f2 f3 e0 e1 e2 e3
  refine (along_any s u.b s.b _ hs hu.b hs.b).mono ?_
  rintro e X3 ⟨rfl,hbn⟩
  replace hJ:=Lib.hid (hJ.out.below hbn)
  clear hbn
  (obtain⟨a0,a1,a2,a3⟩:=hJ.out.base.s.c4;obtain⟨b0,b1,b2,b3⟩:=hJ.out.base.t.c4;obtain⟨f0,f1⟩:=hJ.out.f.c2;obtain⟨e0,e1⟩:=hJ.out.e.c2;obtain⟨f2,f3⟩:=hJ.out.f.fr2;obtain⟨e2,e3⟩:=hJ.out.e.fr2)
  by_cases c2:Cal.alongS s u.b s.b<0
  ·have d2:decide (Cal.alongS s u.b s.b<0)=true:=decide_eq_true c2
   have hE:Hid (comT s t=(⟨u.a,u.b⟩,decide (Cal.alongS s u.a u.b<0))):=by show _=_;rw[hR.out,hF.out,if_pos c2]
   replace c2:=Lib.hid c2
   go_wp2_with fail
   replace hJ:=Lib.hid (hJ.out.setE u.b)
   obtain⟨Y,hY⟩:∃ Y,(X3.setCell ⟨Be,0,none⟩ (.int .i64 u.b.x)).setCell ⟨Be,1,none⟩ (.int .i64 u.b.y)=Y:=⟨_,rfl⟩
   rw[hY] at hJ ⊢
   clear hY
   clear a0 a1 a2 a3 b0 b1 b2 b3 f0 f1 f2 f3 e0 e1 e2 e3
   refine wp_region_held_drew (S:=CmK w s Bf Be u.a u.b) (by kernel_rfl) (hJ.out.k.below ((Below.refl _ _).drew)) (fun hHeld=>?_)
   refine tkCx 0 54 ?_
   refine tkCx 1 55 ?_
   refine tkCx 2 56 ?_
   refine tkCx 3 57 ?_
   refine tkCx 4 58 ?_
   refine tkCx 5 59 ?_
   (refine ratHx 6 (fun K hK=>?_);go_simp)
   refine (along_any s u.a u.b _ hs hu.a hu.b).mono ?_
   rintro e9 wn ⟨rfl,hbn⟩
   go_simp
   refine hK.out _ _ (hHeld.below hbn) (fun hHeld=>?_)
   clear hK K hbn
   (try simp only[apS,apN,siA,scZ,scS])
   refine tkCx 7 61 ?_
   obtain⟨z0,z1,z2,z3,hz⟩:=hHeld.z
   obtain⟨r0,r1,r2,r3⟩:=hz.c4;obtain⟨g0,g1,g2,g3⟩:=hz.fr4
   have hz9:=Lib.hid ((((hz.set 0 (.int .i64 u.a.x) (by simp)).set 1 (.int .i64 u.a.y) (by simp)).set 2 (.int .i64 u.b.x) (by simp)).set 3 (.int .i64 u.b.y) (by simp))
   (refine ratHx 8 (fun K hK=>?_);go_simp)
   refine hK.out _ _ ((((hHeld.store 0 (by omega) _).store 1 (by omega) _).store 2 (by omega) _).store 3 (by omega) _) (fun hHeld=>?_)
   clear hK K
   (try simp only[apS,apN,siA,scZ,scS])
   refine tkCx 9 5 ?_
   refine wpAnyH_done (by kernel_rfl) ?_ _
   go_wp2_with fail
   refine bodyPost_ret (results_mid2 rfl _ _ (w.heap.size+1+1) [.int .i64 u.a.x,.int .i64 u.a.y,.int .i64 u.b.x,.int .i64 u.b.y] _ rfl hz9.out.range Tryz.underlying90 rfl sgSize) rfl ⟨(by rw[hE.out];rfl),hHeld.bel⟩
  have d2:decide (Cal.alongS s u.b s.b<0)=false:=decide_eq_false c2
  have hE:Hid (comT s t=(⟨u.a,s.b⟩,decide (Cal.alongS s u.a s.b<0))):=by show _=_;rw[hR.out,hF.out,if_neg c2]
  replace c2:=Lib.hid c2
  go_wp2_with fail
  clear a0 a1 a2 a3 b0 b1 b2 b3 f0 f1 f2 f3 e0 e1 e2 e3
  refine wp_region_held_drew (S:=CmK w s Bf Be u.a s.b) (by kernel_rfl) (hJ.out.k.below ((Below.refl _ _).drew)) (fun hHeld=>?_)
  refine tkCx 0 54 ?_
  refine tkCx 1 55 ?_
  refine tkCx 2 56 ?_
  refine tkCx 3 57 ?_
  refine tkCx 4 58 ?_
  refine tkCx 5 59 ?_
  (refine ratHx 6 (fun K hK=>?_);go_simp)
  refine (along_any s u.a s.b _ hs hu.a hs.b).mono ?_
  rintro e9 wn ⟨rfl,hbn⟩
  go_simp
  refine hK.out _ _ (hHeld.below hbn) (fun hHeld=>?_)
  clear hK K hbn
  (try simp only[apS,apN,siA,scZ,scS])
  refine tkCx 7 61 ?_
  obtain⟨z0,z1,z2,z3,hz⟩:=hHeld.z
  obtain⟨r0,r1,r2,r3⟩:=hz.c4;obtain⟨g0,g1,g2,g3⟩:=hz.fr4
  have hz9:=Lib.hid ((((hz.set 0 (.int .i64 u.a.x) (by simp)).set 1 (.int .i64 u.a.y) (by simp)).set 2 (.int .i64 s.b.x) (by simp)).set 3 (.int .i64 s.b.y) (by simp))
  (refine ratHx 8 (fun K hK=>?_);go_simp)
  refine hK.out _ _ ((((hHeld.store 0 (by omega) _).store 1 (by omega) _).store 2 (by omega) _).store 3 (by omega) _) (fun hHeld=>?_)
  clear hK K
  (try simp only[apS,apN,siA,scZ,scS])
  refine tkCx 9 5 ?_
  refine wpAnyH_done (by kernel_rfl) ?_ _
  go_wp2_with fail
  refine bodyPost_ret (results_mid2 rfl _ _ (w.heap.size+1+1) [.int .i64 u.a.x,.int .i64 u.a.y,.int .i64 s.b.x,.int .i64 s.b.y] _ rfl hz9.out.range Tryz.underlying90 rfl sgSize) rfl ⟨(by rw[hE.out];rfl),hHeld.bel⟩
 have d1:decide (0<Cal.alongS s u.a s.a)=false:=decide_eq_false c1
 have hF:Hid ((if 0<Cal.alongS s u.a s.a then u.a else s.a)=s.a):=if_neg c1
 replace c1:=Lib.hid c1
 have m2:Hid True:=trivial
 go_wp2_with (go_at_call 116;clear m2;refine (along_any s u.a s.a _ hs hu.a hs.a).mono ?_;clear a0 a1 a2 a3 b0 b1 b2 b3 f0 f1 f2 f3 e0 e1 e2 e3;rintro e X2 ⟨rfl,hbn⟩;replace hJ:=Lib.hid (hJ.out.below hbn);clear hbn;(obtain⟨a0,a1,a2,a3⟩:=hJ.out.base.s.c4;obtain⟨b0,b1,b2,b3⟩:=hJ.out.base.t.c4;obtain⟨f0,f1⟩:=hJ.out.f.c2;obtain⟨e0,e1⟩:=hJ.out.e.c2;obtain⟨f2,f3⟩:=hJ.out.f.fr2;obtain⟨e2,e3⟩:=hJ.out.e.fr2))
 clear a0 a1 a2 a3 b0 b1 b2 b3 f0 f1 f2 f3 e0 e1 e2 e3
 refine (along_any s u.b s.b _ hs hu.b hs.b).mono ?_
 rintro e X3 ⟨rfl,hbn⟩
 replace hJ:=Lib.hid (hJ.out.below hbn)
 clear hbn
 (obtain⟨a0,a1,a2,a3⟩:=hJ.out.base.s.c4;obtain⟨b0,b1,b2,b3⟩:=hJ.out.base.t.c4;obtain⟨f0,f1⟩:=hJ.out.f.c2;obtain⟨e0,e1⟩:=hJ.out.e.c2;obtain⟨f2,f3⟩:=hJ.out.f.fr2;obtain⟨e2,e3⟩:=hJ.out.e.fr2)
 by_cases c2:Cal.alongS s u.b s.b<0
 ·have d2:decide (Cal.alongS s u.b s.b<0)=true:=decide_eq_true c2
  have hE:Hid (comT s t=(⟨s.a,u.b⟩,decide (Cal.alongS s s.a u.b<0))):=by show _=_;rw[hR.out,hF.out,if_pos c2]
  replace c2:=Lib.hid c2
  go_wp2_with fail
  replace hJ:=Lib.hid (hJ.out.setE u.b)
  obtain⟨Y,hY⟩:∃ Y,(X3.setCell ⟨Be,0,none⟩ (.int .i64 u.b.x)).setCell ⟨Be,1,none⟩ (.int .i64 u.b.y)=Y:=⟨_,rfl⟩
  rw[hY] at hJ ⊢
  clear hY
  clear a0 a1 a2 a3 b0 b1 b2 b3 f0 f1 f2 f3 e0 e1 e2 e3
  refine wp_region_held_drew (S:=CmK w s Bf Be s.a u.b) (by kernel_rfl) (hJ.out.k.below ((Below.refl _ _).drew)) (fun hHeld=>?_)
  refine tkCx 0 54 ?_
  refine tkCx 1 55 ?_
  refine tkCx 2 56 ?_
  refine tkCx 3 57 ?_
  refine tkCx 4 58 ?_
  refine tkCx 5 59 ?_
  (refine ratHx 6 (fun K hK=>?_);go_simp)
  refine (along_any s s.a u.b _ hs hs.a hu.b).mono ?_
  rintro e9 wn ⟨rfl,hbn⟩
  go_simp
  refine hK.out _ _ (hHeld.below hbn) (fun hHeld=>?_)
  clear hK K hbn
  (try simp only[apS,apN,siA,scZ,scS])
  refine tkCx 7 61 ?_
  obtain⟨z0,z1,z2,z3,hz⟩:=hHeld.z
  obtain⟨r0,r1,r2,r3⟩:=hz.c4;obtain⟨g0,g1,g2,g3⟩:=hz.fr4
  have hz9:=Lib.hid ((((hz.set 0 (.int .i64 s.a.x) (by simp)).set 1 (.int .i64 s.a.y) (by simp)).set 2 (.int .i64 u.b.x) (by simp)).set 3 (.int .i64 u.b.y) (by simp))
  (refine ratHx 8 (fun K hK=>?_);go_simp)
  refine hK.out _ _ ((((hHeld.store 0 (by omega) _).store 1 (by omega) _).store 2 (by omega) _).store 3 (by omega) _) (fun hHeld=>?_)
  clear hK K
  (try simp only[apS,apN,siA,scZ,scS])
  refine tkCx 9 5 ?_
  refine wpAnyH_done (by kernel_rfl) ?_ _
  go_wp2_with fail
  refine bodyPost_ret (results_mid2 rfl _ _ (w.heap.size+1+1) [.int .i64 s.a.x,.int .i64 s.a.y,.int .i64 u.b.x,.int .i64 u.b.y] _ rfl hz9.out.range Tryz.underlying90 rfl sgSize) rfl ⟨(by rw[hE.out];rfl),hHeld.bel⟩
 have d2:decide (Cal.alongS s u.b s.b<0)=false:=decide_eq_false c2
 have hE:Hid (comT s t=(⟨s.a,s.b⟩,decide (Cal.alongS s s.a s.b<0))):=by show _=_;rw[hR.out,hF.out,if_neg c2]
 replace c2:=Lib.hid c2
 go_wp2_with fail
 clear a0 a1 a2 a3 b0 b1 b2 b3 f0 f1 f2 f3 e0 e1 e2 e3
 refine wp_region_held_drew (S:=CmK w s Bf Be s.a s.b) (by kernel_rfl) (hJ.out.k.below ((Below.refl _ _).drew)) (fun hHeld=>?_)
 refine tkCx 0 54 ?_
 refine tkCx 1 55 ?_
 refine tkCx 2 56 ?_
 refine tkCx 3 57 ?_
 refine tkCx 4 58 ?_
 refine tkCx 5 59 ?_
 (refine ratHx 6 (fun K hK=>?_);go_simp)
 refine (along_any s s.a s.b _ hs hs.a hs.b).mono ?_
 rintro e9 wn ⟨rfl,hbn⟩
 go_simp
 refine hK.out _ _ (hHeld.below hbn) (fun hHeld=>?_)
 clear hK K hbn
 (try simp only[apS,apN,siA,scZ,scS])
 refine tkCx 7 61 ?_
 obtain⟨z0,z1,z2,z3,hz⟩:=hHeld.z
 obtain⟨r0,r1,r2,r3⟩:=hz.c4;obtain⟨g0,g1,g2,g3⟩:=hz.fr4
 have hz9:=Lib.hid ((((hz.set 0 (.int .i64 s.a.x) (by simp)).set 1 (.int .i64 s.a.y) (by simp)).set 2 (.int .i64 s.b.x) (by simp)).set 3 (.int .i64 s.b.y) (by simp))
 (refine ratHx 8 (fun K hK=>?_);go_simp)
 refine hK.out _ _ ((((hHeld.store 0 (by omega) _).store 1 (by omega) _).store 2 (by omega) _).store 3 (by omega) _) (fun hHeld=>?_)
 clear hK K
 (try simp only[apS,apN,siA,scZ,scS])
 refine tkCx 9 5 ?_
 refine wpAnyH_done (by kernel_rfl) ?_ _
 go_wp2_with fail
 refine bodyPost_ret (results_mid2 rfl _ _ (w.heap.size+1+1) [.int .i64 s.a.x,.int .i64 s.a.y,.int .i64 s.b.x,.int .i64 s.b.y] _ rfl hz9.out.range Tryz.underlying90 rfl sgSize) rfl ⟨(by rw[hE.out];rfl),hHeld.bel⟩
end Go.Proofs.YthfokpchdlcidaaGreat
namespace Go.Proofs.YthfokpchdlcidaaGreat
open Go Go.RowKit Go.Shelf
attribute [local go_sem] Oper.semAt_some
theorem common_any (s t:Sd) (w:World) (hs:SmS s) (ht:SmS t) :
  Calls Tryz.prog 79 #[.agg #[.int .i64 s.a.x,.int .i64 s.a.y,.int .i64 s.b.x,.int .i64 s.b.y],.agg #[.int .i64 t.a.x,.int .i64 t.a.y,.int .i64 t.b.x,.int .i64 t.b.y]] w fun e w'=>e=.returned (.tuple #[.agg #[.int .i64 (comT s t).1.a.x,.int .i64 (comT s t).1.a.y,.int .i64 (comT s t).1.b.x,.int .i64 (comT s t).1.b.y],.bool (comT s t).2])∧Below w.heap.size w w':=by
 have m1:Hid True:=trivial
 rcases trn_cases s t.a with h1 | h1 | h1
 ·rcases trn_cases s t.b with h2 | h2 | h2
  ·by_cases h3:0<Cal.alongS s t.a t.b
   ·exact common_s s t w hs ht h1 h2 h3
   exact common_t s t w hs ht h1 h2 h3
  ·have hR:Hid (comT s t=(⟨Cal.pt0,Cal.pt0⟩,false)):=by show _=_;unfold comT;rw[if_neg (by omega)]
   replace h1:=Lib.hid h1
   replace h2:=Lib.hid h2
   have hI:=Lib.hid (CmI.first w s t)
   go_enter Tryz.func79,Tryz.ntmps79
   go_wp2_with (first | (go_at_call 81;clear m1;refine (turn_any s t.a _ hs ht.a).mono ?_;rintro e wn ⟨rfl,hbn⟩;rw[h1.out];replace hI:=Lib.hid (hI.out.below hbn);clear hbn;obtain⟨a0,a1,a2,a3⟩:=hI.out.s.c4;obtain⟨b0,b1,b2,b3⟩:=hI.out.t.c4;obtain⟨f0,f1,f2,f3⟩:=hI.out.t.fr4;obtain⟨g0,g1,g2,g3⟩:=hI.out.z.fr4;obtain⟨r0,r1,r2,r3⟩:=hI.out.z.c4) | (go_at_call 81;refine (turn_any s t.b _ hs ht.b).mono ?_;clear a0 a1 a2 a3 b0 b1 b2 b3 f0 f1 f2 f3;clear g0 g1 g2 g3 r0 r1 r2 r3;rintro e wn ⟨rfl,hbn⟩;rw[h2.out];replace hI:=Lib.hid (hI.out.below hbn);clear hbn;obtain⟨a0,a1,a2,a3⟩:=hI.out.s.c4;obtain⟨b0,b1,b2,b3⟩:=hI.out.t.c4;obtain⟨f0,f1,f2,f3⟩:=hI.out.t.fr4;obtain⟨g0,g1,g2,g3⟩:=hI.out.z.fr4;obtain⟨r0,r1,r2,r3⟩:=hI.out.z.c4))
   refine bodyPost_ret (results_mid2 rfl _ _ (w.heap.size+1+1) [.int .i64 0,.int .i64 0,.int .i64 0,.int .i64 0] _ rfl ((((hI.out.z.set 0 (.int .i64 0) (by simp)).set 1 (.int .i64 0) (by simp)).set 2 (.int .i64 0) (by simp)).set 3 (.int .i64 0) (by simp)).range Tryz.underlying90 rfl sgSize) rfl ⟨by rw[hR.out];rfl,?_⟩
   exact (((hI.out.bel.setCell (p:=⟨w.heap.size+1+1,0,none⟩) (show w.heap.size≤w.heap.size+1+1 by omega) _).setCell (p:=⟨w.heap.size+1+1,1,none⟩) (show w.heap.size≤w.heap.size+1+1 by omega) _).setCell (p:=⟨w.heap.size+1+1,2,none⟩) (show w.heap.size≤w.heap.size+1+1 by omega) _).setCell (p:=⟨w.heap.size+1+1,3,none⟩) (show w.heap.size≤w.heap.size+1+1 by omega) _
  have hR:Hid (comT s t=(⟨Cal.pt0,Cal.pt0⟩,false)):=by show _=_;unfold comT;rw[if_neg (by omega)]
  replace h1:=Lib.hid h1
  replace h2:=Lib.hid h2
  have hI:=Lib.hid (CmI.first w s t)
  go_enter Tryz.func79,Tryz.ntmps79
  go_wp2_with (first | (go_at_call 81;clear m1;refine (turn_any s t.a _ hs ht.a).mono ?_;rintro e wn ⟨rfl,hbn⟩;rw[h1.out];replace hI:=Lib.hid (hI.out.below hbn);clear hbn;obtain⟨a0,a1,a2,a3⟩:=hI.out.s.c4;obtain⟨b0,b1,b2,b3⟩:=hI.out.t.c4;obtain⟨f0,f1,f2,f3⟩:=hI.out.t.fr4;obtain⟨g0,g1,g2,g3⟩:=hI.out.z.fr4;obtain⟨r0,r1,r2,r3⟩:=hI.out.z.c4) | (go_at_call 81;refine (turn_any s t.b _ hs ht.b).mono ?_;clear a0 a1 a2 a3 b0 b1 b2 b3 f0 f1 f2 f3;clear g0 g1 g2 g3 r0 r1 r2 r3;rintro e wn ⟨rfl,hbn⟩;rw[h2.out];replace hI:=Lib.hid (hI.out.below hbn);clear hbn;obtain⟨a0,a1,a2,a3⟩:=hI.out.s.c4;obtain⟨b0,b1,b2,b3⟩:=hI.out.t.c4;obtain⟨f0,f1,f2,f3⟩:=hI.out.t.fr4;obtain⟨g0,g1,g2,g3⟩:=hI.out.z.fr4;obtain⟨r0,r1,r2,r3⟩:=hI.out.z.c4))
  refine bodyPost_ret (results_mid2 rfl _ _ (w.heap.size+1+1) [.int .i64 0,.int .i64 0,.int .i64 0,.int .i64 0] _ rfl ((((hI.out.z.set 0 (.int .i64 0) (by simp)).set 1 (.int .i64 0) (by simp)).set 2 (.int .i64 0) (by simp)).set 3 (.int .i64 0) (by simp)).range Tryz.underlying90 rfl sgSize) rfl ⟨by rw[hR.out];rfl,?_⟩
  exact (((hI.out.bel.setCell (p:=⟨w.heap.size+1+1,0,none⟩) (show w.heap.size≤w.heap.size+1+1 by omega) _).setCell (p:=⟨w.heap.size+1+1,1,none⟩) (show w.heap.size≤w.heap.size+1+1 by omega) _).setCell (p:=⟨w.heap.size+1+1,2,none⟩) (show w.heap.size≤w.heap.size+1+1 by omega) _).setCell (p:=⟨w.heap.size+1+1,3,none⟩) (show w.heap.size≤w.heap.size+1+1 by omega) _
 ·have hR:Hid (comT s t=(⟨Cal.pt0,Cal.pt0⟩,false)):=by show _=_;unfold comT;rw[if_neg (by omega)]
  replace h1:=Lib.hid h1
  have hI:=Lib.hid (CmI.first w s t)
  go_enter Tryz.func79,Tryz.ntmps79
  go_wp2_with (first | (go_at_call 81;clear m1;refine (turn_any s t.a _ hs ht.a).mono ?_;rintro e wn ⟨rfl,hbn⟩;rw[h1.out];replace hI:=Lib.hid (hI.out.below hbn);clear hbn;obtain⟨a0,a1,a2,a3⟩:=hI.out.s.c4;obtain⟨b0,b1,b2,b3⟩:=hI.out.t.c4;obtain⟨f0,f1,f2,f3⟩:=hI.out.t.fr4;obtain⟨g0,g1,g2,g3⟩:=hI.out.z.fr4;obtain⟨r0,r1,r2,r3⟩:=hI.out.z.c4) | (go_at_call 81;refine (turn_any s t.b _ hs ht.b).mono ?_;clear a0 a1 a2 a3 b0 b1 b2 b3 f0 f1 f2 f3;clear g0 g1 g2 g3 r0 r1 r2 r3;rintro e wn ⟨rfl,hbn⟩;rw[h2.out];replace hI:=Lib.hid (hI.out.below hbn);clear hbn;obtain⟨a0,a1,a2,a3⟩:=hI.out.s.c4;obtain⟨b0,b1,b2,b3⟩:=hI.out.t.c4;obtain⟨f0,f1,f2,f3⟩:=hI.out.t.fr4;obtain⟨g0,g1,g2,g3⟩:=hI.out.z.fr4;obtain⟨r0,r1,r2,r3⟩:=hI.out.z.c4))
  refine bodyPost_ret (results_mid2 rfl _ _ (w.heap.size+1+1) [.int .i64 0,.int .i64 0,.int .i64 0,.int .i64 0] _ rfl ((((hI.out.z.set 0 (.int .i64 0) (by simp)).set 1 (.int .i64 0) (by simp)).set 2 (.int .i64 0) (by simp)).set 3 (.int .i64 0) (by simp)).range Tryz.underlying90 rfl sgSize) rfl ⟨by rw[hR.out];rfl,?_⟩
  exact (((hI.out.bel.setCell (p:=⟨w.heap.size+1+1,0,none⟩) (show w.heap.size≤w.heap.size+1+1 by omega) _).setCell (p:=⟨w.heap.size+1+1,1,none⟩) (show w.heap.size≤w.heap.size+1+1 by omega) _).setCell (p:=⟨w.heap.size+1+1,2,none⟩) (show w.heap.size≤w.heap.size+1+1 by omega) _).setCell (p:=⟨w.heap.size+1+1,3,none⟩) (show w.heap.size≤w.heap.size+1+1 by omega) _
 have hR:Hid (comT s t=(⟨Cal.pt0,Cal.pt0⟩,false)):=by show _=_;unfold comT;rw[if_neg (by omega)]
 replace h1:=Lib.hid h1
 have hI:=Lib.hid (CmI.first w s t)
 go_enter Tryz.func79,Tryz.ntmps79
 go_wp2_with (first | (go_at_call 81;clear m1;refine (turn_any s t.a _ hs ht.a).mono ?_;rintro e wn ⟨rfl,hbn⟩;rw[h1.out];replace hI:=Lib.hid (hI.out.below hbn);clear hbn;obtain⟨a0,a1,a2,a3⟩:=hI.out.s.c4;obtain⟨b0,b1,b2,b3⟩:=hI.out.t.c4;obtain⟨f0,f1,f2,f3⟩:=hI.out.t.fr4;obtain⟨g0,g1,g2,g3⟩:=hI.out.z.fr4;obtain⟨r0,r1,r2,r3⟩:=hI.out.z.c4) | (go_at_call 81;refine (turn_any s t.b _ hs ht.b).mono ?_;clear a0 a1 a2 a3 b0 b1 b2 b3 f0 f1 f2 f3;clear g0 g1 g2 g3 r0 r1 r2 r3;rintro e wn ⟨rfl,hbn⟩;rw[h2.out];replace hI:=Lib.hid (hI.out.below hbn);clear hbn;obtain⟨a0,a1,a2,a3⟩:=hI.out.s.c4;obtain⟨b0,b1,b2,b3⟩:=hI.out.t.c4;obtain⟨f0,f1,f2,f3⟩:=hI.out.t.fr4;obtain⟨g0,g1,g2,g3⟩:=hI.out.z.fr4;obtain⟨r0,r1,r2,r3⟩:=hI.out.z.c4))
 refine bodyPost_ret (results_mid2 rfl _ _ (w.heap.size+1+1) [.int .i64 0,.int .i64 0,.int .i64 0,.int .i64 0] _ rfl ((((hI.out.z.set 0 (.int .i64 0) (by simp)).set 1 (.int .i64 0) (by simp)).set 2 (.int .i64 0) (by simp)).set 3 (.int .i64 0) (by simp)).range Tryz.underlying90 rfl sgSize) rfl ⟨by rw[hR.out];rfl,?_⟩
 exact (((hI.out.bel.setCell (p:=⟨w.heap.size+1+1,0,none⟩) (show w.heap.size≤w.heap.size+1+1 by omega) _).setCell (p:=⟨w.heap.size+1+1,1,none⟩) (show w.heap.size≤w.heap.size+1+1 by omega) _).setCell (p:=⟨w.heap.size+1+1,2,none⟩) (show w.heap.size≤w.heap.size+1+1 by omega) _).setCell (p:=⟨w.heap.size+1+1,3,none⟩) (show w.heap.size≤w.heap.size+1+1 by omega) _
end Go.Proofs.YthfokpchdlcidaaGreat
namespace Go.Proofs.YthfokpchdlcidaaGreat
open Go Go.RowKit Go.Shelf
attribute [local go_sem] Oper.semAt_some
def sdR (s:Sd):List Value:=[.int .i64 s.a.x,.int .i64 s.a.y,.int .i64 s.b.x,.int .i64 s.b.y]
def bdIn (s:Sd) (vs:List Pt) (j:Nat):List Sd:=((Cal.sds vs).take j).filterMap (Cal.commonS s)
def bdTo (us vs:List Pt) (k:Nat):List Sd:=((Cal.sds us).take k).flatMap fun s=>(Cal.sds vs).filterMap (Cal.commonS s)
theorem sds_take {ps:List Pt} {i:Nat} (h:i<ps.length):(Cal.sds ps).take (i+1)=(Cal.sds ps).take i ++ [Cal.sd ps i]:=by
 have hi:i<(Cal.sds ps).length:=by rw[sds_length];exact h
 have hg:(Cal.sds ps)[i]=Cal.sd ps i:=by have:=sds_get h;rw[List.getElem?_eq_getElem hi] at this;exact Option.some.inj this
 rw[List.take_succ_eq_append_getElem hi,hg]
theorem bdIn_yes {s:Sd} {vs:List Pt} {j:Nat} (h:j<vs.length) {x:Sd} (hx:Cal.commonS s (Cal.sd vs j)=some x):bdIn s vs (j+1)=bdIn s vs j ++ [x]:=by
 unfold bdIn
 rw[sds_take h,List.filterMap_append]
 simp[hx]
theorem bdIn_no {s:Sd} {vs:List Pt} {j:Nat} (h:j<vs.length) (hx:Cal.commonS s (Cal.sd vs j)=none):bdIn s vs (j+1)=bdIn s vs j:=by
 unfold bdIn
 rw[sds_take h,List.filterMap_append]
 simp[hx]
theorem bdTo_succ {us vs:List Pt} {k:Nat} (h:k<us.length):bdTo us vs (k+1)=bdTo us vs k ++ bdIn (Cal.sd us k) vs vs.length:=by
 unfold bdTo bdIn
 have hv:(Cal.sds vs).take vs.length=Cal.sds vs:=List.take_of_length_le (by rw[sds_length];exact Nat.le_refl _)
 rw[sds_take h,List.flatMap_append,hv]
 simp
theorem bdTo_all (us vs:List Pt):bdTo us vs us.length=Cal.borderP us vs:=by
 unfold bdTo Cal.borderP
 rw[List.take_of_length_le (by rw[sds_length];exact Nat.le_refl _)]
theorem bdIn_zero (s:Sd) (vs:List Pt):bdIn s vs 0=[]:=rfl
theorem elemSg:Elem Tryz.prog 83 90 4 32:=Elem.mk' Tryz.underlying83 (z:=.agg #[.int .i64 0,.int .i64 0,.int .i64 0,.int .i64 0]) (by kernel_rfl) rfl (by decide)
structure BdI (w:World) (Vb:Option Addr) (nb db N:Nat) (Ns:List Nat) (out:List Sd) (W:World):Prop where
 b:BoxAt W w.heap.size [.slice Vb nb db]
 o:∃ v,BoxAt W (w.heap.size+1) [v]∧OwnL W (w.heap.size+3) 90 4 v (out.map sdR)∧∀ g,v.ownBlock=some g→g∉Ns
 bel:Below w.heap.size w W
 lt:w.heap.size+3≤N
 size:N≤W.heap.size
theorem BdI.below {w:World} {Vb:Option Addr} {nb db N:Nat} {Ns:List Nat} {out:List Sd} {X Y:World} (h:BdI w Vb nb db N Ns out X) (hb:Below X.heap.size X Y):BdI w Vb nb db N Ns out Y:=by
 obtain⟨h1,⟨v,h2,h3,h4⟩,h5,h6,h7⟩:=h
 exact⟨h1.below hb,⟨v,h2.below hb,OwnL.below h3 hb,h4⟩,h5.trans (hb.mono h5.size),h6,Nat.le_trans h7 hb.size⟩
theorem BdI.kept {w:World} {Vb:Option Addr} {nb db N:Nat} {Ns:List Nat} {out:List Sd} {X Y:World} {row:Option Nat} (h:BdI w Vb nb db N Ns out X) (hg:X.grownBy Y row) (hr:∀ r,row=some r→w.heap.size≤r∧∃ o:Obj,X.heap[r]?=some o∧o.isCells=false):BdI w Vb nb db N Ns out Y:=by
 obtain⟨h1,⟨v,h2,h3,h4⟩,h5,h6,h7⟩:=h
 have ho:Others X row:=fun r e=>(hr r e).2
 exact⟨h1.keptF hg ho,⟨v,h2.keptF hg ho,OwnL.keptF h3 hg ho,h4⟩,ownFrom_below (β:=Unit) (Nat.le_refl _) (Nat.le_refl _) () X Y row h5 hg hr,h6,Nat.le_trans h7 hg.size⟩
end Go.Proofs.YthfokpchdlcidaaGreat
