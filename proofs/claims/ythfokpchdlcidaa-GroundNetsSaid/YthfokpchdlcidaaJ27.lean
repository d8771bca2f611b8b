/- What the statements rest on: definitions and walks, part 27. -/
import Derived.Test.YthfokpchdlcidaaJ26
set_option maxRecDepth 100000
set_option maxHeartbeats 16000000
set_option linter.unusedSimpArgs false
set_option linter.unusedVariables false
namespace Go.Proofs.Ythfokpchdlcidaa
open Go Go.RowKit Go.Shelf
theorem mk_mat2 (W : World) (n : Nat) (hn : n ≤ 1000000) : (Instr.makeSlice 76 (.int .i64 (n : Int)) (.int .i64 (n : Int))).run Try.prog W = .ok (.slice (some ⟨W.heap.size,0,none⟩) n n) (W.alloc (.cells (madeCells #[.slice none 0 0] n) 78)) :=
 run_make_row' _ _ _ 24 Try.underlying76 (by kernel_rfl) rfl .i64 .i64 n (by omega) (by omega) W
theorem HeightsR_any (n : Nat) (A : Option Addr) (c : Nat) (l : List Lev) (w : World) (hz : Cal.netE ((n : Int) + 1) l = 0) (hL : Levs w A l) :
  Calls Try.prog 11 #[.int .i64 ((n : Int) + 1),.slice A l.length c] w fun e w'=>∃ v,e = .returned v ∧ OwnL w' w.heap.size 70 2 v ((Cal.heightsP n l).map frR) ∧ Below w.heap.size w w':=by
 have hb0 : Hid (Below w.heap.size w w):=Below.refl _ _
 obtain ⟨hn1,hn6,hl20,hlev,_⟩:=Cal.netE_zero hz
 replace hlev:=Lib.hid hlev
 obtain ⟨he1,he2,he3,he4,he5,he6⟩:=Cal.net_edges (n:=n) hz
 have hn5 : n ≤ 5:=by omega
 have hk1 : ∀ W,(Instr.makeSlice 76 (.int .i64 (n : Int)) (.int .i64 (n : Int))).run Try.prog W = .ok (.slice (some ⟨W.heap.size,0,none⟩) n n) (W.alloc (.cells (madeCells #[.slice none 0 0] n) 78)):=fun W=>mk_mat2 W n (by omega)
 have hk2 : ∀ W,(Instr.makeSlice 78 (.int .i64 (n : Int)) (.int .i64 (n : Int))).run Try.prog W = .ok (.slice (some ⟨W.heap.size,0,none⟩) n n) (W.alloc (.cells (madeCells #[.int .i64 0] n) 3)):=fun W=>mk_ints W n (by omega)
 have hH:=Lib.hid (HtI.start1 (w:=w) (W:=w) (n:=n) (Below.refl _ _))
 have hw5 : IntKind.i64.wrap ((n : Int) + 1 - 1) = n:=by rw [Int.add_sub_cancel];exact wrap_small (by omega) (by omega)
 have hw5b : wrap64 ((n : Int) + 1 - 1) = n:=by rw [← wrap_eq];exact hw5
 replace hL:=Lib.hid hL
 replace hz:=Lib.hid hz
 go_enter Try.func11,Try.ntmps11
 go_wp2_with fail
 have hI:=hH
 clear hH
 go_loopw [8] (fun i wr=>∃ (k : Nat) (R : Nat → Nat),k ≤ n ∧ i = .int .i64 k ∧ Hid (HtI w w.heap.size (w.heap.size + 1) R n k (fun _ _=>0) (fun _=>0) wr)) (fun i _=>n - (intOf i).toNat)
 case atStart=>exact ⟨0,_,Nat.zero_le _,rfl,hI⟩
 case round =>
  clear hI
  obtain ⟨k,R,hk,rfl,hI⟩:=hrel
  generalize hG : w.heap.size = G at *
  generalize hHH : G + 1 = H at *
  by_cases hlt : k < n
  ·have c0:=hI.out.o.cell hlt
   rw [if_neg (by omega)] at c0
   have f0:=hI.out.o.frozen k
   have g0:=hI.out.o.lt
   have hI2:=hI.out.row
   rw [World.setCell_alloc_past _ _ _ _ g0] at hI2
   replace hI2:=Lib.hid hI2
   clear hI
   go_wp2_with fail
   go_roundw
   case rel=>exact ⟨k + 1,_,by omega,by go_num,hI2⟩
   case measure=>simp [intOf];omega
  ·have hI9 : Hid (HtI w G H R n n (fun _ _=>0) (fun _=>0) wr):=by
    have e : k = n:=by omega
    rw [e] at hI
    exact hI
   clear hk2 hI hk1
   go_wp2_with fail
   have hI0 : Hid (HtI w G H R n n (shL (Cal.edges (l.take 0))) (shR (Cal.edges (l.take 0))) wr):=hI9
   clear hI9
   go_loopw [9] (fun i wr=>∃ k : Nat,k ≤ l.length ∧ i = .int .i64 k ∧ Hid (HtI w G H R n n (shL (Cal.edges (l.take k))) (shR (Cal.edges (l.take k))) wr)) (fun i _=>l.length - (intOf i).toNat)
   case atStart=>exact ⟨0,Nat.zero_le _,rfl,hI0⟩
   case round =>
    clear hI0
    obtain ⟨k,hk,rfl,hI⟩:=hrel
    by_cases hlt : k < l.length
    ·have hk' : l[k]? = some l[k]:=List.getElem?_eq_getElem hlt
     have hv:=Cal.levE_zero (hlev.out _ (List.getElem_mem hlt))
     have htk : Cal.edges (l.take (k + 1)) = Cal.edges (l.take k) ++ [Cal.edge l[k]]:=by
      unfold Cal.edges
      rw [List.take_succ_eq_append_getElem hlt,List.map_append];rfl
     have hsub : ∀ e ∈ Cal.edges (l.take k),e ∈ Cal.edges l:=fun e he=>by
      obtain ⟨x,hx,rfl⟩:=List.mem_map.1 he
      exact List.mem_map.2 ⟨x,List.mem_of_mem_take hx,rfl⟩
     have hel : (Cal.edges (l.take k)).length ≤ 20:=by unfold Cal.edges;rw [List.length_map,List.length_take];omega
     have hbx:=Lib.hid (fun i j=>Cal.lap_box (fun e he=>he3 e (hsub e he)) hel (i + 1) (j + 1))
     have hrx:=Lib.hid (fun i=>Cal.rhs_box (fun e he=>he3 e (hsub e he)) (fun e he=>he4 e (hsub e he)) hel (i + 1))
     generalize Cal.edges (l.take k) = es at *
     generalize l[k] = x at *
     obtain ⟨b,o,rfl,hbl,c0,c1,c2,c3⟩:=lev_at (hL.out.below hI.out.bel).rows hk'
     obtain ⟨xf,xt,d,wt⟩:=x
     dsimp only at *
     obtain ⟨⟨f0,f1⟩,⟨t0,t1⟩,hft,d0,d1,w0,w1'⟩:=hv
     have hmul:=mul_le_of (a:=wt) (b:=d) (M:=10) (N:=100000) (by omega) (by omega) (by omega) (by omega)
     obtain ⟨p,rfl⟩ : ∃ p,xf = p + 1:=⟨xf - 1,by omega⟩
     obtain ⟨q,rfl⟩ : ∃ q,xt = q + 1:=⟨xt - 1,by omega⟩
     have p1 : IntKind.i64.wrap p = p:=wrap_small (by omega) (by omega)
     have p1b : wrap64 p = p:=by rw [← wrap_eq];exact p1
     have q1 : IntKind.i64.wrap q = q:=wrap_small (by omega) (by omega)
     have q1b : wrap64 q = q:=by rw [← wrap_eq];exact q1
     have hki : (k : Int) < (l.length : Int):=by omega
     have hkh:=Lib.hid hk'
     clear hk' hsub hel c2
     go_wp2_with fail
     refine wp_region_held_drew (S:=Sx wr [(b,o + k * 4,.int .i64 (p + 1)),(b,o + k * 4 + 1,.int .i64 (q + 1)),(b,o + k * 4 + 3,.int .i64 wt)]) (by kernel_rfl) (Sx.mk (by simp only [cs_iff_cons];exact ⟨c0,c1,c3,cs_nil _⟩) (Below.refl _ _)).drew (fun hHeld=>?_)
     clear c0 c1 c3
     refine tkHx 0 41 ?_
     refine tkHx 1 42 ?_
     refine tkHx 2 43 ?_
     refine tkHx 3 44 ?_
     refine tkHx 4 45 ?_
     refine tkHx 5 46 ?_
     refine tkHx 6 47 ?_
     refine tkHx 7 48 ?_
     refine tkHx 8 49 ?_
     refine tkHx 9 50 ?_
     refine tkHx 10 51 ?_
     refine tkHx 11 52 ?_
     refine tkHx 12 53 ?_
     refine tkHx 13 54 ?_
     refine tkHx 14 55 ?_
     refine tkHx 15 56 ?_
     refine tkHx 16 57 ?_
     refine tkHx 17 10 ?_
     refine tkHx 18 11 ?_
     refine tkHx 19 12 ?_
     refine wpAnyH_done (by kernel_rfl) ?_ _
     (try simp only [apS,apN,siA,scZ,scS])
     replace hI:=Lib.hid (hI.out.below hHeld.bel)
     clear hHeld p1 p1b q1 q1b
     have q5 : IntKind.i64.wrap (wt * d) = wt * d:=wrap_small (by omega) (by omega)
     generalize hX0 : wr.drew = X0 at *
     clear hX0
     rcases Int.lt_or_le p 0 with hp | hp
     ·obtain rfl : p = -1:=by omega
      obtain ⟨t,rfl⟩ : ∃ t : Nat,q = (t : Int):=⟨q.toNat,by omega⟩
      have htn : t < n:=by omega
      have hti : (t : Int) < (n : Int):=by omega
      have hed : Hid (Cal.edges (l.take (k + 1)) = es ++ [⟨0,t + 1,d,wt⟩]):=htk
      clear htk hft
      have et:=hbx.out t t
      have gt:=hrx.out t
      change -200 ≤ shL es t t ∧ shL es t t ≤ 200 at et
      change -20000000 ≤ shR es t ∧ shR es t ≤ 20000000 at gt
      have ut : IntKind.i64.wrap (shL es t t + wt) = shL es t t + wt:=wrap_small (by omega) (by omega)
      have rt : IntKind.i64.wrap (shR es t + wt * d) = shR es t + wt * d:=wrap_small (by omega) (by omega)
      have m0:=hI.out.outer (i:=t) (by omega) (by omega)
      have m1 : (X0).cell? ⟨R t,t,none⟩ = some (.int .i64 (shL es t t)):=((hI.out.m t (by omega)).cell (i:=t) (by omega)).trans (congrArg some (congrArg (Value.int .i64) rfl))
      have f1:=(hI.out.m t (by omega)).frozen t
      go_wp2_with fail
      refine wp_region_heldZ (S:=Sx (X0) [(G,t,.slice (some ⟨R t,0,none⟩) n n),(R t,t,.int .i64 (shL es t t))]) 15 (by kernel_rfl) (Sx.mk (by simp only [cs_iff_cons];exact ⟨m0,m1,cs_nil _⟩) (Below.refl _ _)).drew (fun hHeld=>?_)
      clear m0
      replace hI:=Lib.hid (hI.out.below hHeld.bel)
      replace m1 : (World.drew X0).cell? _ = _:=m1
      replace f1 : (World.drew X0).frozen? _ = _:=f1
      generalize World.drew X0 = Y1 at *
      refine tkZx 0 92 ?_
      refine tkZx 1 93 ?_
      refine tkZx 2 94 ?_
      refine tkZx 3 95 ?_
      refine tkZx 4 96 ?_
      refine tkZx 5 97 ?_
      refine tkZx 6 98 ?_
      refine tkZx 7 99 ?_
      refine tkZx 8 100 ?_
      refine tkZx 9 101 ?_
      refine tkZx 10 102 ?_
      refine tkZx 11 103 ?_
      refine tkZx 12 104 ?_
      refine tkZx 13 105 ?_
      refine tkZx 14 106 ?_
      (refine ratZc 15 (by decide +kernel) rfl (by decide +kernel) (fun K hK=>?_);rw [if_pos (by kernel_rfl)];go_simp;refine hK.out _ _ ?_;clear hK K;(try simp only [apS,apN,siA,scZ,scS]))
      refine wpAnyHY_done (by decide +kernel) ?_ _
      (try simp only [apS,apN,siA,scZ,scS])
      clear hHeld m1 f1
      replace hI:=Lib.hid (hI.out.setM (a:=t) (by omega) t (shL es t t + wt))
      generalize hX1 : (Y1).setCell ⟨R t,t,none⟩ (.int .i64 (shL es t t + wt)) = X1 at *
      clear hX1
      obtain ⟨b',o',hSS,_,c0,c1,c2,c3⟩:=lev_at (hL.out.below hI.out.bel).rows hkh.out
      cases hSS
      clear c0 c1 c3
      have m1 : (X1).cell? ⟨H,t,none⟩ = some (.int .i64 (shR es t)):=(hI.out.r.cell (i:=t) (by omega)).trans (congrArg some (congrArg (Value.int .i64) rfl))
      have f1:=hI.out.r.frozen t
      go_wp2_with fail
      refine wp_region_heldZ (S:=Sx (X1) [(b,o + k * 4 + 2,.int .i64 d),(H,t,.int .i64 (shR es t))]) 15 (by kernel_rfl) (Sx.mk (by simp only [cs_iff_cons];exact ⟨c2,m1,cs_nil _⟩) (Below.refl _ _)).drew (fun hHeld=>?_)
      clear c2
      replace hI:=Lib.hid (hI.out.below hHeld.bel)
      replace m1 : (World.drew X1).cell? _ = _:=m1
      replace f1 : (World.drew X1).frozen? _ = _:=f1
      generalize World.drew X1 = Y2 at *
      refine tkZx 0 107 ?_
      refine tkZx 1 108 ?_
      refine tkZx 2 109 ?_
      refine tkZx 3 110 ?_
      refine tkZx 4 111 ?_
      refine tkZx 5 112 ?_
      refine tkZx 6 113 ?_
      refine tkZx 7 114 ?_
      refine tkZx 8 115 ?_
      refine tkZx 9 116 ?_
      refine tkZx 10 117 ?_
      refine tkZx 11 118 ?_
      refine tkZx 12 119 ?_
      refine tkZx 13 120 ?_
      refine tkZx 14 121 ?_
      (refine ratZc 15 (by decide +kernel) rfl (by decide +kernel) (fun K hK=>?_);rw [if_pos (by kernel_rfl)];go_simp;refine hK.out _ _ ?_;clear hK K;(try simp only [apS,apN,siA,scZ,scS]))
      refine wpAnyHY_done (by decide +kernel) ?_ _
      (try simp only [apS,apN,siA,scZ,scS])
      clear hHeld m1 f1
      replace hI:=Lib.hid (hI.out.setR t (shR es t + wt * d))
      generalize hX2 : (Y2).setCell ⟨H,t,none⟩ (.int .i64 (shR es t + wt * d)) = X2 at *
      clear hX2
      have hIn : Hid (HtI w G H R n n (shL (Cal.edges (l.take (k + 1)))) (shR (Cal.edges (l.take (k + 1)))) X2):=by
       show HtI _ _ _ _ _ _ _ _ _
       rw [hed.out,← shL_t,← shR_t]
       exact hI.out
      clear hI
      go_wp2_with fail
      go_roundw
      case rel=>exact ⟨k + 1,by omega,by go_num,hIn⟩
      case measure=>simp [intOf];omega
     ·obtain ⟨f,rfl⟩ : ∃ f : Nat,p = (f : Int):=⟨p.toNat,by omega⟩
      have hfn : f < n:=by omega
      have hfi : (f : Int) < (n : Int):=by omega
      have ef:=hbx.out f f
      have gf:=hrx.out f
      change -200 ≤ shL es f f ∧ shL es f f ≤ 200 at ef
      change -20000000 ≤ shR es f ∧ shR es f ≤ 20000000 at gf
      have uf : IntKind.i64.wrap (shL es f f + wt) = shL es f f + wt:=wrap_small (by omega) (by omega)
      have rf : IntKind.i64.wrap (shR es f - wt * d) = shR es f - wt * d:=wrap_small (by omega) (by omega)
      rcases Int.lt_or_le q 0 with hq | hq
      ·obtain rfl : q = -1:=by omega
       have hed : Hid (Cal.edges (l.take (k + 1)) = es ++ [⟨f + 1,0,d,wt⟩]):=htk
       clear htk hft
       have m0:=hI.out.outer (i:=f) (by omega) (by omega)
       have m1 : (X0).cell? ⟨R f,f,none⟩ = some (.int .i64 (shL es f f)):=((hI.out.m f (by omega)).cell (i:=f) (by omega)).trans (congrArg some (congrArg (Value.int .i64) rfl))
       have f1:=(hI.out.m f (by omega)).frozen f
       go_wp2_with fail
       refine wp_region_heldZ (S:=Sx (X0) [(G,f,.slice (some ⟨R f,0,none⟩) n n),(R f,f,.int .i64 (shL es f f))]) 15 (by kernel_rfl) (Sx.mk (by simp only [cs_iff_cons];exact ⟨m0,m1,cs_nil _⟩) (Below.refl _ _)).drew (fun hHeld=>?_)
       clear m0
       replace hI:=Lib.hid (hI.out.below hHeld.bel)
       replace m1 : (World.drew X0).cell? _ = _:=m1
       replace f1 : (World.drew X0).frozen? _ = _:=f1
       generalize World.drew X0 = Y1 at *
       refine tkZx 0 60 ?_
       refine tkZx 1 61 ?_
       refine tkZx 2 62 ?_
       refine tkZx 3 63 ?_
       refine tkZx 4 64 ?_
       refine tkZx 5 65 ?_
       refine tkZx 6 66 ?_
       refine tkZx 7 67 ?_
       refine tkZx 8 68 ?_
       refine tkZx 9 69 ?_
       refine tkZx 10 70 ?_
       refine tkZx 11 71 ?_
       refine tkZx 12 72 ?_
       refine tkZx 13 73 ?_
       refine tkZx 14 74 ?_
       (refine ratZc 15 (by decide +kernel) rfl (by decide +kernel) (fun K hK=>?_);rw [if_pos (by kernel_rfl)];go_simp;refine hK.out _ _ ?_;clear hK K;(try simp only [apS,apN,siA,scZ,scS]))
       refine wpAnyHY_done (by decide +kernel) ?_ _
       (try simp only [apS,apN,siA,scZ,scS])
       clear hHeld m1 f1
       replace hI:=Lib.hid (hI.out.setM (a:=f) (by omega) f (shL es f f + wt))
       generalize hX1 : (Y1).setCell ⟨R f,f,none⟩ (.int .i64 (shL es f f + wt)) = X1 at *
       clear hX1
       obtain ⟨b',o',hSS,_,c0,c1,c2,c3⟩:=lev_at (hL.out.below hI.out.bel).rows hkh.out
       cases hSS
       clear c0 c1 c3
       have m1 : (X1).cell? ⟨H,f,none⟩ = some (.int .i64 (shR es f)):=(hI.out.r.cell (i:=f) (by omega)).trans (congrArg some (congrArg (Value.int .i64) rfl))
       have f1:=hI.out.r.frozen f
       go_wp2_with fail
       refine wp_region_heldZ (S:=Sx (X1) [(b,o + k * 4 + 2,.int .i64 d),(H,f,.int .i64 (shR es f))]) 15 (by kernel_rfl) (Sx.mk (by simp only [cs_iff_cons];exact ⟨c2,m1,cs_nil _⟩) (Below.refl _ _)).drew (fun hHeld=>?_)
       clear c2
       replace hI:=Lib.hid (hI.out.below hHeld.bel)
       replace m1 : (World.drew X1).cell? _ = _:=m1
       replace f1 : (World.drew X1).frozen? _ = _:=f1
       generalize World.drew X1 = Y2 at *
       refine tkZx 0 75 ?_
       refine tkZx 1 76 ?_
       refine tkZx 2 77 ?_
       refine tkZx 3 78 ?_
       refine tkZx 4 79 ?_
       refine tkZx 5 80 ?_
       refine tkZx 6 81 ?_
       refine tkZx 7 82 ?_
       refine tkZx 8 83 ?_
       refine tkZx 9 84 ?_
       refine tkZx 10 85 ?_
       refine tkZx 11 86 ?_
       refine tkZx 12 87 ?_
       refine tkZx 13 88 ?_
       refine tkZx 14 89 ?_
       (refine ratZc 15 (by decide +kernel) rfl (by decide +kernel) (fun K hK=>?_);rw [if_pos (by kernel_rfl)];go_simp;refine hK.out _ _ ?_;clear hK K;(try simp only [apS,apN,siA,scZ,scS]))
       refine wpAnyHY_done (by decide +kernel) ?_ _
       (try simp only [apS,apN,siA,scZ,scS])
       clear hHeld m1 f1
       replace hI:=Lib.hid (hI.out.setR f (shR es f - wt * d))
       generalize hX2 : (Y2).setCell ⟨H,f,none⟩ (.int .i64 (shR es f - wt * d)) = X2 at *
       clear hX2
       have hIn : Hid (HtI w G H R n n (shL (Cal.edges (l.take (k + 1)))) (shR (Cal.edges (l.take (k + 1)))) X2):=by
        show HtI _ _ _ _ _ _ _ _ _
        rw [hed.out,← shL_f,← shR_f]
        exact hI.out
       clear hI
       go_wp2_with fail
       go_roundw
       case rel=>exact ⟨k + 1,by omega,by go_num,hIn⟩
       case measure=>simp [intOf];omega
      ·obtain ⟨t,rfl⟩ : ∃ t : Nat,q = (t : Int):=⟨q.toNat,by omega⟩
       have htn : t < n:=by omega
       have hti : (t : Int) < (n : Int):=by omega
       have hne : f ≠ t:=by omega
       have hed : Hid (Cal.edges (l.take (k + 1)) = es ++ [⟨f + 1,t + 1,d,wt⟩]):=htk
       have hbL:=Lib.hid (shL_both (l:=es) (d:=d) (w:=wt) hne)
       have hbR:=Lib.hid (shR_both (l:=es) (d:=d) (w:=wt) hne)
       clear htk
       have et:=hbx.out t t
       have gt:=hrx.out t
       change -200 ≤ shL es t t ∧ shL es t t ≤ 200 at et
       change -20000000 ≤ shR es t ∧ shR es t ≤ 20000000 at gt
       have ut : IntKind.i64.wrap (shL es t t + wt) = shL es t t + wt:=wrap_small (by omega) (by omega)
       have rt : IntKind.i64.wrap (shR es t + wt * d) = shR es t + wt * d:=wrap_small (by omega) (by omega)
       have e3:=hbx.out f t
       have e4:=hbx.out t f
       change -200 ≤ shL es f t ∧ shL es f t ≤ 200 at e3
       change -200 ≤ shL es t f ∧ shL es t f ≤ 200 at e4
       have u3 : IntKind.i64.wrap (shL es f t - wt) = shL es f t - wt:=wrap_small (by omega) (by omega)
       have u4 : IntKind.i64.wrap (shL es t f - wt) = shL es t f - wt:=wrap_small (by omega) (by omega)
       have v2 : Hid (upd (shL es) f f (shL es f f + wt) t t = shL es t t):=by show _ = _;unfold upd;rw [if_neg (by omega)]
       have v6 : Hid (updR (shR es) f (shR es f - wt * d) t = shR es t):=by show _ = _;unfold updR;rw [if_neg (by omega)]
       have v3 : Hid (upd (upd (shL es) f f (shL es f f + wt)) t t (shL es t t + wt) f t = shL es f t):=by show _ = _;unfold upd;rw [if_neg (by omega),if_pos rfl,if_neg (by omega)]
       have v4 : Hid (upd (upd (shL es) f f (shL es f f + wt)) t t (shL es t t + wt) t f = shL es t f):=by show _ = _;unfold upd;rw [if_pos rfl,if_neg (by omega),if_neg (by omega)]
       have m0:=hI.out.outer (i:=f) (by omega) (by omega)
       have m1 : (X0).cell? ⟨R f,f,none⟩ = some (.int .i64 (shL es f f)):=((hI.out.m f (by omega)).cell (i:=f) (by omega)).trans (congrArg some (congrArg (Value.int .i64) rfl))
       have f1:=(hI.out.m f (by omega)).frozen f
       go_wp2_with fail
       refine wp_region_heldZ (S:=Sx (X0) [(G,f,.slice (some ⟨R f,0,none⟩) n n),(R f,f,.int .i64 (shL es f f))]) 15 (by kernel_rfl) (Sx.mk (by simp only [cs_iff_cons];exact ⟨m0,m1,cs_nil _⟩) (Below.refl _ _)).drew (fun hHeld=>?_)
       clear m0
       replace hI:=Lib.hid (hI.out.below hHeld.bel)
       replace m1 : (World.drew X0).cell? _ = _:=m1
       replace f1 : (World.drew X0).frozen? _ = _:=f1
       generalize World.drew X0 = Y1 at *
       refine tkZx 0 60 ?_
       refine tkZx 1 61 ?_
       refine tkZx 2 62 ?_
       refine tkZx 3 63 ?_
       refine tkZx 4 64 ?_
       refine tkZx 5 65 ?_
       refine tkZx 6 66 ?_
       refine tkZx 7 67 ?_
       refine tkZx 8 68 ?_
       refine tkZx 9 69 ?_
       refine tkZx 10 70 ?_
       refine tkZx 11 71 ?_
       refine tkZx 12 72 ?_
       refine tkZx 13 73 ?_
       refine tkZx 14 74 ?_
       (refine ratZc 15 (by decide +kernel) rfl (by decide +kernel) (fun K hK=>?_);rw [if_pos (by kernel_rfl)];go_simp;refine hK.out _ _ ?_;clear hK K;(try simp only [apS,apN,siA,scZ,scS]))
       refine wpAnyHY_done (by decide +kernel) ?_ _
       (try simp only [apS,apN,siA,scZ,scS])
       clear hHeld m1 f1
       replace hI:=Lib.hid (hI.out.setM (a:=f) (by omega) f (shL es f f + wt))
       generalize hX1 : (Y1).setCell ⟨R f,f,none⟩ (.int .i64 (shL es f f + wt)) = X1 at *
       clear hX1
       obtain ⟨b',o',hSS,_,c0,c1,c2,c3⟩:=lev_at (hL.out.below hI.out.bel).rows hkh.out
       cases hSS
       clear c0 c1 c3
       have m1 : (X1).cell? ⟨H,f,none⟩ = some (.int .i64 (shR es f)):=(hI.out.r.cell (i:=f) (by omega)).trans (congrArg some (congrArg (Value.int .i64) rfl))
       have f1:=hI.out.r.frozen f
       go_wp2_with fail
       refine wp_region_heldZ (S:=Sx (X1) [(b,o + k * 4 + 2,.int .i64 d),(H,f,.int .i64 (shR es f))]) 15 (by kernel_rfl) (Sx.mk (by simp only [cs_iff_cons];exact ⟨c2,m1,cs_nil _⟩) (Below.refl _ _)).drew (fun hHeld=>?_)
       clear c2
       replace hI:=Lib.hid (hI.out.below hHeld.bel)
       replace m1 : (World.drew X1).cell? _ = _:=m1
       replace f1 : (World.drew X1).frozen? _ = _:=f1
       generalize World.drew X1 = Y2 at *
       refine tkZx 0 75 ?_
       refine tkZx 1 76 ?_
       refine tkZx 2 77 ?_
       refine tkZx 3 78 ?_
       refine tkZx 4 79 ?_
       refine tkZx 5 80 ?_
       refine tkZx 6 81 ?_
       refine tkZx 7 82 ?_
       refine tkZx 8 83 ?_
       refine tkZx 9 84 ?_
       refine tkZx 10 85 ?_
       refine tkZx 11 86 ?_
       refine tkZx 12 87 ?_
       refine tkZx 13 88 ?_
       refine tkZx 14 89 ?_
       (refine ratZc 15 (by decide +kernel) rfl (by decide +kernel) (fun K hK=>?_);rw [if_pos (by kernel_rfl)];go_simp;refine hK.out _ _ ?_;clear hK K;(try simp only [apS,apN,siA,scZ,scS]))
       refine wpAnyHY_done (by decide +kernel) ?_ _
       (try simp only [apS,apN,siA,scZ,scS])
       clear hHeld m1 f1
       replace hI:=Lib.hid (hI.out.setR f (shR es f - wt * d))
       generalize hX2 : (Y2).setCell ⟨H,f,none⟩ (.int .i64 (shR es f - wt * d)) = X2 at *
       clear hX2
       have m0:=hI.out.outer (i:=t) (by omega) (by omega)
       have m1 : (X2).cell? ⟨R t,t,none⟩ = some (.int .i64 (shL es t t)):=((hI.out.m t (by omega)).cell (i:=t) (by omega)).trans (congrArg some (congrArg (Value.int .i64) v2.out))
       have f1:=(hI.out.m t (by omega)).frozen t
       go_wp2_with fail
       refine wp_region_heldZ (S:=Sx (X2) [(G,t,.slice (some ⟨R t,0,none⟩) n n),(R t,t,.int .i64 (shL es t t))]) 15 (by kernel_rfl) (Sx.mk (by simp only [cs_iff_cons];exact ⟨m0,m1,cs_nil _⟩) (Below.refl _ _)).drew (fun hHeld=>?_)
       clear m0
       replace hI:=Lib.hid (hI.out.below hHeld.bel)
       replace m1 : (World.drew X2).cell? _ = _:=m1
       replace f1 : (World.drew X2).frozen? _ = _:=f1
       generalize World.drew X2 = Y3 at *
       refine tkZx 0 92 ?_
       refine tkZx 1 93 ?_
       refine tkZx 2 94 ?_
       refine tkZx 3 95 ?_
       refine tkZx 4 96 ?_
       refine tkZx 5 97 ?_
       refine tkZx 6 98 ?_
       refine tkZx 7 99 ?_
       refine tkZx 8 100 ?_
       refine tkZx 9 101 ?_
       refine tkZx 10 102 ?_
       refine tkZx 11 103 ?_
       refine tkZx 12 104 ?_
       refine tkZx 13 105 ?_
       refine tkZx 14 106 ?_
       (refine ratZc 15 (by decide +kernel) rfl (by decide +kernel) (fun K hK=>?_);rw [if_pos (by kernel_rfl)];go_simp;refine hK.out _ _ ?_;clear hK K;(try simp only [apS,apN,siA,scZ,scS]))
       refine wpAnyHY_done (by decide +kernel) ?_ _
       (try simp only [apS,apN,siA,scZ,scS])
       clear hHeld m1 f1
       replace hI:=Lib.hid (hI.out.setM (a:=t) (by omega) t (shL es t t + wt))
       generalize hX3 : (Y3).setCell ⟨R t,t,none⟩ (.int .i64 (shL es t t + wt)) = X3 at *
       clear hX3
       obtain ⟨b',o',hSS,_,c0,c1,c2,c3⟩:=lev_at (hL.out.below hI.out.bel).rows hkh.out
       cases hSS
       clear c0 c1 c3
       have m1 : (X3).cell? ⟨H,t,none⟩ = some (.int .i64 (shR es t)):=(hI.out.r.cell (i:=t) (by omega)).trans (congrArg some (congrArg (Value.int .i64) v6.out))
       have f1:=hI.out.r.frozen t
       go_wp2_with fail
       refine wp_region_heldZ (S:=Sx (X3) [(b,o + k * 4 + 2,.int .i64 d),(H,t,.int .i64 (shR es t))]) 15 (by kernel_rfl) (Sx.mk (by simp only [cs_iff_cons];exact ⟨c2,m1,cs_nil _⟩) (Below.refl _ _)).drew (fun hHeld=>?_)
       clear c2
       replace hI:=Lib.hid (hI.out.below hHeld.bel)
       replace m1 : (World.drew X3).cell? _ = _:=m1
       replace f1 : (World.drew X3).frozen? _ = _:=f1
       generalize World.drew X3 = Y4 at *
       refine tkZx 0 107 ?_
       refine tkZx 1 108 ?_
       refine tkZx 2 109 ?_
       refine tkZx 3 110 ?_
       refine tkZx 4 111 ?_
       refine tkZx 5 112 ?_
       refine tkZx 6 113 ?_
       refine tkZx 7 114 ?_
       refine tkZx 8 115 ?_
       refine tkZx 9 116 ?_
       refine tkZx 10 117 ?_
       refine tkZx 11 118 ?_
       refine tkZx 12 119 ?_
       refine tkZx 13 120 ?_
       refine tkZx 14 121 ?_
       (refine ratZc 15 (by decide +kernel) rfl (by decide +kernel) (fun K hK=>?_);rw [if_pos (by kernel_rfl)];go_simp;refine hK.out _ _ ?_;clear hK K;(try simp only [apS,apN,siA,scZ,scS]))
       refine wpAnyHY_done (by decide +kernel) ?_ _
       (try simp only [apS,apN,siA,scZ,scS])
       clear hHeld m1 f1
       replace hI:=Lib.hid (hI.out.setR t (shR es t + wt * d))
       generalize hX4 : (Y4).setCell ⟨H,t,none⟩ (.int .i64 (shR es t + wt * d)) = X4 at *
       clear hX4
       have m0:=hI.out.outer (i:=f) (by omega) (by omega)
       have n0:=hI.out.outer (i:=t) (by omega) (by omega)
       have m1 : (X4).cell? ⟨R f,t,none⟩ = some (.int .i64 (shL es f t)):=((hI.out.m f (by omega)).cell (i:=t) (by omega)).trans (congrArg some (congrArg (Value.int .i64) v3.out))
       have n1 : (X4).cell? ⟨R t,f,none⟩ = some (.int .i64 (shL es t f)):=((hI.out.m t (by omega)).cell (i:=f) (by omega)).trans (congrArg some (congrArg (Value.int .i64) v4.out))
       have f1:=(hI.out.m f (by omega)).frozen t
       go_wp2_with fail
       refine wp_region_heldP (S:=Sx w [(G,f,.slice (some ⟨R f,0,none⟩) n n),(G,t,.slice (some ⟨R t,0,none⟩) n n)]) (A:=fun W=>W.cell? ⟨R f,t,none⟩ = some (.int .i64 (shL es f t))) (B:=fun W=>W.cell? ⟨R t,f,none⟩ = some (.int .i64 (shL es t f))) 29 31 (by kernel_rfl) (Sx.mk (by simp only [cs_iff_cons];exact ⟨m0,n0,cs_nil _⟩) hI.out.bel).drew m1 n1 (fun hHeld=>?_)
       clear m0 n0
       replace f1 : (World.drew X4).frozen? _ = _:=f1
       have n1' : (World.drew X4).cell? _ = _:=n1
       have m1' : (World.drew X4).cell? _ = _:=m1
       replace hI:=Lib.hid (hI.out.below ((Below.refl _ X4).drew))
       clear m1 n1
       generalize hY5 : World.drew X4 = Y5 at *
       clear hY5
       (refine tkPx 0 128 (fun hH2=>?_) hHeld;clear hHeld;have hHeld:=hH2;clear hH2)
       (refine tkPx 1 129 (fun hH2=>?_) hHeld;clear hHeld;have hHeld:=hH2;clear hH2)
       (refine tkPx 2 130 (fun hH2=>?_) hHeld;clear hHeld;have hHeld:=hH2;clear hH2)
       (refine tkPx 3 131 (fun hH2=>?_) hHeld;clear hHeld;have hHeld:=hH2;clear hH2)
       (refine tkPx 4 132 (fun hH2=>?_) hHeld;clear hHeld;have hHeld:=hH2;clear hH2)
       (refine tkPx 5 133 (fun hH2=>?_) hHeld;clear hHeld;have hHeld:=hH2;clear hH2)
       (refine tkPx 6 134 (fun hH2=>?_) hHeld;clear hHeld;have hHeld:=hH2;clear hH2)
       (refine tkPx 7 135 (fun hH2=>?_) hHeld;clear hHeld;have hHeld:=hH2;clear hH2)
       (refine tkPx 8 136 (fun hH2=>?_) hHeld;clear hHeld;have hHeld:=hH2;clear hH2)
       (refine tkPx 9 137 (fun hH2=>?_) hHeld;clear hHeld;have hHeld:=hH2;clear hH2)
       (refine tkPx 10 138 (fun hH2=>?_) hHeld;clear hHeld;have hHeld:=hH2;clear hH2)
       (refine tkPx 11 139 (fun hH2=>?_) hHeld;clear hHeld;have hHeld:=hH2;clear hH2)
       (refine tkPx 12 140 (fun hH2=>?_) hHeld;clear hHeld;have hHeld:=hH2;clear hH2)
       (refine tkPx 13 141 (fun hH2=>?_) hHeld;clear hHeld;have hHeld:=hH2;clear hH2)
       (refine tkPx 14 142 (fun hH2=>?_) hHeld;clear hHeld;have hHeld:=hH2;clear hH2)
       (refine tkPx 15 143 (fun hH2=>?_) hHeld;clear hHeld;have hHeld:=hH2;clear hH2)
       (refine tkPx 16 144 (fun hH2=>?_) hHeld;clear hHeld;have hHeld:=hH2;clear hH2)
       (refine tkPx 17 145 (fun hH2=>?_) hHeld;clear hHeld;have hHeld:=hH2;clear hH2)
       (refine tkPx 18 146 (fun hH2=>?_) hHeld;clear hHeld;have hHeld:=hH2;clear hH2)
       (refine tkPx 19 147 (fun hH2=>?_) hHeld;clear hHeld;have hHeld:=hH2;clear hH2)
       (refine tkPx 20 148 (fun hH2=>?_) hHeld;clear hHeld;have hHeld:=hH2;clear hH2)
       (refine tkPx 21 149 (fun hH2=>?_) hHeld;clear hHeld;have hHeld:=hH2;clear hH2)
       (refine tkPx 22 150 (fun hH2=>?_) hHeld;clear hHeld;have hHeld:=hH2;clear hH2)
       (refine tkPx 23 151 (fun hH2=>?_) hHeld;clear hHeld;have hHeld:=hH2;clear hH2)
       (refine tkPx 24 152 (fun hH2=>?_) hHeld;clear hHeld;have hHeld:=hH2;clear hH2)
       (refine tkPx 25 153 (fun hH2=>?_) hHeld;clear hHeld;have hHeld:=hH2;clear hH2)
       (refine tkPx 26 154 (fun hH2=>?_) hHeld;clear hHeld;have hHeld:=hH2;clear hH2)
       (refine tkPx 27 155 (fun hH2=>?_) hHeld;clear hHeld;have hHeld:=hH2;clear hH2)
       (refine tkPx 28 156 (fun hH2=>?_) hHeld;clear hHeld;have hHeld:=hH2;clear hH2)
       replace hI:=Lib.hid (hI.out.setM (a:=f) (by omega) t (shL es f t - wt))
       have v5 : Hid (upd (upd (upd (shL es) f f (shL es f f + wt)) t t (shL es t t + wt)) f t (shL es f t - wt) t f = shL es t f):=by show _ = _;unfold upd;rw [if_neg (by omega),if_pos rfl,if_neg (by omega),if_neg (by omega)]
       have n2:=((hI.out.m t (by omega)).cell (i:=f) (by omega)).trans (congrArg some (congrArg (Value.int .i64) v5.out))
       have f2:=(hI.out.m t (by omega)).frozen f
       (refine wpAnyHP_ready (rs:=[29]) (by decide +kernel) (by simp) ?_;refine AllReadyP.cons rfl (fun K hK=>?_) AllReadyP.nil;rw [if_pos (by kernel_rfl)];go_simp)
       refine hK.out _ _ ⟨Sx.mk (by simp only [cs_iff_cons];exact ⟨hI.out.outer (by omega) (by omega),hI.out.outer (by omega) (by omega),cs_nil _⟩) hI.out.bel,fun h=>absurd h (by decide +kernel),fun _=>n2⟩ (fun hH2=>?_)
       clear hK K hHeld m1' n1' f1
       have hHeld:=hH2
       clear hH2
       (try simp only [apS,apN,siA,scZ,scS])
       generalize hX5 : (Y5).setCell ⟨R f,t,none⟩ (.int .i64 (shL es f t - wt)) = X5 at *
       clear hX5
       (refine tkPx 30 157 (fun hH2=>?_) hHeld;clear hHeld;have hHeld:=hH2;clear hH2)
       replace hI:=Lib.hid (hI.out.setM (a:=t) (by omega) f (shL es t f - wt))
       (refine wpAnyHP_ready (rs:=[31]) (by decide +kernel) (by simp) ?_;refine AllReadyP.cons rfl (fun K hK=>?_) AllReadyP.nil;rw [if_pos (by kernel_rfl)];go_simp)
       refine hK.out _ _ ⟨Sx.mk (by simp only [cs_iff_cons];exact ⟨hI.out.outer (by omega) (by omega),hI.out.outer (by omega) (by omega),cs_nil _⟩) hI.out.bel,fun h=>absurd h (by decide +kernel),fun h=>absurd h (by decide +kernel)⟩ (fun _=>?_)
       clear hK K hHeld n2 f2
       (try simp only [apS,apN,siA,scZ,scS])
       refine wpAnyHP_done (by decide +kernel) ?_ _
       (try simp only [apS,apN,siA,scZ,scS])
       generalize hX6 : (X5).setCell ⟨R t,f,none⟩ (.int .i64 (shL es t f - wt)) = X6 at *
       clear hX6
       have hIn : Hid (HtI w G H R n n (shL (Cal.edges (l.take (k + 1)))) (shR (Cal.edges (l.take (k + 1)))) X6):=by
        show HtI _ _ _ _ _ _ _ _ _
        rw [hed.out,← hbL.out,← hbR.out]
        exact hI.out
       clear hI
       go_wp2_with fail
       go_roundw
       case rel=>exact ⟨k + 1,by omega,by go_num,hIn⟩
       case measure=>simp [intOf];omega
    ·obtain rfl : k = l.length:=by omega
     rw [List.take_length] at hI
     generalize hwq : wr = wq at *
     clear hwq wr
     have hM0:=hI.out.read
     have hMl : (matOf n (shL (Cal.edges l))).length = n:=matOf_length _ _
     have hMr : ∀ r ∈ matOf n (shL (Cal.edges l)),r.length = n:=fun r hr=>by
      unfold matOf at hr
      obtain ⟨i,_,rfl⟩:=List.mem_map.1 hr
      exact listOf_length _ _
     have hrows:=Lib.hid (rowIs_rows hI.out.r)
     have hrl : (listOf n (shR (Cal.edges l))).length = n:=listOf_length _ _
     have hbw:=Lib.hid hI.out.bel
     have hDp:=Cal.hD_pos (n:=n) hz.out
     have hDd : Hid (IntKind.i64.wrap (detF n (matOf n (shL (Cal.edges l)))) = Cal.hD n l):=by
      show _ = _
      have : detF n (matOf n (shL (Cal.edges l))) = Cal.hD n l:=by rw [← minor_datum];rfl
      rw [this]
      exact wrap_small (by omega) (by omega)
     have hNn : Hid (∀ i,IntKind.i64.wrap (detF n (withL i (listOf n (shR (Cal.edges l))) (matOf n (shL (Cal.edges l))))) = Cal.hN n l i):=fun i=>by rw [← minor_datum,← rhs_datum];rfl
     generalize matOf n (shL (Cal.edges l)) = M' at *
     generalize listOf n (shR (Cal.edges l)) = r1 at *
     replace hMr:=Lib.hid hMr
     replace hM0:=Lib.hid hM0
     have hdet:=Lib.hid (fun A c vs w h1 h2=>detR_any n A c M' vs w h1 hMl h2 hMr.out (by omega))
     have hdet2 : Hid (∀ i A c vs w,i < n → MatR w A (withL i r1 M') vs → n ≤ c → Calls Try.prog 37 #[.slice A n c] w fun e w'=>e = .returned (.int .i64 (Cal.hN n l i)) ∧ Below w.heap.size w w'):=fun i A c vs w hi h1 h2=>by
      have hl2 : (withL i r1 M').length = n:=by unfold withL;rw [List.length_zipWith];omega
      have:=detR_any n A c (withL i r1 M') vs w h1 hl2 h2 (fun r hr=>by
       unfold withL at hr
       obtain ⟨j,hj,rfl⟩:=List.getElem_of_mem hr
       rw [List.getElem_zipWith]
       unfold putC
       rw [List.length_set]
       exact hMr.out _ (List.getElem_mem _)) (by omega)
      rw [hNn.out] at this
      exact this
     have hO0 : Hid (OwnL (wq.alloc (.cells #[.int .i64 0,.int .i64 1] 70)) wq.heap.size 70 2 (.slice (some ⟨wq.heap.size,0,none⟩) 1 1) (((0,1) :: (List.range 0).map (Cal.hAt n l)).map frR)):=by
      refine ⟨World.ownsRow_lit wq #[.int .i64 0,.int .i64 1] 1 (Nat.le_refl _) (by unfold maxLen;omega) rfl,fun r hr=>?_,fun r hr u hu=>?_⟩
      ·rw [List.mem_singleton.1 hr];rfl
      ·rw [List.mem_singleton.1 hr] at hu
       rcases List.mem_cons.1 hu with e | hu
       ·rw [e];rfl
       ·rw [List.mem_singleton.1 hu];rfl
     clear hI hlev hL hz hl20
     have hmk : ∀ W,(Instr.makeSlice 78 (.int .i64 (n : Int)) (.int .i64 (n : Int))).run Try.prog W = .ok (.slice (some ⟨W.heap.size,0,none⟩) n n) (W.alloc (.cells (madeCells #[.int .i64 0] n) 3)):=fun W=>mk_ints W n (by omega)
     go_wp2_with (go_at_call 37;refine (hdet.out _ _ _ _ (hM0.out.below (below_alloc _ _)) (Nat.le_refl n)).mono ?_;rintro e0 w6 ⟨rfl,hb6⟩;rw [hDd.out];have hO6:=Lib.hid (OwnL.below hO0.out hb6);have hbx:=Lib.hid (below_step (below_alloc wq (.cells #[.int .i64 0,.int .i64 1] 70)) hb6);clear hb6 hdet hO0)
     have hB6 : w.heap.size ≤ wq.heap.size:=hbw.out.size
     have hbY : Hid (Below wq.heap.size wq w6):=hbx
     replace hbx:=trivial
     clear hbx
     go_loopw [13,15] (fun ov i wr=>∃ (k : Nat) (v : Value),k ≤ n ∧ i = .int .i64 k ∧ ov = v ∧ Hid (OwnL wr wq.heap.size 70 2 v (((0,1) :: (List.range k).map (Cal.hAt n l)).map frR)) ∧ Hid (Below wq.heap.size wq wr)) (fun _ i _=>n - (intOf i).toNat)
     case atStart=>exact ⟨0,_,Nat.zero_le _,rfl,rfl,hO6,hbY⟩
     case round =>
      clear hO6 hbY
      obtain ⟨k,v,hk,rfl,rfl,hO,hb⟩:=hrel
      have hM:=Lib.hid (hM0.out.below hb.out)
      have hR1:=Lib.hid (hrows.out.below hb.out)
      by_cases hlt : k < n
      ·have htk0:=List.range_succ (n:=k)
       have hrow : Hid (((0,1) :: (List.range (k + 1)).map (Cal.hAt n l)).map frR = (((0,1) :: (List.range k).map (Cal.hAt n l)).map frR) ++ [[.int .i64 (Cal.lowN (Cal.hN n l k) (Cal.hD n l)),.int .i64 (Cal.lowD (Cal.hN n l k) (Cal.hD n l))]]):=by
        show _ = _
        rw [htk0]
        simp [frR,Cal.hAt]
       have hol : (((0,1) :: (List.range k).map (Cal.hAt n l)).map frR).length ≤ 10:=by simp;omega
       obtain ⟨rows,hrows9⟩ : ∃ rows,((0,1) :: (List.range k).map (Cal.hAt n l)).map frR = rows:=⟨_,rfl⟩
       rw [hrows9] at hO hrow hol
       have hnr:=wrap_range (detF n (withL k r1 M'))
       rw [hNn.out] at hnr
       have hlow:=Lib.hid (fun W=>LowestR_any (Cal.hN n l k) (Cal.hD n l) W hnr hDp.1 (by omega))
       have hd1:=Lib.hid (fun A c vs w h1 h2=>hdet2.out k A c vs w hlt h1 h2)
       have hkn : (k : Int) < (n : Int):=by omega
       clear htk0 hrows9 hnr
       have hMO0 : Hid (MatO wr wr.heap.size (.slice none 0 0) (withL k (r1.take 0) (M'.take 0)) []):=MatO.nil _ _
       have hbx0 : Hid (Below wr.heap.size wr wr):=Below.refl _ _
       generalize hwo : wr = wo at *
       clear hwo wr
       go_wp2_with fail
       go_loopw [16,17] (fun ov i wr=>∃ (j : Nat) (us : List Value) (v : Value),j ≤ n ∧ i = .int .i64 j ∧ ov = v ∧ Hid (MatO wr wo.heap.size v (withL k (r1.take j) (M'.take j)) us) ∧ Hid (Below wo.heap.size wo wr)) (fun _ i _=>n - (intOf i).toNat)
       case atStart=>exact ⟨0,[],_,Nat.zero_le _,rfl,rfl,hMO0,hbx0⟩
       case round =>
        clear hMO0 hbx0
        obtain ⟨j,us,v2,hj,rfl,rfl,hMO,hbx⟩:=hrel
        by_cases hlj : j < n
        ·have hjM : j < M'.length:=by omega
         have hjr : j < r1.length:=by omega
         have hk' : M'[j]? = some M'[j]:=List.getElem?_eq_getElem hjM
         have hrl2:=hMr.out _ (List.getElem_mem hjM)
         have htk:=Lib.hid (withL_take (q:=k) hjM hjr)
         obtain ⟨b,o,Ai,ci,hA1,hbl,c0,hci,hrow2⟩:=(hM.out.below hbx.out).at_ hk'
         obtain ⟨bl,ol,hA2,hbl2,e0⟩:=intsI_at (hR1.out.below hbx.out) hjr
         cases hA1
         cases hA2
         rw [Nat.zero_add] at c0 e0
         have hol2 : (withL k (r1.take j) (M'.take j)).length ≤ 1000:=by unfold withL;rw [List.length_zipWith,List.length_take,List.length_take];omega
         generalize M'[j] = r at *
         generalize r1[j] = x at *
         have hqr : k < r.length:=by omega
         have hrs : r.length ≤ 1000:=by omega
         have hji : (j : Int) < (n : Int):=by omega
         have hkr : (k : Int) < (r.length : Int):=by omega
         clear hrl2
         have hmade : Hid (OwnL (wr.alloc (.cells #[] 3)) wr.heap.size 3 1 (.slice (some ⟨wr.heap.size,0,none⟩) 0 0) []):=OwnL.made wr _ _ _ (Nat.le_refl _)
         have hsrc : Hid (RowsAt (wr.alloc (.cells #[] 3)) Ai 1 (intRows r)):=hrow2.below (below_alloc _ _)
         clear hk' hrow2
         have m1 : Hid True:=trivial
         have hvB:=Lib.hid (fun g e=>(OwnL.lt hMO.out.own g e).2)
         have hul : us.length ≤ 1000:=by rw [hMO.out.len];exact hol2
         go_wp2_with (first
          |(at_builtin;clear m1;go_must (refine wpList_append_rows elemInt rfl _ _ rfl rfl rfl hmade.out hsrc.out (intRows_length r).symm (intRows_wid r) (intRows_one r) (by simp only [intRows_length,List.length_nil];omega) (by decide) (by (try simp)) ?_;intro v' w5 hown6 hg6 hob6;replace hown6 : IntsL w5 wr.heap.size v' r:=hown6;obtain ⟨g,c5,rfl,hg1,hg2⟩:=IntsL.lit hown6 (Nat.lt_of_le_of_lt (Nat.zero_le _) hqr);have hb5:=Lib.hid (((Below.refl _ _).alloc (Nat.le_refl _) _).trans (grown_below hg6 (fun g e=>(OwnL.lt hmade.out g e).1) (by simp)) : Below wr.heap.size wr w5);have e5:=(hb5.out.cell (p:=⟨H,j,none⟩) hbl2).trans e0;obtain ⟨q0,q1⟩:=IntsL.cellOf hown6 hqr;have hst:=IntsL.stored hown6 k x;replace hown6:=Lib.hid hown6;have hI3:=Lib.hid hst.1;have hb6:=Lib.hid (hb5.out.trans (grown_below (v:=.slice (some ⟨g,0,none⟩) 0 0) hst.2 (fun g' e=>by cases e;exact hg1) hb5.out.size));have hbs6:=hb6.out.size;have hsrc2:=rowsAt_new (w5.setCell ⟨g,k,none⟩ (.int .i64 x)) [.slice (some ⟨g,0,none⟩) (r.set k x).length c5] 78;have hO3:=Lib.hid ((hMO.out.below hb6.out).below (below_alloc _ (.cells #[.slice (some ⟨g,0,none⟩) (r.set k x).length c5] 78)));have hI4:=Lib.hid (hI3.out.below (below_alloc _ (.cells #[.slice (some ⟨g,0,none⟩) (r.set k x).length c5] 78)));have hbw6:=Lib.hid (hbx.out.trans (hb6.out.mono hbx.out.size));rw [List.length_set] at hsrc2 hO3 hI4;simp only [World.size_setCell,List.length_singleton] at hsrc2;replace hsrc2:=Lib.hid hsrc2;clear hg6 hob6 e0 hmade hsrc c0 hst hI3))
          |(at_builtin;go_must (refine wpList_append_rows elemRow2 rfl _ _ rfl rfl rfl hO3.out.own hsrc2.out rfl (fun r hr=>by rw [List.mem_singleton.1 hr];rfl) (fun r hr u hu=>by rw [List.mem_singleton.1 hr] at hu;rw [List.mem_singleton.1 hu];rfl) (by simp only [List.length_map,List.length_singleton];omega) (by decide) (by have:=hbw6.out.size;simp at this ⊢;omega) ?_;intro v' w7 hown7 hg7 hob7)))
         have hpush : Hid (MatO w7 wo.heap.size v' (withL k (r1.take (j + 1)) (M'.take (j + 1))) (us ++ [.slice (some ⟨g,0,none⟩) r.length c5])):=by
          have:=hO3.out.push (Bs:=wr.heap.size) (r:=r.set k x) (A:=some ⟨g,0,none⟩) (c:=c5) (by rw [List.length_set];exact hI4.out) hvB.out (by rw [List.length_set];exact hown7) hg7 hob7
          rw [List.length_set] at this
          show MatO _ _ _ _ _
          rw [htk.out]
          exact this
         have hb7 : Hid (Below wo.heap.size wo w7):=(below_step hbw6.out (below_alloc _ _)).trans (grown_below hg7 (fun g e=>(OwnL.lt hO3.out.own g e).1) (by have:=hbw6.out.size;simp at this ⊢;omega))
         clear hown7 hg7 hob7 hO3 hI4 hsrc2 hbw6 hb6 hb5
         go_wp2_with fail
         go_roundw
         case rel=>exact ⟨j + 1,_,_,by omega,by go_num,rfl,hpush,hb7⟩
         case measure=>simp [intOf];omega
        ·obtain rfl : j = n:=by omega
         have hO2:=hMO.out
         rw [List.take_of_length_le (by omega),List.take_of_length_le (by omega)] at hO2
         obtain ⟨A',c',rfl,hc',hMR⟩:=hO2.read
         have hl2 : (withL k r1 M').length = j:=by unfold withL;rw [List.length_zipWith];omega
         rw [hl2] at hc' ⊢
         replace hMR:=Lib.hid hMR
         have hOx:=Lib.hid (OwnL.below hO.out hbx.out)
         have hbz:=Lib.hid (hb.out.trans (hbx.out.mono hb.out.size))
         clear hMO hO2 hO hM hR1 hbx hb
         go_wp2_with (first
          |(go_at_call 37;refine (hd1.out A' c' us _ hMR.out hc').mono ?_;rintro e0 x2 ⟨rfl,hbx2⟩;have hz2:=Lib.hid hbx2;clear hbx2 hd1)
          |(go_at_call 38;refine (hlow.out _).mono ?_;rintro e0 x3 ⟨rfl,hbx3⟩;have hz3:=Lib.hid (hz2.out.trans (hbx3.mono hz2.out.size));clear hbx3;have hO3:=Lib.hid ((OwnL.below hOx.out hz3.out).below (below_alloc x3 (.cells #[.int .i64 (Cal.lowN (Cal.hN j l k) (Cal.hD j l)),.int .i64 (Cal.lowD (Cal.hN j l k) (Cal.hD j l))] 70)));have hsrc:=Lib.hid (rowsAt_new x3 [.int .i64 (Cal.lowN (Cal.hN j l k) (Cal.hD j l)),.int .i64 (Cal.lowD (Cal.hN j l k) (Cal.hD j l))] 70))
          |(at_builtin;go_must (refine wpList_append_rows elemFr rfl _ _ rfl rfl rfl hO3.out hsrc.out rfl (fun r hr=>by rw [List.mem_singleton.1 hr];rfl) (fun r hr u hu=>by rw [List.mem_singleton.1 hr] at hu;rcases List.mem_cons.1 hu with e | hu;rw [e];rfl;rw [List.mem_singleton.1 hu];rfl) (by simp only [List.length_singleton];omega) (by decide) (by have h1:=hbz.out.size;have h2:=hz3.out.size;simp;omega) ?_);intro v' x4 hown7 hg7 hob7))
         have hO4 : Hid (OwnL x4 wq.heap.size 70 2 v' (((0,1) :: (List.range (k + 1)).map (Cal.hAt j l)).map frR)):=by show OwnL _ _ _ _ _ _;rw [hrow.out];exact hown7
         have hw3:=hbz.out.size
         have hb3 : Below wr.heap.size wr (x3.alloc (.cells #[.int .i64 (Cal.lowN (Cal.hN j l k) (Cal.hD j l)),.int .i64 (Cal.lowD (Cal.hN j l k) (Cal.hD j l))] 70)):=below_step hz3.out (below_alloc _ _)
         have hgw:=grown_below (B:=wq.heap.size) hg7 (fun g e=>(OwnL.lt hO3.out g e).1) (by have h2:=hb3.size;omega)
         have hb4 : Hid (Below wq.heap.size wq x4):=(hbz.out.trans (hb3.mono hw3)).trans hgw
         clear hown7 hg7 hob7 hO3 hz3 hz2 hMR hlow hrow hsrc hb3 hgw hOx hbz
         go_wp2_with fail
         go_roundw
         case rel=>exact ⟨k + 1,_,by omega,by go_num,rfl,hO4,hb4⟩
         case measure=>simp [intOf];omega
      ·obtain rfl : k = n:=by omega
       go_wp2_with fail
       go_ret
       exact ⟨_,rfl,OwnL.less hO.out hB6,hbw.out.trans (hb.out.mono hbw.out.size)⟩
end Go.Proofs.Ythfokpchdlcidaa
namespace Go.Proofs.Ythfokpchdlcidaa
open Go Go.RowKit Go.Shelf
theorem SameFracs_any (A : Option Addr) (c : Nat) (x : List (Int × Int)) (B : Option Addr) (d : Nat) (y : List (Int × Int)) (w : World) (hA : RowsAt w A 2 (x.map frR)) (hB : RowsAt w B 2 (y.map frR)) (hs : x.length ≤ 1000000) :
  Calls Try.prog 10 #[.slice A x.length c,.slice B y.length d] w fun e w'=>e = .returned (.bool (decide (x = y))) ∧ Below w.heap.size w w':=by
 obtain ⟨R,hR⟩ : ∃ R,decide (x = y) = R:=⟨_,rfl⟩
 rw [hR]
 replace hR:=Lib.hid hR
 have hb0 : Hid (Below w.heap.size w w):=Below.refl _ _
 by_cases hlen : x.length = y.length
 ·have h0 : Hid (x.take 0 = y.take 0):=by show _ = _;rw [List.take_zero,List.take_zero]
  replace hA:=Lib.hid hA
  replace hB:=Lib.hid hB
  have hl2:=Lib.hid hlen
  obtain ⟨n,hn⟩ : ∃ n,x.length = n:=⟨_,rfl⟩
  have hny : y.length = n:=by omega
  rw [hn,hny]
  have hn2:=Lib.hid hn
  have hny2:=Lib.hid hny
  have hns : n ≤ 1000000:=by omega
  clear hlen hn hny hs
  go_enter Try.func10,Try.ntmps10
  go_wp2_with fail
  go_loopw [5] (fun i wz=>∃ k : Nat,k ≤ n ∧ i = .int .i64 k ∧ Hid (x.take k = y.take k) ∧ Hid (Below w.heap.size w wz)) (fun i _=>n - (intOf i).toNat)
  case atStart=>exact ⟨0,Nat.zero_le _,rfl,h0,hb0⟩
  case round =>
   clear h0 hb0
   obtain ⟨k,hk,rfl,heq,hb⟩:=hrel
   by_cases hlt : k < n
   ·have hlx : k < x.length:=by rw [hn2.out];exact hlt
    have hly : k < y.length:=by rw [hny2.out];exact hlt
    have hk1 : x[k]? = some x[k]:=List.getElem?_eq_getElem hlx
    have hk2 : y[k]? = some y[k]:=List.getElem?_eq_getElem hly
    have hnx : x[k] = y[k] → x.take (k + 1) = y.take (k + 1):=fun e=>by
     rw [List.take_succ_eq_append_getElem hlx,List.take_succ_eq_append_getElem hly,heq.out,e]
    have hki : (k : Int) < (n : Int):=by omega
    generalize x[k] = xk at *
    generalize y[k] = yk at *
    obtain ⟨b1,o1,rfl,_,c0,c1⟩:=fr_at (hA.out.below hb.out) hk1
    obtain ⟨b2,o2,rfl,_,c2,c3⟩:=fr_at (hB.out.below hb.out) hk2
    obtain ⟨xn,xd⟩:=xk
    obtain ⟨yn,yd⟩:=yk
    dsimp only at *
    by_cases hn1 : xn = yn
    ·by_cases hd1 : xd = yd
     ·have hnx2:=Lib.hid (hnx (by rw [hn1,hd1]))
      subst hn1 hd1
      clear hnx hk1 hk2
      go_wp2_with fail
      refine wp_region_held_drew (S:=Sx wr [(b1,o1 + k * 2,.int .i64 xn),(b1,o1 + k * 2 + 1,.int .i64 xd),(b2,o2 + k * 2,.int .i64 xn),(b2,o2 + k * 2 + 1,.int .i64 xd)]) (by kernel_rfl) (Sx.mk (by simp only [cs_iff_cons];exact ⟨c0,c1,c2,c3,cs_nil _⟩) (Below.refl _ _)).drew (fun hHeld=>?_)
      clear c0 c1 c2 c3
      refine tkHx 0 17 ?_
      refine tkHx 1 18 ?_
      refine tkHx 2 19 ?_
      refine tkHx 3 20 ?_
      refine tkHx 4 21 ?_
      refine tkHx 5 22 ?_
      refine tkHx 6 23 ?_
      refine tkHx 7 24 ?_
      refine tkHx 8 25 ?_
      refine wpAnyH_done (by kernel_rfl) ?_ _
      (try simp only [apS,apN,siA,scZ,scS])
      have hb2:=Lib.hid (below_step hb.out hHeld.bel)
      clear hHeld
      go_wp2_with fail
      go_roundw
      case rel=>exact ⟨k + 1,by omega,by go_num,hnx2,hb2⟩
      case measure=>simp [intOf];omega
     ·have hxy : ¬ (xn,xd) = (yn,yd):=fun e=>hd1 (Prod.mk.inj e).2
      have hf : Hid (R = false):=by
       show _ = _
       rw [← hR.out]
       exact decide_eq_false (fun e=>hxy (by
        have h1 : x[k]? = y[k]?:=by rw [e]
        rw [hk1,hk2] at h1
        exact Option.some.inj h1))
      clear hnx hk1 hk2
      have hdb : (xd == yd) = false:=by simpa using hd1
      subst hn1
      clear hxy
      go_wp2_with fail
      refine wp_region_held_drew (S:=Sx wr [(b1,o1 + k * 2,.int .i64 xn),(b1,o1 + k * 2 + 1,.int .i64 xd),(b2,o2 + k * 2,.int .i64 xn),(b2,o2 + k * 2 + 1,.int .i64 yd)]) (by kernel_rfl) (Sx.mk (by simp only [cs_iff_cons];exact ⟨c0,c1,c2,c3,cs_nil _⟩) (Below.refl _ _)).drew (fun hHeld=>?_)
      clear c0 c1 c2 c3
      refine tkHx 0 17 ?_
      refine tkHx 1 18 ?_
      refine tkHx 2 19 ?_
      refine tkHx 3 20 ?_
      refine tkHx 4 21 ?_
      refine tkHx 5 22 ?_
      refine tkHx 6 23 ?_
      refine tkHx 7 24 ?_
      refine tkHx 8 25 ?_
      refine wpAnyH_done (by kernel_rfl) ?_ _
      (try simp only [apS,apN,siA,scZ,scS])
      have hb2:=Lib.hid (below_step hb.out hHeld.bel)
      clear hHeld
      go_wp2_with fail
      go_ret
      exact ⟨by rw [hf.out];rfl,hb2.out⟩
    ·have hxy : ¬ (xn,xd) = (yn,yd):=fun e=>hn1 (Prod.mk.inj e).1
     have hf : Hid (R = false):=by
      show _ = _
      rw [← hR.out]
      exact decide_eq_false (fun e=>hxy (by
       have h1 : x[k]? = y[k]?:=by rw [e]
       rw [hk1,hk2] at h1
       exact Option.some.inj h1))
     clear hnx hk1 hk2
     have hnb : (xn == yn) = false:=by simpa using hn1
     clear hxy
     go_wp2_with fail
     refine wp_region_held_drew (S:=Sx wr [(b1,o1 + k * 2,.int .i64 xn),(b1,o1 + k * 2 + 1,.int .i64 xd),(b2,o2 + k * 2,.int .i64 yn),(b2,o2 + k * 2 + 1,.int .i64 yd)]) (by kernel_rfl) (Sx.mk (by simp only [cs_iff_cons];exact ⟨c0,c1,c2,c3,cs_nil _⟩) (Below.refl _ _)).drew (fun hHeld=>?_)
     clear c0 c1 c2 c3
     refine tkHx 0 17 ?_
     refine tkHx 1 18 ?_
     refine tkHx 2 19 ?_
     refine tkHx 3 20 ?_
     refine tkHx 4 21 ?_
     refine tkHx 5 22 ?_
     refine tkHx 6 23 ?_
     refine tkHx 7 24 ?_
     refine tkHx 8 25 ?_
     refine wpAnyH_done (by kernel_rfl) ?_ _
     (try simp only [apS,apN,siA,scZ,scS])
     have hb2:=Lib.hid (below_step hb.out hHeld.bel)
     clear hHeld
     go_wp2_with fail
     go_ret
     exact ⟨by rw [hf.out];rfl,hb2.out⟩
   ·obtain rfl : k = n:=by omega
    have hf : Hid (R = true):=by
     show _ = _
     rw [← hR.out]
     have:=heq.out
     rw [List.take_of_length_le (Nat.le_of_eq hn2.out),List.take_of_length_le (Nat.le_of_eq hny2.out)] at this
     exact decide_eq_true this
    go_wp2_with fail
    go_ret
    exact ⟨by rw [hf.out];rfl,hb.out⟩
 ·have hf : Hid (R = false):=by
   show _ = _
   rw [← hR.out]
   exact decide_eq_false (fun e=>hlen (by rw [e]))
  have hlb : ((x.length : Int) == (y.length : Int)) = false:=by simp;omega
  have hln : ¬ (x.length : Int) = (y.length : Int):=by omega
  go_enter Try.func10,Try.ntmps10
  go_wp2_with fail
  go_ret
  exact ⟨by rw [hf.out];rfl,hb0.out⟩
end Go.Proofs.Ythfokpchdlcidaa
namespace Go.Proofs.Ythfokpchdlcidaa
open Go Go.RowKit Go.Shelf
theorem GroundNets_any (N : Int) (A : Option Addr) (c : Nat) (l : List Lev) (w : World) (hR : Row30 w A l) :
  Calls Try.prog 3 #[.int .i64 N,.slice A l.length c] w fun e w'=>e = .returned (.bool true) ∧ Below w.heap.size w w':=by
 by_cases hl : 30 < l.length
 ·have hl1 : 30 < (l.length : Int):=by omega
  clear hR
  go_enter Try.func3,Try.ntmps3
  go_wp2_with (go_at_call 6;refine (lawAwake_any _).mono ?_;rintro e w1 ⟨rfl,hb1⟩;replace hb1:=Lib.hid hb1)
  go_ret
  exact ⟨rfl,hb1.out⟩
 have hl1 : ¬ 30 < (l.length : Int):=by omega
 have hL:=hR.levs (by omega)
 have hnet:=Lib.hid (fun W (hb : Below w.heap.size w W)=>CheckNetR_any N A c l W (hL.below hb))
 have hnp:=Lib.hid (fun W (hb : Below w.heap.size w W)=>CheckNet_any N A c l W (hL.below hb))
 clear hR
 by_cases hz : Cal.netE N l = 0
 ·obtain ⟨hn1,hn6,hl20,hlev,hsw⟩:=Cal.netE_zero hz
  clear hsw hlev
  obtain ⟨n,hn⟩ : ∃ n : Nat,N = ((n + 1 : Nat) : Int):=⟨N.toNat - 1,by omega⟩
  subst hn
  have hNn : ((n + 1 : Nat) : Int).toNat - 1 = n:=by omega
  have hgood:=Cal.heights_good hz
  have hDp:=Cal.hD_pos hz
  have hfl:=Cal.heights_len n l
  obtain ⟨hc1,hc2⟩:=Cal.heights_chk hz
  have hfb : ∀ h ∈ Cal.heightsP n l,(-9223372036854775808 ≤ h.1 ∧ h.1 ≤ 9223372036854775807) ∧ (-9223372036854775808 ≤ h.2 ∧ h.2 ≤ 9223372036854775807):=fun h hh=>by
   obtain ⟨g1,_,g3,g4⟩:=hgood h hh
   have g5:=Int.le_of_dvd hDp.1 g4
   have g6:=of_decide_eq_false g3
   omega
  have hhts : Hid (∀ W,Below w.heap.size w W → Calls Try.prog 8 #[.int .i64 ((n + 1 : Nat) : Int),.slice A l.length c] W fun e w'=>∃ A4 c4,e = .returned (.tuple #[.slice A4 (n + 1) c4,.int .i64 0]) ∧ RowsAt w' A4 2 ((Cal.heightsP n l).map frR) ∧ Below W.heap.size W w'):=fun W hb=>by
   have:=Heights_any ((n + 1 : Nat) : Int) A c l W (hL.below hb)
   rw [if_pos hz,hNn,hz] at this
   refine this.mono ?_
   rintro e w' ⟨v,rfl,hO,hb'⟩
   obtain ⟨A4,c4,rfl,hr⟩:=hO.form
   rw [List.length_map,hfl]
   exact ⟨A4,c4,rfl,hr,hb'⟩
  have hhr : Hid (∀ W,Below w.heap.size w W → Calls Try.prog 11 #[.int .i64 ((n + 1 : Nat) : Int),.slice A l.length c] W fun e w'=>∃ A4 c4,e = .returned (.slice A4 (n + 1) c4) ∧ RowsAt w' A4 2 ((Cal.heightsP n l).map frR) ∧ Below W.heap.size W w'):=fun W hb=>by
   have:=HeightsR_any n A c l W hz (hL.below hb)
   refine this.mono ?_
   rintro e w' ⟨v,rfl,hO,hb'⟩
   obtain ⟨A4,c4,rfl,hr⟩:=hO.form
   rw [List.length_map,hfl]
   exact ⟨A4,c4,rfl,hr,hb'⟩
  have hsf : Hid (∀ A c B d W,RowsAt W A 2 ((Cal.heightsP n l).map frR) → RowsAt W B 2 ((Cal.heightsP n l).map frR) → Calls Try.prog 10 #[.slice A (n + 1) c,.slice B (n + 1) d] W fun e w'=>e = .returned (.bool true) ∧ Below W.heap.size W w'):=fun A c B d W h1 h2=>by
   have:=SameFracs_any A c (Cal.heightsP n l) B d (Cal.heightsP n l) W h1 h2 (by omega)
   rw [decide_eq_true rfl,hfl] at this
   exact this
  have hck : Hid (∀ B d W,Below w.heap.size w W → RowsAt W B 2 ((Cal.heightsP n l).map frR) → Calls Try.prog 12 #[.int .i64 ((n + 1 : Nat) : Int),.slice A l.length c,.slice B (n + 1) d] W fun e w'=>e = .returned (.tuple #[.int .i64 0,.int .i64 0]) ∧ Below W.heap.size W w'):=fun B d W hb h1=>by
   have:=CheckHeights_any ((n + 1 : Nat) : Int) A c l B d (Cal.heightsP n l) W (hL.below hb) h1 (by omega) hfb
   rw [hc1,hc2,hfl] at this
   exact this
  rw [hz] at hnet hnp
  clear hz hn1 hn6 hl20 hNn hgood hDp hfl hc1 hc2 hfb hL
  generalize Cal.heightsP n l = fr at *
  go_enter Try.func3,Try.ntmps3
  go_wp2_with (first
   |(go_at_call 6;refine (lawAwake_any _).mono ?_;rintro e w1 ⟨rfl,hb1⟩;replace hb1:=Lib.hid hb1)
   |(go_at_call 7;refine (hnet.out _ hb1.out).mono ?_;rintro e w2 ⟨rfl,hb2⟩;replace hb2:=Lib.hid (below_step hb1.out hb2);clear hnet hb1)
   |(go_at_call 8;refine (hhts.out _ hb2.out).mono ?_;rintro e w3 ⟨A4,c4,rfl,hr4,hb3⟩;replace hb3:=Lib.hid (below_step hb2.out hb3);replace hr4:=Lib.hid hr4;clear hhts hb2)
   |(go_at_call 9;refine (hnp.out _ hb3.out).mono ?_;rintro e w4 ⟨rfl,hb4⟩;replace hr4:=Lib.hid (hr4.out.below hb4);replace hb4:=Lib.hid (below_step hb3.out hb4);clear hnp hb3)
   |(go_at_call 11;refine (hhr.out _ hb4.out).mono ?_;rintro e w5 ⟨A6,c6,rfl,hr6,hb5⟩;replace hr4:=Lib.hid (hr4.out.below hb5);replace hb5:=Lib.hid (below_step hb4.out hb5);replace hr6:=Lib.hid hr6;clear hhr hb4)
   |(go_at_call 10;refine (hsf.out _ _ _ _ _ hr4.out hr6.out).mono ?_;rintro e w6 ⟨rfl,hb6⟩;replace hr4:=Lib.hid (hr4.out.below hb6);replace hb6:=Lib.hid (below_step hb5.out hb6);clear hsf hb5 hr6)
   |(go_at_call 12;refine (hck.out _ _ _ hb6.out hr4.out).mono ?_;rintro e w7 ⟨rfl,hb7⟩;replace hb7:=Lib.hid (below_step hb6.out hb7);clear hck hb6))
  go_ret
  exact ⟨rfl,hb7.out⟩
 ·have hhts : Hid (∀ W,Below w.heap.size w W → Calls Try.prog 8 #[.int .i64 N,.slice A l.length c] W fun e w'=>∃ A4 c4,e = .returned (.tuple #[.slice A4 0 c4,.int .i64 (Cal.netE N l)]) ∧ RowsAt w' A4 2 (([] : List (Int × Int)).map frR) ∧ Below W.heap.size W w'):=fun W hb=>by
   have:=Heights_any N A c l W (hL.below hb)
   rw [if_neg hz] at this
   refine this.mono ?_
   rintro e w' ⟨v,rfl,hO,hb'⟩
   obtain ⟨A4,c4,rfl,hr⟩:=hO.form
   exact ⟨A4,c4,rfl,hr,hb'⟩
  have hzb : (Cal.netE N l == 0) = false:=by simpa using hz
  have hzc : (Cal.netE N l != 0) = true:=by simpa using hz
  clear hL hz
  generalize Cal.netE N l = E at *
  go_enter Try.func3,Try.ntmps3
  go_wp2_with (first
   |(go_at_call 6;refine (lawAwake_any _).mono ?_;rintro e w1 ⟨rfl,hb1⟩;replace hb1:=Lib.hid hb1)
   |(go_at_call 7;refine (hnet.out _ hb1.out).mono ?_;rintro e w2 ⟨rfl,hb2⟩;replace hb2:=Lib.hid (below_step hb1.out hb2);clear hnet hb1)
   |(go_at_call 8;refine (hhts.out _ hb2.out).mono ?_;rintro e w3 ⟨A4,c4,rfl,hr4,hb3⟩;replace hb3:=Lib.hid (below_step hb2.out hb3);replace hr4:=Lib.hid hr4;clear hhts hb2)
   |(go_at_call 9;refine (hnp.out _ hb3.out).mono ?_;rintro e w4 ⟨rfl,hb4⟩;replace hr4:=Lib.hid (hr4.out.below hb4);replace hb4:=Lib.hid (below_step hb3.out hb4);clear hnp hb3)
   |(go_at_call 11;refine (hhr.out _ hb4.out).mono ?_;rintro e w5 ⟨A6,c6,rfl,hr6,hb5⟩;replace hr4:=Lib.hid (hr4.out.below hb5);replace hb5:=Lib.hid (below_step hb4.out hb5);replace hr6:=Lib.hid hr6;clear hhr hb4)
   |(go_at_call 10;refine (hsf.out _ _ _ _ _ hr4.out hr6.out).mono ?_;rintro e w6 ⟨rfl,hb6⟩;replace hr4:=Lib.hid (hr4.out.below hb6);replace hb6:=Lib.hid (below_step hb5.out hb6);clear hsf hb5 hr6)
   |(go_at_call 12;refine (hck.out _ _ _ hb6.out hr4.out).mono ?_;rintro e w7 ⟨rfl,hb7⟩;replace hb7:=Lib.hid (below_step hb6.out hb7);clear hck hb6))
  go_ret
  exact ⟨rfl,hb4.out⟩
end Go.Proofs.Ythfokpchdlcidaa
