/- What the statements rest on: definitions and walks, part 39. -/
import Derived.Test.YthfokpchdlcidaaJ38
set_option maxRecDepth 100000
set_option maxHeartbeats 16000000
set_option linter.unusedSimpArgs false
set_option linter.unusedVariables false
namespace Go.Proofs.Ythfokpchdlcidaa
open Go Go.RowKit Go.Shelf
theorem ear_idx {n i : Nat} (hi : i < n) (hn : n ≤ 1000000) :
  IntKind.i64.wrap ((i : Int) + (n : Int)) = ((i + n : Nat) : Int) ∧ IntKind.i64.wrap (((i + n : Nat) : Int) - 1) = ((i + n - 1 : Nat) : Int) ∧ ((i + n - 1 : Nat) : Int).tmod (n : Int) = (((i + n - 1) % n : Nat) : Int) ∧
  IntKind.i64.wrap ((i : Int) + 1) = ((i + 1 : Nat) : Int) ∧ ((i + 1 : Nat) : Int).tmod (n : Int) = (((i + 1) % n : Nat) : Int) ∧ IntKind.i64.wrap ((((i + n - 1) % n : Nat)) : Int) = (((i + n - 1) % n : Nat) : Int) ∧ IntKind.i64.wrap ((((i + 1) % n : Nat)) : Int) = (((i + 1) % n : Nat) : Int):=by
 have h1:=Nat.mod_lt (i + n - 1) (show 0 < n by omega)
 have h2:=Nat.mod_lt (i + 1) (show 0 < n by omega)
 refine ⟨?_,?_,rfl,?_,rfl,wrap_small (by omega) (by omega),wrap_small (by omega) (by omega)⟩
 ·rw [wrap_small (by omega) (by omega)];omega
 ·rw [wrap_small (by omega) (by omega)];omega
 ·rw [wrap_small (by omega) (by omega)];omega
theorem three_new (Y : World) (c : Array Value) (t : TypeId) : BoxAt (((Y.alloc (.cells c t)).alloc (.cells c t)).alloc (.cells c t)) Y.heap.size c.toList ∧ BoxAt (((Y.alloc (.cells c t)).alloc (.cells c t)).alloc (.cells c t)) (Y.heap.size + 1) c.toList ∧ BoxAt (((Y.alloc (.cells c t)).alloc (.cells c t)).alloc (.cells c t)) (Y.heap.size + 1 + 1) c.toList:=by
 refine ⟨((BoxAt.new Y c t).alloc _).alloc _,?_,?_⟩
 ·have:=(BoxAt.new (Y.alloc (.cells c t)) c t).alloc (.cells c t)
  rwa [World.size_alloc] at this
 ·have:=BoxAt.new ((Y.alloc (.cells c t)).alloc (.cells c t)) c t
  rwa [World.size_alloc,World.size_alloc] at this
theorem earR_any (V : Option Addr) (d : Nat) (ps : List Pt) (i : Nat) (w : World) (hP : Pts w V ps) (hi : i < ps.length) :
  Calls Try.prog 93 #[.slice V ps.length d,.int .i64 (i : Int)] w fun e w'=>e = .returned (.int .i64 (Cal.earR ps i)) ∧ Below w.heap.size w w':=by
 have hsz:=hP.size
 obtain ⟨R,hR⟩ : ∃ R,Cal.earR ps i = R:=⟨_,rfl⟩
 rw [hR]
 have m1:=Nat.mod_lt (i + ps.length - 1) (Nat.lt_of_le_of_lt (Nat.zero_le _) hi)
 have m2:=Nat.mod_lt (i + 1) (Nat.lt_of_le_of_lt (Nat.zero_le _) hi)
 have r1 : (((i + ps.length - 1) % ps.length : Nat) : Int) < (ps.length : Int):=Int.ofNat_lt.2 m1
 have r2 : (((i + 1) % ps.length : Nat) : Int) < (ps.length : Int):=Int.ofNat_lt.2 m2
 have r3 : (i : Int) < (ps.length : Int):=Int.ofNat_lt.2 hi
 have hn0 : ¬ ps.length = 0:=fun e=>by rw [e] at hi;exact absurd hi (Nat.not_lt_zero _)
 obtain ⟨q1,q2,q3,q4,q5,q6,q7⟩:=ear_idx hi hsz
 have q1b : wrap64 ((i : Int) + (ps.length : Int)) = ((i + ps.length : Nat) : Int):=by rw [← wrap_eq];exact q1
 have q2b : wrap64 (((i + ps.length : Nat) : Int) - 1) = ((i + ps.length - 1 : Nat) : Int):=by rw [← wrap_eq];exact q2
 have q4b : wrap64 ((i : Int) + 1) = ((i + 1 : Nat) : Int):=by rw [← wrap_eq];exact q4
 have ea : Cal.earA ps i = ps[(i + ps.length - 1) % ps.length]:=by unfold Cal.earA;rw [List.getElem?_eq_getElem m1];rfl
 have eb : Cal.earB ps i = ps[i]:=by unfold Cal.earB;rw [List.getElem?_eq_getElem hi];rfl
 have ec : Cal.earC ps i = ps[(i + 1) % ps.length]:=by unfold Cal.earC;rw [List.getElem?_eq_getElem m2];rfl
 have sa : SmP (Cal.earA ps i):=by rw [ea];exact hP.sm _ (List.getElem_mem m1)
 have sb : SmP (Cal.earB ps i):=by rw [eb];exact hP.sm _ (List.getElem_mem hi)
 have sc : SmP (Cal.earC ps i):=by rw [ec];exact hP.sm _ (List.getElem_mem m2)
 obtain ⟨b,o,rfl,hbl,a0,a1⟩:=pts_at hP.rows (List.getElem?_eq_getElem m1)
 obtain ⟨b',o',hA,_,b0,b1⟩:=pts_at hP.rows (List.getElem?_eq_getElem hi)
 cases hA
 obtain ⟨b',o',hA,_,c0,c1⟩:=pts_at hP.rows (List.getElem?_eq_getElem m2)
 cases hA
 rw [← ea] at a0 a1
 rw [← eb] at b0 b1
 rw [← ec] at c0 c1
 have hcr : Hid (∀ W,Calls Try.prog 91 #[.agg #[.int .i64 (Cal.earA ps i).x,.int .i64 (Cal.earA ps i).y],.agg #[.int .i64 (Cal.earB ps i).x,.int .i64 (Cal.earB ps i).y],.agg #[.int .i64 (Cal.earC ps i).x,.int .i64 (Cal.earC ps i).y]] W fun e w'=>e = .returned (.int .i64 (Cal.crs ⟨Cal.earA ps i,Cal.earB ps i⟩ (Cal.earC ps i))) ∧ Below W.heap.size W w'):=fun W=>crossR_any _ _ _ W sa sb sc
 have hwh : Hid (∀ W B q,SmP q → RowsAt W (some ⟨B,0,none⟩) 2 ([Cal.earA ps i,Cal.earB ps i,Cal.earC ps i].map ptR) → B < W.heap.size → Calls Try.prog 73 #[.slice (some ⟨B,0,none⟩) 3 3,.agg #[.int .i64 q.x,.int .i64 q.y]] W fun e w'=>e = .returned (.int .i64 (Cal.whereP [Cal.earA ps i,Cal.earB ps i,Cal.earC ps i] q)) ∧ Below W.heap.size W w'):=fun W B q hq hr hB =>
  WhereR_any (some ⟨B,0,none⟩) 3 [Cal.earA ps i,Cal.earB ps i,Cal.earC ps i] q W ⟨hr,by simp,fun p hp=>by
   rcases List.mem_cons.1 hp with rfl | hp
   ·exact sa
   ·rcases List.mem_cons.1 hp with rfl | hp
    ·exact sb
    ·rw [List.mem_singleton.1 hp];exact sc,fun ad e _=>by cases e;exact hB⟩ hq (by simp)
 have hinE : Hid (∀ k (hk : k < ps.length),Cal.inEar ps i k = (!ptB ps[k] (Cal.earA ps i) && (!ptB ps[k] (Cal.earB ps i) && (!ptB ps[k] (Cal.earC ps i) && decide (0 ≤ Cal.whereP [Cal.earA ps i,Cal.earB ps i,Cal.earC ps i] ps[k]))))):=fun k hk=>by
  unfold Cal.inEar
  rw [List.getElem?_eq_getElem hk];rfl
 have hRR : Hid (R = if Cal.crs ⟨Cal.earA ps i,Cal.earB ps i⟩ (Cal.earC ps i) ≤ 0 then (if Cal.crs ⟨Cal.earA ps i,Cal.earB ps i⟩ (Cal.earC ps i) = 0 then 0 else -1) else if (List.range ps.length).any (Cal.inEar ps i) = true then -1 else 1):=hR.symm
 replace hP:=Lib.hid hP
 clear sa sb sc ea eb ec hR
 generalize Cal.earA ps i = pa at *
 generalize Cal.earB ps i = pb at *
 generalize Cal.earC ps i = pc at *
 generalize Cal.crs ⟨pa,pb⟩ pc = X at *
 generalize hja : (i + ps.length - 1) % ps.length = ja at *
 generalize hjc : (i + 1) % ps.length = jc at *
 clear hja hjc
 generalize i + ps.length - 1 = u1 at *
 generalize i + ps.length = u2 at *
 generalize i + 1 = u3 at *
 go_enter Try.func93,Try.ntmps93
 go_wp2_with fail
 go_cut [5,6,7] from 10 to 32 (fun x5 x6 x7 wc=>∃ B5 B6 B7,x5 = .pointer (some ⟨B5,0,none⟩) ∧ x6 = .pointer (some ⟨B6,0,none⟩) ∧ x7 = .pointer (some ⟨B7,0,none⟩) ∧ Hid (BoxAt wc B5 [.int .i64 pa.x,.int .i64 pa.y]) ∧ Hid (BoxAt wc B6 [.int .i64 pb.x,.int .i64 pb.y]) ∧ Hid (BoxAt wc B7 [.int .i64 pc.x,.int .i64 pc.y]) ∧ Hid (Below w.heap.size w wc))
 case first =>
  have hLb : Hid (∀ x ∈ [(b,o + ja * 2,Value.int .i64 pa.x),(b,o + ja * 2 + 1,.int .i64 pa.y),(b,o + i * 2,.int .i64 pb.x),(b,o + i * 2 + 1,.int .i64 pb.y),(b,o + jc * 2,.int .i64 pc.x),(b,o + jc * 2 + 1,.int .i64 pc.y)],x.1 < w.heap.size):=fun x hx=>by
   simp only [List.mem_cons,List.not_mem_nil,or_false] at hx
   rcases hx with rfl | rfl | rfl | rfl | rfl | rfl <;> exact hbl
  refine wp_region_held_drew (S:=Sx w [(b,o + ja * 2,.int .i64 pa.x),(b,o + ja * 2 + 1,.int .i64 pa.y),(b,o + i * 2,.int .i64 pb.x),(b,o + i * 2 + 1,.int .i64 pb.y),(b,o + jc * 2,.int .i64 pc.x),(b,o + jc * 2 + 1,.int .i64 pc.y)]) (by kernel_rfl) (Sx.mk (by simp only [cs_iff_cons];exact ⟨a0,a1,b0,b1,c0,c1,cs_nil _⟩) (Below.refl _ _)).drew (fun hHeld=>?_)
  clear a0 a1 b0 b1 c0 c1
  have l0 : Hid (w.heap.size ≤ w.drew.heap.size):=Nat.le_refl _
  generalize w.drew = Y at *
  have l1 : Hid (w.heap.size ≤ Y.heap.size + 1):=Nat.le_succ_of_le l0.out
  have l2 : Hid (w.heap.size ≤ Y.heap.size + 1 + 1):=Nat.le_succ_of_le l1.out
  obtain ⟨g0,g1,g2⟩:=three_new Y #[.int .i64 0,.int .i64 0] 40
  replace g0:=Lib.hid g0
  replace g1:=Lib.hid g1
  replace g2:=Lib.hid g2
  have n01 : Y.heap.size ≠ Y.heap.size + 1:=by omega
  have n02 : Y.heap.size ≠ Y.heap.size + 1 + 1:=by omega
  have n12 : Y.heap.size + 1 ≠ Y.heap.size + 1 + 1:=by omega
  replace n01:=Lib.hid n01
  replace n02:=Lib.hid n02
  replace n12:=Lib.hid n12
  refine tkHx 0 10 ?_
  refine tkHx 1 11 ?_
  refine tkHx 2 12 ?_
  refine tkHx 3 13 ?_
  refine tkHx 4 14 ?_
  refine tkHx 5 15 ?_
  refine tkHx 6 16 ?_
  refine tkHx 7 17 ?_
  refine tkHx 8 18 ?_
  refine tkHx 9 19 ?_
  refine tkHx 10 20 ?_
  refine tkHx 11 21 ?_
  refine tkHx 12 22 ?_
  refine tkHx 13 23 ?_
  refine tkHx 14 24 ?_
  refine tkHx 15 25 ?_
  refine tkHx 16 26 ?_
  refine tkHx 17 27 ?_
  refine tkHx 18 28 ?_
  refine tkHx 19 29 ?_
  refine tkHx 20 30 ?_
  refine tkHx 21 31 ?_
  refine tkHx 22 32 ?_
  (refine wpAnyH_ready (rs:=[23,24,25]) (by decide +kernel) (by simp) ?_;refine AllReadyH.cons rfl (fun K hK=>?_) (AllReadyH.cons rfl (fun K hK=>?_) (AllReadyH.cons rfl (fun K hK=>?_) AllReadyH.nil)))
  ·(rw [if_pos (by kernel_rfl)];go_simp)
   (refine hK.out _ _ (hHeld.alloc _) (fun hHeld=>?_);clear hK K;(try simp only [apS,apN,siA,scZ,scS]))
   (refine wpAnyH_ready (rs:=[24,25]) (by decide +kernel) (by simp) ?_;refine AllReadyH.cons rfl (fun K hK=>?_) (AllReadyH.cons rfl (fun K hK=>?_) AllReadyH.nil))
   ·(rw [if_pos (by kernel_rfl)];go_simp)
    (refine hK.out _ _ (hHeld.alloc _) (fun hHeld=>?_);clear hK K;(try simp only [apS,apN,siA,scZ,scS]))
    (refine ratHx 25 (fun K hK=>?_);go_simp)
    (refine hK.out _ _ (hHeld.alloc _) (fun hHeld=>?_);clear hK K;(try simp only [apS,apN,siA,scZ,scS]))
    simp only [World.size_alloc] at *
    refine storeP 26 40 (.tmp 5) (.tmp 20) (Y.heap.size) [.int .i64 pa.x,.int .i64 pa.y] l0.out hLb.out hHeld g0 rfl g1 (Ne.symm n01.out) g2 (Ne.symm n02.out) (fun Z1 hHeld x5 x6 x7=>?_)
    refine storeP 27 40 (.tmp 6) (.tmp 24) (Y.heap.size + 1) [.int .i64 pb.x,.int .i64 pb.y] l1.out hLb.out hHeld x6 rfl x5 n01.out x7 (Ne.symm n12.out) (fun Z2 hHeld x6 x5 x7=>?_)
    refine storeP 28 40 (.tmp 7) (.tmp 32) (Y.heap.size + 1 + 1) [.int .i64 pc.x,.int .i64 pc.y] l2.out hLb.out hHeld x7 rfl x5 n02.out x6 n12.out (fun Z3 hHeld x7 x5 x6=>?_)
    refine wpAnyH_done (by kernel_rfl) ?_ _
    have hbe:=Lib.hid hHeld.bel
    go_wp2_with fail
    go_meet
    case rel=>exact ⟨_,_,_,rfl,rfl,rfl,x5,x6,x7,hbe⟩
   ·(rw [if_pos (by kernel_rfl)];go_simp)
    (refine hK.out _ _ (hHeld.alloc _) (fun hHeld=>?_);clear hK K;(try simp only [apS,apN,siA,scZ,scS]))
    (refine ratHx 24 (fun K hK=>?_);go_simp)
    (refine hK.out _ _ (hHeld.alloc _) (fun hHeld=>?_);clear hK K;(try simp only [apS,apN,siA,scZ,scS]))
    simp only [World.size_alloc] at *
    refine storeP 26 40 (.tmp 5) (.tmp 20) (Y.heap.size) [.int .i64 pa.x,.int .i64 pa.y] l0.out hLb.out hHeld g0 rfl g2 (Ne.symm n02.out) g1 (Ne.symm n01.out) (fun Z1 hHeld x5 x6 x7=>?_)
    refine storeP 27 40 (.tmp 6) (.tmp 24) (Y.heap.size + 1 + 1) [.int .i64 pb.x,.int .i64 pb.y] l2.out hLb.out hHeld x6 rfl x5 n02.out x7 (Ne.symm n12.out.symm) (fun Z2 hHeld x6 x5 x7=>?_)
    refine storeP 28 40 (.tmp 7) (.tmp 32) (Y.heap.size + 1) [.int .i64 pc.x,.int .i64 pc.y] l1.out hLb.out hHeld x7 rfl x5 n01.out x6 n12.out.symm (fun Z3 hHeld x7 x5 x6=>?_)
    refine wpAnyH_done (by kernel_rfl) ?_ _
    have hbe:=Lib.hid hHeld.bel
    go_wp2_with fail
    go_meet
    case rel=>exact ⟨_,_,_,rfl,rfl,rfl,x5,x6,x7,hbe⟩
  ·(rw [if_pos (by kernel_rfl)];go_simp)
   (refine hK.out _ _ (hHeld.alloc _) (fun hHeld=>?_);clear hK K;(try simp only [apS,apN,siA,scZ,scS]))
   (refine wpAnyH_ready (rs:=[23,25]) (by decide +kernel) (by simp) ?_;refine AllReadyH.cons rfl (fun K hK=>?_) (AllReadyH.cons rfl (fun K hK=>?_) AllReadyH.nil))
   ·(rw [if_pos (by kernel_rfl)];go_simp)
    (refine hK.out _ _ (hHeld.alloc _) (fun hHeld=>?_);clear hK K;(try simp only [apS,apN,siA,scZ,scS]))
    (refine ratHx 25 (fun K hK=>?_);go_simp)
    (refine hK.out _ _ (hHeld.alloc _) (fun hHeld=>?_);clear hK K;(try simp only [apS,apN,siA,scZ,scS]))
    simp only [World.size_alloc] at *
    refine storeP 26 40 (.tmp 5) (.tmp 20) (Y.heap.size + 1) [.int .i64 pa.x,.int .i64 pa.y] l1.out hLb.out hHeld g1 rfl g0 (Ne.symm n01.out.symm) g2 (Ne.symm n12.out) (fun Z1 hHeld x5 x6 x7=>?_)
    refine storeP 27 40 (.tmp 6) (.tmp 24) (Y.heap.size) [.int .i64 pb.x,.int .i64 pb.y] l0.out hLb.out hHeld x6 rfl x5 n01.out.symm x7 (Ne.symm n02.out) (fun Z2 hHeld x6 x5 x7=>?_)
    refine storeP 28 40 (.tmp 7) (.tmp 32) (Y.heap.size + 1 + 1) [.int .i64 pc.x,.int .i64 pc.y] l2.out hLb.out hHeld x7 rfl x5 n12.out x6 n02.out (fun Z3 hHeld x7 x5 x6=>?_)
    refine wpAnyH_done (by kernel_rfl) ?_ _
    have hbe:=Lib.hid hHeld.bel
    go_wp2_with fail
    go_meet
    case rel=>exact ⟨_,_,_,rfl,rfl,rfl,x5,x6,x7,hbe⟩
   ·(rw [if_pos (by kernel_rfl)];go_simp)
    (refine hK.out _ _ (hHeld.alloc _) (fun hHeld=>?_);clear hK K;(try simp only [apS,apN,siA,scZ,scS]))
    (refine ratHx 23 (fun K hK=>?_);go_simp)
    (refine hK.out _ _ (hHeld.alloc _) (fun hHeld=>?_);clear hK K;(try simp only [apS,apN,siA,scZ,scS]))
    simp only [World.size_alloc] at *
    refine storeP 26 40 (.tmp 5) (.tmp 20) (Y.heap.size + 1 + 1) [.int .i64 pa.x,.int .i64 pa.y] l2.out hLb.out hHeld g2 rfl g0 (Ne.symm n02.out.symm) g1 (Ne.symm n12.out.symm) (fun Z1 hHeld x5 x6 x7=>?_)
    refine storeP 27 40 (.tmp 6) (.tmp 24) (Y.heap.size) [.int .i64 pb.x,.int .i64 pb.y] l0.out hLb.out hHeld x6 rfl x5 n02.out.symm x7 (Ne.symm n01.out) (fun Z2 hHeld x6 x5 x7=>?_)
    refine storeP 28 40 (.tmp 7) (.tmp 32) (Y.heap.size + 1) [.int .i64 pc.x,.int .i64 pc.y] l1.out hLb.out hHeld x7 rfl x5 n12.out.symm x6 n01.out (fun Z3 hHeld x7 x5 x6=>?_)
    refine wpAnyH_done (by kernel_rfl) ?_ _
    have hbe:=Lib.hid hHeld.bel
    go_wp2_with fail
    go_meet
    case rel=>exact ⟨_,_,_,rfl,rfl,rfl,x5,x6,x7,hbe⟩
  ·(rw [if_pos (by kernel_rfl)];go_simp)
   (refine hK.out _ _ (hHeld.alloc _) (fun hHeld=>?_);clear hK K;(try simp only [apS,apN,siA,scZ,scS]))
   (refine wpAnyH_ready (rs:=[23,24]) (by decide +kernel) (by simp) ?_;refine AllReadyH.cons rfl (fun K hK=>?_) (AllReadyH.cons rfl (fun K hK=>?_) AllReadyH.nil))
   ·(rw [if_pos (by kernel_rfl)];go_simp)
    (refine hK.out _ _ (hHeld.alloc _) (fun hHeld=>?_);clear hK K;(try simp only [apS,apN,siA,scZ,scS]))
    (refine ratHx 24 (fun K hK=>?_);go_simp)
    (refine hK.out _ _ (hHeld.alloc _) (fun hHeld=>?_);clear hK K;(try simp only [apS,apN,siA,scZ,scS]))
    simp only [World.size_alloc] at *
    refine storeP 26 40 (.tmp 5) (.tmp 20) (Y.heap.size + 1) [.int .i64 pa.x,.int .i64 pa.y] l1.out hLb.out hHeld g1 rfl g2 (Ne.symm n12.out) g0 (Ne.symm n01.out.symm) (fun Z1 hHeld x5 x6 x7=>?_)
    refine storeP 27 40 (.tmp 6) (.tmp 24) (Y.heap.size + 1 + 1) [.int .i64 pb.x,.int .i64 pb.y] l2.out hLb.out hHeld x6 rfl x5 n12.out x7 (Ne.symm n02.out.symm) (fun Z2 hHeld x6 x5 x7=>?_)
    refine storeP 28 40 (.tmp 7) (.tmp 32) (Y.heap.size) [.int .i64 pc.x,.int .i64 pc.y] l0.out hLb.out hHeld x7 rfl x5 n01.out.symm x6 n02.out.symm (fun Z3 hHeld x7 x5 x6=>?_)
    refine wpAnyH_done (by kernel_rfl) ?_ _
    have hbe:=Lib.hid hHeld.bel
    go_wp2_with fail
    go_meet
    case rel=>exact ⟨_,_,_,rfl,rfl,rfl,x5,x6,x7,hbe⟩
   ·(rw [if_pos (by kernel_rfl)];go_simp)
    (refine hK.out _ _ (hHeld.alloc _) (fun hHeld=>?_);clear hK K;(try simp only [apS,apN,siA,scZ,scS]))
    (refine ratHx 23 (fun K hK=>?_);go_simp)
    (refine hK.out _ _ (hHeld.alloc _) (fun hHeld=>?_);clear hK K;(try simp only [apS,apN,siA,scZ,scS]))
    simp only [World.size_alloc] at *
    refine storeP 26 40 (.tmp 5) (.tmp 20) (Y.heap.size + 1 + 1) [.int .i64 pa.x,.int .i64 pa.y] l2.out hLb.out hHeld g2 rfl g1 (Ne.symm n12.out.symm) g0 (Ne.symm n02.out.symm) (fun Z1 hHeld x5 x6 x7=>?_)
    refine storeP 27 40 (.tmp 6) (.tmp 24) (Y.heap.size + 1) [.int .i64 pb.x,.int .i64 pb.y] l1.out hLb.out hHeld x6 rfl x5 n12.out.symm x7 (Ne.symm n01.out.symm) (fun Z2 hHeld x6 x5 x7=>?_)
    refine storeP 28 40 (.tmp 7) (.tmp 32) (Y.heap.size) [.int .i64 pc.x,.int .i64 pc.y] l0.out hLb.out hHeld x7 rfl x5 n02.out.symm x6 n01.out.symm (fun Z3 hHeld x7 x5 x6=>?_)
    refine wpAnyH_done (by kernel_rfl) ?_ _
    have hbe:=Lib.hid hHeld.bel
    go_wp2_with fail
    go_meet
    case rel=>exact ⟨_,_,_,rfl,rfl,rfl,x5,x6,x7,hbe⟩
 case rest =>
  obtain ⟨B5,B6,B7,rfl,rfl,rfl,h5,h6,h7,hb⟩:=hcut
  clear a0 a1 b0 b1 c0 c1 q1 q2 q3 q4 q5 q6 q7 q1b q2b q4b
  have x0:=h5.out.c 0 _ rfl
  have x1:=h5.out.c 1 _ rfl
  have y0:=h6.out.c 0 _ rfl
  have y1:=h6.out.c 1 _ rfl
  have z0:=h7.out.c 0 _ rfl
  have z1:=h7.out.c 1 _ rfl
  by_cases hX : X ≤ 0
  ·by_cases hX0 : X = 0
   ·have hRe : Hid (R = 0):=by show _ = _;rw [hRR.out,if_pos hX,if_pos hX0]
    clear hRR hwh hinE
    go_wp2_with (go_at_call 91;refine (hcr.out _).mono ?_;rintro e w1 ⟨rfl,hb1⟩;have hbz:=Lib.hid (below_step hb.out hb1);clear hb1)
    go_ret
    exact ⟨by rw [hRe.out];rfl,hbz.out⟩
   ·have hRe : Hid (R = -1):=by show _ = _;rw [hRR.out,if_pos hX,if_neg hX0]
    clear hRR hwh hinE
    go_wp2_with (go_at_call 91;refine (hcr.out _).mono ?_;rintro e w1 ⟨rfl,hb1⟩;have hbz:=Lib.hid (below_step hb.out hb1);clear hb1)
    go_ret
    exact ⟨by rw [hRe.out];rfl,hbz.out⟩
  ·replace hRR : Hid (R = if (List.range ps.length).any (Cal.inEar ps i) = true then -1 else 1):=by show _ = _;rw [hRR.out,if_neg hX]
   go_wp2_with (go_at_call 91;refine (hcr.out _).mono ?_;rintro e w1 ⟨rfl,hb1⟩;replace h5:=Lib.hid (h5.out.below hb1);replace h6:=Lib.hid (h6.out.below hb1);replace h7:=Lib.hid (h7.out.below hb1);replace hb:=Lib.hid (below_step hb.out hb1);clear hb1 x0 x1 y0 y1 z0 z1)
   clear hcr
   go_loopw [9] (fun kv wr=>∃ k : Nat,k ≤ ps.length ∧ kv = .int .i64 k ∧ Hid (∀ j,j < k → Cal.inEar ps i j = false) ∧ Hid (BoxAt wr B5 [.int .i64 pa.x,.int .i64 pa.y]) ∧ Hid (BoxAt wr B6 [.int .i64 pb.x,.int .i64 pb.y]) ∧ Hid (BoxAt wr B7 [.int .i64 pc.x,.int .i64 pc.y]) ∧ Hid (Below w.heap.size w wr)) (fun kv _=>ps.length - (intOf kv).toNat)
   case atStart=>exact ⟨0,Nat.zero_le _,rfl,fun j h=>by omega,h5,h6,h7,hb⟩
   case round =>
    clear h5 h6 h7 hb
    obtain ⟨k,hk,rfl,hno,h5,h6,h7,hb⟩:=hrel
    by_cases hlt : k < ps.length
    ·obtain ⟨b9,o9,hA9,_,e0,e1⟩:=pts_at (hP.out.below hb.out).rows (List.getElem?_eq_getElem hlt)
     cases hA9
     have hqs : Hid (SmP ps[k]):=hP.out.sm _ (List.getElem_mem hlt)
     have hin:=hinE.out k hlt
     have hki : (k : Int) < (ps.length : Int):=by omega
     have x0:=h5.out.c 0 _ rfl
     have x1:=h5.out.c 1 _ rfl
     have y0:=h6.out.c 0 _ rfl
     have y1:=h6.out.c 1 _ rfl
     have z0:=h7.out.c 0 _ rfl
     have z1:=h7.out.c 1 _ rfl
     generalize ps[k] = q at *
     have n1:=pt_neq q pa
     have n2:=pt_neq q pb
     have n3:=pt_neq q pc
     have next : Cal.inEar ps i k = false → Hid (∀ j,j < k + 1 → Cal.inEar ps i j = false):=fun h j hj=>by
      rcases Nat.lt_succ_iff_lt_or_eq.1 hj with h' | h'
      ·exact hno.out j h'
      ·rw [h'];exact h
     cases t1 : ptB q pa
     ·rw [t1] at n1 hin
      cases t2 : ptB q pb
      ·rw [t2] at n2 hin
       cases t3 : ptB q pc
       ·rw [t3] at n3 hin
        clear t1 t2 t3
        obtain ⟨Z,hZ⟩ : ∃ Z,Cal.whereP [pa,pb,pc] q = Z:=⟨_,rfl⟩
        replace hwh:=Lib.hid (fun W B (hr : RowsAt W (some ⟨B,0,none⟩) 2 ([pa,pb,pc].map ptR)) (hB : B < W.heap.size)=>hwh.out W B q hqs.out hr hB)
        rw [hZ] at hwh hin
        clear hZ
        by_cases hz : 0 ≤ Z
        ·have hRe : Hid (R = -1):=by
          show _ = _
          rw [hRR.out,if_pos]
          exact List.any_eq_true.2 ⟨k,List.mem_range.2 hlt,by rw [hin,decide_eq_true hz];rfl⟩
         clear next hin hno hRR hinE h5 h6 h7
         go_wp2_with fail
         refine wp_region_held_drew (S:=Sx wr [(b,o + k * 2,.int .i64 q.x),(b,o + k * 2 + 1,.int .i64 q.y),(B5,0,.int .i64 pa.x),(B5,1,.int .i64 pa.y),(B6,0,.int .i64 pb.x),(B6,1,.int .i64 pb.y),(B7,0,.int .i64 pc.x),(B7,1,.int .i64 pc.y)]) (by kernel_rfl) (Sx.mk (by simp only [cs_iff_cons];exact ⟨e0,e1,x0,x1,y0,y1,z0,z1,cs_nil _⟩) (Below.refl _ _)).drew (fun hHeld=>?_)
         clear e0 e1 x0 x1 y0 y1 z0 z1
         generalize wr.drew = Y at *
         refine tkHx 0 47 ?_
         refine tkHx 1 48 ?_
         refine tkHx 2 49 ?_
         refine tkHx 3 50 ?_
         refine tkHx 4 51 ?_
         refine tkHx 5 52 ?_
         refine tkHx 6 53 ?_
         refine tkHx 7 54 ?_
         refine tkHx 8 55 ?_
         refine tkHx 9 56 ?_
         refine tkHx 10 57 ?_
         refine tkHx 11 58 ?_
         refine tkHx 12 59 ?_
         refine tkHx 13 60 ?_
         refine tkHx 14 61 ?_
         refine tkHx 15 62 ?_
         refine tkHx 16 63 ?_
         refine tkHx 17 64 ?_
         refine tkHx 18 65 ?_
         refine tkHx 19 66 ?_
         refine tkHx 20 67 ?_
         refine tkHx 21 68 ?_
         refine tkHx 22 69 ?_
         refine tkHx 23 70 ?_
         refine tkHx 24 71 ?_
         refine tkHx 25 72 ?_
         refine tkHx 27 74 ?_
         refine tkHx 28 75 ?_
         refine tkHx 29 76 ?_
         refine tkHx 30 77 ?_
         (refine ratHx 26 (fun K hK=>?_);go_simp)
         refine hK.out _ _ (hHeld.alloc _) (fun hHeld=>?_)
         clear hK K
         (try simp only [apS,apN,siA,scZ,scS])
         have hrw:=Lib.hid (rows_new (m:=2) Y ([pa,pb,pc].map ptR) (fun r hr=>by obtain ⟨p,_,rfl⟩:=List.mem_map.1 hr;rfl) #[.int .i64 pa.x,.int .i64 pa.y,.int .i64 pb.x,.int .i64 pb.y,.int .i64 pc.x,.int .i64 pc.y] rfl 40)
         have hwc:=Lib.hid (hwh.out _ _ hrw.out (by rw [World.size_alloc];exact Nat.lt_succ_self _))
         (refine ratHx 31 (fun K hK=>?_);go_simp)
         refine hwc.out.mono ?_
         rintro e wn ⟨rfl,hbn⟩
         go_simp
         (refine hK.out _ _ (hHeld.step hbn) (fun hHeld=>?_);clear hK K;(try simp only [apS,apN,siA,scZ,scS]))
         (try simp only [apS,apN,siA,scZ,scS])
         refine tkHx 32 79 ?_
         refine tkHx 33 80 ?_
         refine wpAnyH_done (by kernel_rfl) ?_ _
         (try simp only [apS,apN,siA,scZ,scS])
         have hbe:=Lib.hid (below_step hb.out hHeld.bel)
         clear hHeld
         go_wp2_with fail
         go_ret
         exact ⟨by rw [hRe.out];rfl,hbe.out⟩
        ·have hno2:=next (by rw [hin,decide_eq_false hz];rfl)
         clear next hin hno
         go_wp2_with fail
         refine wp_region_held_drew (S:=Sx wr [(b,o + k * 2,.int .i64 q.x),(b,o + k * 2 + 1,.int .i64 q.y),(B5,0,.int .i64 pa.x),(B5,1,.int .i64 pa.y),(B6,0,.int .i64 pb.x),(B6,1,.int .i64 pb.y),(B7,0,.int .i64 pc.x),(B7,1,.int .i64 pc.y)]) (by kernel_rfl) (Sx.mk (by simp only [cs_iff_cons];exact ⟨e0,e1,x0,x1,y0,y1,z0,z1,cs_nil _⟩) (Below.refl _ _)).drew (fun hHeld=>?_)
         clear e0 e1 x0 x1 y0 y1 z0 z1
         generalize wr.drew = Y at *
         refine tkHx 0 47 ?_
         refine tkHx 1 48 ?_
         refine tkHx 2 49 ?_
         refine tkHx 3 50 ?_
         refine tkHx 4 51 ?_
         refine tkHx 5 52 ?_
         refine tkHx 6 53 ?_
         refine tkHx 7 54 ?_
         refine tkHx 8 55 ?_
         refine tkHx 9 56 ?_
         refine tkHx 10 57 ?_
         refine tkHx 11 58 ?_
         refine tkHx 12 59 ?_
         refine tkHx 13 60 ?_
         refine tkHx 14 61 ?_
         refine tkHx 15 62 ?_
         refine tkHx 16 63 ?_
         refine tkHx 17 64 ?_
         refine tkHx 18 65 ?_
         refine tkHx 19 66 ?_
         refine tkHx 20 67 ?_
         refine tkHx 21 68 ?_
         refine tkHx 22 69 ?_
         refine tkHx 23 70 ?_
         refine tkHx 24 71 ?_
         refine tkHx 25 72 ?_
         refine tkHx 27 74 ?_
         refine tkHx 28 75 ?_
         refine tkHx 29 76 ?_
         refine tkHx 30 77 ?_
         (refine ratHx 26 (fun K hK=>?_);go_simp)
         refine hK.out _ _ (hHeld.alloc _) (fun hHeld=>?_)
         clear hK K
         (try simp only [apS,apN,siA,scZ,scS])
         have hrw:=Lib.hid (rows_new (m:=2) Y ([pa,pb,pc].map ptR) (fun r hr=>by obtain ⟨p,_,rfl⟩:=List.mem_map.1 hr;rfl) #[.int .i64 pa.x,.int .i64 pa.y,.int .i64 pb.x,.int .i64 pb.y,.int .i64 pc.x,.int .i64 pc.y] rfl 40)
         have hwc:=Lib.hid (hwh.out _ _ hrw.out (by rw [World.size_alloc];exact Nat.lt_succ_self _))
         (refine ratHx 31 (fun K hK=>?_);go_simp)
         refine hwc.out.mono ?_
         rintro e wn ⟨rfl,hbn⟩
         go_simp
         (refine hK.out _ _ (hHeld.step hbn) (fun hHeld=>?_);clear hK K;(try simp only [apS,apN,siA,scZ,scS]))
         (try simp only [apS,apN,siA,scZ,scS])
         refine tkHx 32 79 ?_
         refine tkHx 33 80 ?_
         refine wpAnyH_done (by kernel_rfl) ?_ _
         (try simp only [apS,apN,siA,scZ,scS])
         have hbe:=Lib.hid (below_step hb.out hHeld.bel)
         have g5:=Lib.hid (h5.out.below hHeld.bel)
         have g6:=Lib.hid (h6.out.below hHeld.bel)
         have g7:=Lib.hid (h7.out.below hHeld.bel)
         clear hHeld
         go_wp2_with fail
         go_roundw
         case rel=>exact ⟨k + 1,by omega,by go_num,hno2,g5,g6,g7,hbe⟩
         case measure=>simp [intOf];omega
       ·rw [t3] at n3 hin
        have hno2:=next (by rw [hin];rfl)
        clear next hin hno t1 t2 t3 hwh
        go_wp2_with fail
        refine wp_region_held_drew (S:=Sx wr [(b,o + k * 2,.int .i64 q.x),(b,o + k * 2 + 1,.int .i64 q.y),(B5,0,.int .i64 pa.x),(B5,1,.int .i64 pa.y),(B6,0,.int .i64 pb.x),(B6,1,.int .i64 pb.y),(B7,0,.int .i64 pc.x),(B7,1,.int .i64 pc.y)]) (by kernel_rfl) (Sx.mk (by simp only [cs_iff_cons];exact ⟨e0,e1,x0,x1,y0,y1,z0,z1,cs_nil _⟩) (Below.refl _ _)).drew (fun hHeld=>?_)
        clear e0 e1 x0 x1 y0 y1 z0 z1
        refine tkHx 0 47 ?_
        refine tkHx 1 48 ?_
        refine tkHx 2 49 ?_
        refine tkHx 3 50 ?_
        refine tkHx 4 51 ?_
        refine tkHx 5 52 ?_
        refine tkHx 6 53 ?_
        refine tkHx 7 54 ?_
        refine tkHx 8 55 ?_
        refine tkHx 9 56 ?_
        refine tkHx 10 57 ?_
        refine tkHx 11 58 ?_
        refine tkHx 12 59 ?_
        refine tkHx 13 60 ?_
        refine tkHx 14 61 ?_
        refine tkHx 15 62 ?_
        refine tkHx 16 63 ?_
        refine tkHx 17 64 ?_
        refine tkHx 18 65 ?_
        refine tkHx 19 66 ?_
        refine tkHx 20 67 ?_
        refine tkHx 21 68 ?_
        refine tkHx 22 69 ?_
        refine tkFx 23 70 ?_
        refine tkFx 24 71 ?_
        refine tkFx 25 72 ?_
        refine tkFx 26 73 ?_
        refine tkFx 27 74 ?_
        refine tkFx 28 75 ?_
        refine tkFx 29 76 ?_
        refine tkFx 30 77 ?_
        refine tkFx 31 78 ?_
        refine tkFx 32 79 ?_
        refine tkHx 33 80 ?_
        refine wpAnyH_done (by kernel_rfl) ?_ _
        (try simp only [apS,apN,siA,scZ,scS])
        have hbe:=Lib.hid (below_step hb.out hHeld.bel)
        have g5:=Lib.hid (h5.out.below hHeld.bel)
        have g6:=Lib.hid (h6.out.below hHeld.bel)
        have g7:=Lib.hid (h7.out.below hHeld.bel)
        clear hHeld
        go_wp2_with fail
        go_roundw
        case rel=>exact ⟨k + 1,by omega,by go_num,hno2,g5,g6,g7,hbe⟩
        case measure=>simp [intOf];omega
      ·rw [t2] at n2 hin
       have hno2:=next (by rw [hin];rfl)
       clear next hin hno t1 t2 n3 hwh
       go_wp2_with fail
       refine wp_region_held_drew (S:=Sx wr [(b,o + k * 2,.int .i64 q.x),(b,o + k * 2 + 1,.int .i64 q.y),(B5,0,.int .i64 pa.x),(B5,1,.int .i64 pa.y),(B6,0,.int .i64 pb.x),(B6,1,.int .i64 pb.y),(B7,0,.int .i64 pc.x),(B7,1,.int .i64 pc.y)]) (by kernel_rfl) (Sx.mk (by simp only [cs_iff_cons];exact ⟨e0,e1,x0,x1,y0,y1,z0,z1,cs_nil _⟩) (Below.refl _ _)).drew (fun hHeld=>?_)
       clear e0 e1 x0 x1 y0 y1 z0 z1
       refine tkHx 0 47 ?_
       refine tkHx 1 48 ?_
       refine tkHx 2 49 ?_
       refine tkHx 3 50 ?_
       refine tkHx 4 51 ?_
       refine tkHx 5 52 ?_
       refine tkHx 6 53 ?_
       refine tkHx 7 54 ?_
       refine tkHx 8 55 ?_
       refine tkHx 9 56 ?_
       refine tkHx 10 57 ?_
       refine tkHx 11 58 ?_
       refine tkHx 12 59 ?_
       refine tkHx 13 60 ?_
       refine tkHx 14 61 ?_
       refine tkFx 15 62 ?_
       refine tkFx 16 63 ?_
       refine tkFx 17 64 ?_
       refine tkFx 18 65 ?_
       refine tkFx 19 66 ?_
       refine tkFx 20 67 ?_
       refine tkHx 21 68 ?_
       refine tkHx 22 69 ?_
       refine tkFx 23 70 ?_
       refine tkFx 24 71 ?_
       refine tkFx 25 72 ?_
       refine tkFx 26 73 ?_
       refine tkFx 27 74 ?_
       refine tkFx 28 75 ?_
       refine tkFx 29 76 ?_
       refine tkFx 30 77 ?_
       refine tkFx 31 78 ?_
       refine tkFx 32 79 ?_
       refine tkHx 33 80 ?_
       refine wpAnyH_done (by kernel_rfl) ?_ _
       (try simp only [apS,apN,siA,scZ,scS])
       have hbe:=Lib.hid (below_step hb.out hHeld.bel)
       have g5:=Lib.hid (h5.out.below hHeld.bel)
       have g6:=Lib.hid (h6.out.below hHeld.bel)
       have g7:=Lib.hid (h7.out.below hHeld.bel)
       clear hHeld
       go_wp2_with fail
       go_roundw
       case rel=>exact ⟨k + 1,by omega,by go_num,hno2,g5,g6,g7,hbe⟩
       case measure=>simp [intOf];omega
     ·rw [t1] at n1 hin
      have hno2:=next (by rw [hin];rfl)
      clear next hin hno t1 n2 n3 hwh
      go_wp2_with fail
      refine wp_region_held_drew (S:=Sx wr [(b,o + k * 2,.int .i64 q.x),(b,o + k * 2 + 1,.int .i64 q.y),(B5,0,.int .i64 pa.x),(B5,1,.int .i64 pa.y),(B6,0,.int .i64 pb.x),(B6,1,.int .i64 pb.y),(B7,0,.int .i64 pc.x),(B7,1,.int .i64 pc.y)]) (by kernel_rfl) (Sx.mk (by simp only [cs_iff_cons];exact ⟨e0,e1,x0,x1,y0,y1,z0,z1,cs_nil _⟩) (Below.refl _ _)).drew (fun hHeld=>?_)
      clear e0 e1 x0 x1 y0 y1 z0 z1
      refine tkHx 0 47 ?_
      refine tkHx 1 48 ?_
      refine tkHx 2 49 ?_
      refine tkHx 3 50 ?_
      refine tkHx 4 51 ?_
      refine tkHx 5 52 ?_
      refine tkHx 6 53 ?_
      refine tkFx 7 54 ?_
      refine tkFx 8 55 ?_
      refine tkFx 9 56 ?_
      refine tkFx 10 57 ?_
      refine tkFx 11 58 ?_
      refine tkFx 12 59 ?_
      refine tkHx 13 60 ?_
      refine tkHx 14 61 ?_
      refine tkFx 15 62 ?_
      refine tkFx 16 63 ?_
      refine tkFx 17 64 ?_
      refine tkFx 18 65 ?_
      refine tkFx 19 66 ?_
      refine tkFx 20 67 ?_
      refine tkHx 21 68 ?_
      refine tkHx 22 69 ?_
      refine tkFx 23 70 ?_
      refine tkFx 24 71 ?_
      refine tkFx 25 72 ?_
      refine tkFx 26 73 ?_
      refine tkFx 27 74 ?_
      refine tkFx 28 75 ?_
      refine tkFx 29 76 ?_
      refine tkFx 30 77 ?_
      refine tkFx 31 78 ?_
      refine tkFx 32 79 ?_
      refine tkHx 33 80 ?_
      refine wpAnyH_done (by kernel_rfl) ?_ _
      (try simp only [apS,apN,siA,scZ,scS])
      have hbe:=Lib.hid (below_step hb.out hHeld.bel)
      have g5:=Lib.hid (h5.out.below hHeld.bel)
      have g6:=Lib.hid (h6.out.below hHeld.bel)
      have g7:=Lib.hid (h7.out.below hHeld.bel)
      clear hHeld
      go_wp2_with fail
      go_roundw
      case rel=>exact ⟨k + 1,by omega,by go_num,hno2,g5,g6,g7,hbe⟩
      case measure=>simp [intOf];omega
    ·obtain rfl : k = ps.length:=by omega
     have hRe : Hid (R = 1):=by
      show _ = _
      rw [hRR.out,if_neg]
      rw [List.any_eq_true]
      rintro ⟨j,hj,h⟩
      rw [hno.out j (List.mem_range.1 hj)] at h
      cases h
     go_wp2_with fail
     go_ret
     exact ⟨by rw [hRe.out];rfl,hb.out⟩
end Go.Proofs.Ythfokpchdlcidaa
namespace Go.Proofs.Ythfokpchdlcidaa
open Go Go.RowKit Go.Shelf
theorem elemTrs : Elem Try.prog 120 35 1 24:=Elem.mk' Try.underlying120 (z:=.slice none 0 0) (by kernel_rfl) rfl (by decide)
def triV (g : Nat) : List Value:=[.slice (some ⟨g,0,none⟩) 3 3]
structure TrsO (w : World) (B : Nat) (v : Value) (T : List (List Pt)) (gs : List Nat) : Prop where
 own : OwnL w B 35 1 v (gs.map triV)
 len : gs.length = T.length
 row : ∀ (i g : Nat) (t : List Pt),gs[i]? = some g → T[i]? = some t → RowsAt w (some ⟨g,0,none⟩) 2 (t.map ptR) ∧ g < w.heap.size ∧ v.ownBlock ≠ some g
structure TrsR (w : World) (A : Option Addr) (T : List (List Pt)) (gs : List Nat) : Prop where
 rows : RowsAt w A 1 (gs.map triV)
 len : gs.length = T.length
 row : ∀ (i g : Nat) (t : List Pt),gs[i]? = some g → T[i]? = some t → RowsAt w (some ⟨g,0,none⟩) 2 (t.map ptR) ∧ g < w.heap.size
theorem TrsR.below {w w' : World} {A : Option Addr} {T : List (List Pt)} {gs : List Nat} (h : TrsR w A T gs) (hb : Below w.heap.size w w') : TrsR w' A T gs :=
 ⟨h.rows.below hb,h.len,fun i g t h1 h2=>⟨(h.row i g t h1 h2).1.below hb,Nat.lt_of_lt_of_le (h.row i g t h1 h2).2 hb.size⟩⟩
theorem TrsO.nil (w : World) (B : Nat) : TrsO w B (.slice none 0 0) [] []:=⟨OwnL.nil _ _ _ _,rfl,fun i g t h=>by simp at h⟩
theorem TrsO.below {w w' : World} {B : Nat} {v : Value} {T : List (List Pt)} {gs : List Nat} (h : TrsO w B v T gs) (hb : Below w.heap.size w w') : TrsO w' B v T gs :=
 ⟨h.own.below hb,h.len,fun i g t h1 h2=>⟨(h.row i g t h1 h2).1.below hb,Nat.lt_of_lt_of_le (h.row i g t h1 h2).2.1 hb.size,(h.row i g t h1 h2).2.2⟩⟩
theorem TrsO.read {w : World} {B : Nat} {v : Value} {T : List (List Pt)} {gs : List Nat} (h : TrsO w B v T gs) : ∃ A c,v = .slice A T.length c ∧ TrsR w A T gs:=by
 obtain ⟨A,c,e,hr⟩:=h.own.form
 rw [List.length_map,h.len] at e
 exact ⟨A,c,e,hr,h.len,fun i g t h1 h2=>⟨(h.row i g t h1 h2).1,(h.row i g t h1 h2).2.1⟩⟩
theorem TrsR.at_ {w : World} {A : Option Addr} {T : List (List Pt)} {gs : List Nat} (h : TrsR w A T gs) {i : Nat} {t : List Pt} (hi : T[i]? = some t) :
  ∃ b o g,A = some ⟨b,o,none⟩ ∧ b < w.heap.size ∧ w.cell? ⟨b,o + i,none⟩ = some (.slice (some ⟨g,0,none⟩) 3 3) ∧ RowsAt w (some ⟨g,0,none⟩) 2 (t.map ptR) ∧ g < w.heap.size:=by
 have hl : i < gs.length:=by rw [h.len];exact (List.getElem?_eq_some_iff.1 hi).1
 have hg : gs[i]? = some gs[i]:=List.getElem?_eq_getElem hl
 obtain ⟨b,o,hA,hb,hc⟩:=h.rows i (triV gs[i]) (by rw [List.getElem?_map,hg];rfl)
 have:=hc 0 _ rfl
 simp only [Nat.mul_one,Nat.add_zero] at this
 exact ⟨b,o,gs[i],hA,hb,this,h.row i _ t hg hi⟩
theorem TrsO.push {w w' : World} {B g : Nat} {v v' : Value} {T : List (List Pt)} {gs : List Nat} {t : List Pt} (h : TrsO w B v T gs) (ht : RowsAt w (some ⟨g,0,none⟩) 2 (t.map ptR)) (hg0 : g < w.heap.size) (hne : v.ownBlock ≠ some g)
  (hown : OwnL w' B 35 1 v' (gs.map triV ++ [triV g])) (hg : w.grownBy w' v.ownBlock) (hob : v'.ownBlock = v.ownBlock ∨ v'.ownBlock = some w.heap.size) : TrsO w' B v' (T ++ [t]) (gs ++ [g]):=by
 have far : ∀ g',g' < w.heap.size → v.ownBlock ≠ some g' → v'.ownBlock ≠ some g':=fun g' h1 h2=>by
  rcases hob with e | e
  ·rw [e];exact h2
  ·rw [e];intro e2;have:=Option.some.inj e2;omega
 refine ⟨by rw [List.map_append];exact hown,by rw [List.length_append,List.length_append,h.len];rfl,fun i k q h1 h2=>?_⟩
 by_cases hl : i < gs.length
 ·rw [List.getElem?_append_left hl] at h1
  rw [List.getElem?_append_left (by rw [← h.len];exact hl)] at h2
  obtain ⟨a1,a2,a3⟩:=h.row i k q h1 h2
  exact ⟨a1.farI hg (fun a e=>by cases e;exact a3.symm),Nat.lt_of_lt_of_le a2 hg.size,far k a2 a3⟩
 ·have hi : i = gs.length:=by
   have:=(List.getElem?_eq_some_iff.1 h1).1
   rw [List.length_append,List.length_singleton] at this
   omega
  subst hi
  rw [List.getElem?_append_right (Nat.le_refl _),Nat.sub_self] at h1
  rw [List.getElem?_append_right (by rw [h.len];exact Nat.le_refl _),h.len,Nat.sub_self] at h2
  cases h1
  cases h2
  exact ⟨ht.farI hg (fun a e=>by cases e;exact hne.symm),Nat.lt_of_lt_of_le hg0 hg.size,far g hg0 hne⟩
theorem find_none {f : Nat → Bool} {n : Nat} (h : ∀ j,j < n → f j = false) : (List.range n).find? f = none:=by
 rw [List.find?_eq_none]
 intro x hx
 rw [h x (List.mem_range.1 hx)];decide
theorem find_first {f : Nat → Bool} {n k : Nat} (hk : k < n) (h1 : f k = true) (h2 : ∀ j,j < k → f j = false) : (List.range n).find? f = some k:=by
 rw [List.find?_eq_some_iff_append]
 refine ⟨h1,List.range k,(List.range' (k + 1) (n - (k + 1))),?_,fun a ha=>by rw [h2 a (List.mem_range.1 ha)];rfl⟩
 have e : n = k + (n - k):=by omega
 have e2 : n - k = (n - (k + 1)) + 1:=by omega
 conv=>lhs;rw [e,List.range_eq_range',← List.range'_append_1,e2,List.range'_succ]
 rw [List.range_eq_range',Nat.zero_add]
theorem trisR_none {q : List Pt} {f : Nat} (h2 : ¬ q.length ≤ 2) (h : ∀ j,j < q.length → decide (0 ≤ Cal.earR q j) = false) : Cal.trisR f q = []:=by
 cases f with
 | zero=>rfl
 | succ f =>
  unfold Cal.trisR
  rw [if_neg h2,show Cal.firstEar q = none from find_none h]
theorem trisR_some {q : List Pt} {f k : Nat} (h2 : ¬ q.length ≤ 2) (hk : k < q.length) (h1 : decide (0 ≤ Cal.earR q k) = true) (h : ∀ j,j < k → decide (0 ≤ Cal.earR q j) = false) (hf : 0 < f) :
  ∃ f',f = f' + 1 ∧ Cal.trisR f q = (if Cal.earR q k = 1 then [Cal.triAt q k] else []) ++ Cal.trisR f' (q.eraseIdx k):=by
 obtain ⟨f',rfl⟩ : ∃ f',f = f' + 1:=⟨f - 1,by omega⟩
 refine ⟨f',rfl,?_⟩
 conv=>lhs;unfold Cal.trisR
 rw [if_neg h2,show Cal.firstEar q = some k from find_first hk h1 h]
theorem earR_one_or {q : List Pt} {k : Nat} (h : decide (0 ≤ Cal.earR q k) = true) : Cal.earR q k = 1 ∨ Cal.earR q k = 0:=by
 have h:=of_decide_eq_true h
 unfold Cal.earR at h ⊢
 split
 ·split
  ·exact Or.inr rfl
  ·rename_i h1 h2;rw [if_pos h1,if_neg h2] at h;omega
 ·rename_i h1
  split
  ·rename_i h2;rw [if_neg h1,if_pos h2] at h;omega
  ·exact Or.inl rfl
theorem OwnL.capO {w : World} {B m n c : Nat} {E : TypeId} {A : Option Addr} {rows : List (List Value)} (h : OwnL w B E m (.slice A n c) rows) (hn : n = rows.length) : n ≤ c:=by
 rcases h.own.2 with ⟨h1,h2⟩ | ⟨g,cap,cur,h1,_,_,h2,_⟩
 ·simp only [Value.slice.injEq] at h1;omega
 ·simp only [Value.slice.injEq] at h1;omega
end Go.Proofs.Ythfokpchdlcidaa
