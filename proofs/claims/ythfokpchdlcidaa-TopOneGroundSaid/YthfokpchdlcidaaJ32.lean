/- What the statements rest on: definitions and walks, part 32. -/
import Derived.Test.YthfokpchdlcidaaJ31
set_option maxRecDepth 100000
set_option maxHeartbeats 16000000
set_option linter.unusedSimpArgs false
set_option linter.unusedVariables false
namespace Go.Proofs.Ythfokpchdlcidaa
open Go Go.RowKit Go.Shelf
theorem simpleR_no1 {ps : List Pt} {i : Nat} (hi : i < ps.length) (h : Cal.turnsR ps i = true) : Cal.simpleR ps = false:=by
 rw [← Bool.not_eq_true]
 intro hs
 unfold Cal.simpleR at hs
 have:=List.all_eq_true.1 hs i (List.mem_range.2 hi)
 rw [h] at this
 simp at this
theorem simpleR_no2 {ps : List Pt} {i k : Nat} (hi : i < ps.length) (hk : k < ps.length) (h : Cal.badK ps i k = true) : Cal.simpleR ps = false:=by
 rw [← Bool.not_eq_true]
 intro hs
 unfold Cal.simpleR at hs
 have:=List.all_eq_true.1 hs i (List.mem_range.2 hi)
 rw [Bool.and_eq_true] at this
 have:=List.all_eq_true.1 this.2 k (List.mem_range.2 hk)
 rw [h] at this
 simp at this
theorem simpleR_all {ps : List Pt} (h : ∀ i,i < ps.length → Cal.turnsR ps i = false ∧ ∀ j,j < ps.length → Cal.badK ps i j = false) : Cal.simpleR ps = true:=by
 unfold Cal.simpleR
 refine List.all_eq_true.2 fun i hi=>?_
 obtain ⟨h1,h2⟩:=h i (List.mem_range.1 hi)
 rw [h1,Bool.not_false,Bool.true_and]
 exact List.all_eq_true.2 fun k hk=>by rw [h2 k (List.mem_range.1 hk)];rfl
theorem CheckPolyR_any (V : Option Addr) (d : Nat) (ps : List Pt) (w : World) (hP : PtsR w V ps) : Calls Try.prog 42 #[.slice V ps.length d] w fun e w'=>e = .returned (.int .i64 (Cal.polyR ps)) ∧ Below w.heap.size w w':=by
 have hsz:=hP.size
 have hb0 : Hid (Below w.heap.size w w):=Below.refl _ _
 obtain ⟨E,hE⟩ : ∃ E,Cal.polyR ps = E:=⟨_,rfl⟩
 rw [hE]
 unfold Cal.polyR at hE
 have hW:=Lib.hid (fun W=>Within_any (ps.length : Int) 3 40 W)
 rcases Nat.lt_or_ge ps.length 3 with h1 | h1
 ·rw [if_pos (by omega)] at hE
  subst hE
  rw [show decide ((3 : Int) ≤ (ps.length : Int)) = false from by simp;omega] at hW
  rw [Bool.false_and] at hW
  go_enter Try.func42,Try.ntmps42
  go_wp2_with (go_at_call 30;refine (hW.out _).mono ?_;rintro e _ ⟨rfl,rfl⟩)
  go_ret
  exact ⟨rfl,hb0.out⟩
 rcases Nat.lt_or_ge 40 ps.length with h2 | h2
 ·rw [if_pos (by omega)] at hE
  subst hE
  rw [show decide ((ps.length : Int) ≤ 40) = false from by simp;omega] at hW
  rw [Bool.and_false] at hW
  go_enter Try.func42,Try.ntmps42
  go_wp2_with (go_at_call 30;refine (hW.out _).mono ?_;rintro e _ ⟨rfl,rfl⟩)
  go_ret
  exact ⟨rfl,hb0.out⟩
 rw [if_neg (by omega)] at hE
 rw [show (decide ((3 : Int) ≤ (ps.length : Int)) && decide ((ps.length : Int) ≤ 40)) = true from by simp;omega] at hW
 replace hE:=Lib.hid hE
 have hP:=Lib.hid hP
 go_enter Try.func42,Try.ntmps42
 go_wp2_with (go_at_call 30;refine (hW.out _).mono ?_;rintro e _ ⟨rfl,rfl⟩)
 go_loopw [3] (fun i wr=>∃ k : Nat,k ≤ ps.length ∧ i = .int .i64 k ∧ Hid (∀ j (hj : j < ps.length),j < k → Cal.ptErr ps[j] = 0) ∧ Hid (Below w.heap.size w wr)) (fun i _=>ps.length - (intOf i).toNat)
 case atStart=>exact ⟨0,Nat.zero_le _,rfl,fun j hj h=>by omega,hb0⟩
 case round =>
  clear hb0 hW
  obtain ⟨k,hk,rfl,hall,hb⟩:=hrel
  by_cases hlt : k < ps.length
  ·have hkg : ps[k]? = some ps[k]:=List.getElem?_eq_getElem hlt
   obtain ⟨b,o,rfl,hbl,e0,e1⟩:=pts_at (hP.out.below hb.out).rows hkg
   have hki : (k : Int) < (ps.length : Int):=by omega
   have hin:=Lib.hid (fun W=>InPlaceR_any ps[k] W)
   cases hx : inPl ps[k]
   ·have hE2 : Hid (E = 2):=by
     show _ = _
     have hne : Cal.ptErr ps[k] ≠ 0:=fun h=>by rw [(inPl_err _).2 h] at hx;cases hx
     have:=hE.out
     rw [if_neg (by rw [ptsErr_first ps k hlt (fun j hj=>hall.out j _ hj) hne];decide),ptsErr_first ps k hlt (fun j hj=>hall.out j _ hj) hne] at this
     exact this.symm
    rw [hx] at hin
    clear hx hkg
    generalize ps[k] = p at *
    go_wp2_with (go_at_call 16;refine (hin.out _).mono ?_;rintro e w1 ⟨rfl,hb1⟩;have hb2:=Lib.hid (below_step hb.out hb1);clear hb1)
    go_ret
    exact ⟨by rw [hE2.out];rfl,hb2.out⟩
   ·have hall2 : Hid (∀ j (hj : j < ps.length),j < k + 1 → Cal.ptErr ps[j] = 0):=fun j hj h=>by
     rcases Nat.lt_succ_iff_lt_or_eq.1 h with h | h
     ·exact hall.out j hj h
     ·subst h;exact (inPl_err _).1 hx
    rw [hx] at hin
    clear hx hkg hall
    generalize ps[k] = p at *
    go_wp2_with (go_at_call 16;refine (hin.out _).mono ?_;rintro e w1 ⟨rfl,hb1⟩;have hb2:=Lib.hid (below_step hb.out hb1);clear hb1)
    go_roundw
    case rel=>exact ⟨k + 1,hlt,by go_num,hall2,hb2⟩
    case measure=>simp [intOf];omega
  ·have hke : k = ps.length:=by omega
   have hz:=ptsErr_all ps (fun j hj=>hall.out j hj (by omega))
   have hsm:=Lib.hid (PtsR.pts hP.out hz)
   have hE:=hE.out
   rw [if_pos hz] at hE
   replace hE:=Lib.hid hE
   subst hke
   clear hz hall
   go_wp2_with fail
   go_loopw [4,5] (fun i kv wr=>∃ k : Nat,k ≤ ps.length ∧ i = .int .i64 k ∧ Hid (∀ i (hi : i < ps.length) j (hj : j < i),i < k → ps[j] ≠ ps[i]) ∧ Hid (Below w.heap.size w wr)) (fun i _ _=>ps.length - (intOf i).toNat)
   case atStart=>exact ⟨0,Nat.zero_le _,rfl,fun i hi j hj h=>by omega,hb⟩
   case round =>
    clear hb
    obtain ⟨i,hi,rfl,hall,hb⟩:=hrel
    by_cases hlt : i < ps.length
    ·go_wp2_with fail
     go_loopw [5] (fun kv wr=>∃ k : Nat,k ≤ i ∧ kv = .int .i64 k ∧ Hid (∀ j (hj : j < i),j < k → ps[j] ≠ ps[i]) ∧ Hid (Below w.heap.size w wr)) (fun kv _=>i - (intOf kv).toNat)
     case atStart=>exact ⟨0,Nat.zero_le _,rfl,fun j hj h=>by omega,hb⟩
     case round =>
      clear hb
      obtain ⟨k,hk,rfl,hin,hb⟩:=hrel
      by_cases hki : k < i
      ·have hkl : k < ps.length:=by omega
       obtain ⟨b,o,rfl,hbl,e0,e1⟩:=pts_at (hP.out.below hb.out).rows (List.getElem?_eq_getElem hlt)
       obtain ⟨b',o',hA,_,e2,e3⟩:=pts_at (hP.out.below hb.out).rows (List.getElem?_eq_getElem hkl)
       cases hA
       have hii : (i : Int) < (ps.length : Int):=by omega
       have hkk : (k : Int) < (ps.length : Int):=by omega
       by_cases heq : ps[k] = ps[i]
       ·have hE5 : Hid (E = 5):=by
         show _ = _
         have:=hE.out
         rw [if_pos (twiceP_hit hlt hki heq)] at this
         exact this.symm
        rw [heq] at e2 e3
        clear heq
        generalize ps[i] = pi at *
        go_wp2_with fail
        refine wp_region_held_drew (S:=Sx wr [(b,o + i * 2,.int .i64 pi.x),(b,o + i * 2 + 1,.int .i64 pi.y),(b,o + k * 2,.int .i64 pi.x),(b,o + k * 2 + 1,.int .i64 pi.y)]) (by kernel_rfl) (Sx.mk (by simp only [cs_iff_cons];exact ⟨e0,e1,e2,e3,cs_nil _⟩) (Below.refl _ _)).drew (fun hHeld=>?_)
        refine tkHx 0 37 ?_
        refine tkHx 1 38 ?_
        refine tkHx 2 39 ?_
        refine tkHx 3 40 ?_
        refine tkHx 4 41 ?_
        refine tkHx 5 42 ?_
        refine tkHx 6 43 ?_
        refine tkHx 7 44 ?_
        refine tkHx 8 45 ?_
        refine wpAnyH_done (by kernel_rfl) ?_ _
        (try simp only [apS,apN,siA,scZ,scS])
        go_wp2_with fail
        go_ret
        exact ⟨by rw [hE5.out];rfl,below_step hb.out hHeld.bel⟩
       ·have hin2 : Hid (∀ j (hj : j < i),j < k + 1 → ps[j] ≠ ps[i]):=fun j hj h=>by
         rcases Nat.lt_succ_iff_lt_or_eq.1 h with h | h
         ·exact hin.out j hj h
         ·subst h;exact heq
        generalize ps[k] = pk at *
        generalize ps[i] = pi at *
        obtain ⟨kx,ky⟩:=pk
        obtain ⟨ix,iy⟩:=pi
        dsimp only at *
        by_cases hx : kx = ix
        ·subst hx
         have hy : ¬ ky = iy:=fun h=>heq (by rw [h])
         clear heq hin
         go_wp2_with fail
         refine wp_region_held_drew (S:=Sx wr [(b,o + i * 2,.int .i64 kx),(b,o + i * 2 + 1,.int .i64 iy),(b,o + k * 2,.int .i64 kx),(b,o + k * 2 + 1,.int .i64 ky)]) (by kernel_rfl) (Sx.mk (by simp only [cs_iff_cons];exact ⟨e0,e1,e2,e3,cs_nil _⟩) (Below.refl _ _)).drew (fun hHeld=>?_)
         refine tkHx 0 37 ?_
         refine tkHx 1 38 ?_
         refine tkHx 2 39 ?_
         refine tkHx 3 40 ?_
         refine tkHx 4 41 ?_
         refine tkHx 5 42 ?_
         refine tkHx 6 43 ?_
         refine tkHx 7 44 ?_
         refine tkHx 8 45 ?_
         refine wpAnyH_done (by kernel_rfl) ?_ _
         (try simp only [apS,apN,siA,scZ,scS])
         have hb2:=Lib.hid (below_step hb.out hHeld.bel)
         clear hHeld
         go_wp2_with fail
         go_roundw
         case rel=>exact ⟨k + 1,hki,by go_num,hin2,hb2⟩
         case measure=>simp [intOf];omega
        ·clear heq hin
         go_wp2_with fail
         refine wp_region_held_drew (S:=Sx wr [(b,o + i * 2,.int .i64 ix),(b,o + i * 2 + 1,.int .i64 iy),(b,o + k * 2,.int .i64 kx),(b,o + k * 2 + 1,.int .i64 ky)]) (by kernel_rfl) (Sx.mk (by simp only [cs_iff_cons];exact ⟨e0,e1,e2,e3,cs_nil _⟩) (Below.refl _ _)).drew (fun hHeld=>?_)
         refine tkHx 0 37 ?_
         refine tkHx 1 38 ?_
         refine tkHx 2 39 ?_
         refine tkHx 3 40 ?_
         refine tkHx 4 41 ?_
         refine tkHx 5 42 ?_
         refine tkHx 6 43 ?_
         refine tkHx 7 44 ?_
         refine tkHx 8 45 ?_
         refine wpAnyH_done (by kernel_rfl) ?_ _
         (try simp only [apS,apN,siA,scZ,scS])
         have hb2:=Lib.hid (below_step hb.out hHeld.bel)
         clear hHeld
         go_wp2_with fail
         go_roundw
         case rel=>exact ⟨k + 1,hki,by go_num,hin2,hb2⟩
         case measure=>simp [intOf];omega
      ·have hall2 : Hid (∀ i' (hi : i' < ps.length) j (hj : j < i'),i' < i + 1 → ps[j] ≠ ps[i']):=fun i' hi' j hj h=>by
        rcases Nat.lt_succ_iff_lt_or_eq.1 h with h | h
        ·exact hall.out i' hi' j hj h
        ·subst h;exact hin.out j hj (by omega)
       have hke : k = i:=by omega
       subst hke
       clear hall hin
       go_wp2_with fail
       go_roundw
       case rel=>exact ⟨k + 1,hlt,by go_num,hall2,hb⟩
       case measure=>simp [intOf];omega
    ·have hke : i = ps.length:=by omega
     have hnt:=twiceP_pairs (ps:=ps) (fun i' hi' j hj=>hall.out i' hi' j hj (by omega))
     have hE:=hE.out
     rw [if_neg (by rw [hnt];decide)] at hE
     replace hE:=Lib.hid hE
     clear hnt hall
     subst hke
     go_wp2_with fail
     go_loopw [6,7,8,9] (fun iv _ _ _ wr=>∃ k : Nat,k ≤ ps.length ∧ iv = .int .i64 k ∧ Hid (∀ i,i < ps.length → i < k → Cal.turnsR ps i = false ∧ ∀ j,j < ps.length → Cal.badK ps i j = false) ∧ Hid (Below w.heap.size w wr)) (fun i _ _ _ _=>ps.length - (intOf i).toNat)
     case atStart=>exact ⟨0,Nat.zero_le _,rfl,fun i hi h=>by omega,hb⟩
     case round =>
      clear hb
      obtain ⟨i,hi,rfl,hall,hb⟩:=hrel
      by_cases hlt : i < ps.length
      ·obtain ⟨m,hm⟩ : ∃ m,m = (i + 1) % ps.length:=⟨_,rfl⟩
       have hmlt : m < ps.length:=by rw [hm];exact Nat.mod_lt _ (by omega)
       have hm1 : ((i : Int) + 1).tmod (ps.length : Int) = (m : Int):=by rw [hm];rfl
       have hi1 : IntKind.i64.wrap ((i : Int) + 1) = (i : Int) + 1:=wrap_small (by omega) (by omega)
       have hm2 : IntKind.i64.wrap (m : Int) = (m : Int):=wrap_small (by omega) (by omega)
       have hne : ¬ ps.length = 0:=by omega
       have hs1:=Lib.hid (fun W (h : Below wr.heap.size wr W)=>sideR_any V d ps i W ((hP.out.below hb.out).below h) hlt (by omega))
       have hs2:=Lib.hid (fun W (h : Below wr.heap.size wr W)=>sideR_any V d ps m W ((hP.out.below hb.out).below h) hmlt (by omega))
       have hS:=hsm.out.sd i hlt
       have hT:=hsm.out.sd m hmlt
       have htn : Hid (Cal.turnsR ps i = (Cal.hasP (Cal.sd ps i) (Cal.sd ps m).b || Cal.hasP (Cal.sd ps m) (Cal.sd ps i).a)):=by show _ = _;unfold Cal.turnsR;rw [hm]
       have hbk : Hid (∀ j,Cal.badK ps i j = (decide (i + 1 < j) && ((j + 1) % ps.length != i) && Cal.meetS (Cal.sd ps i) (Cal.sd ps j))):=fun j=>rfl
       generalize hsi : Cal.sd ps i = s at *
       generalize hsm' : Cal.sd ps m = t at *
       clear hsi hsm'
       have hii : (i : Int) < (ps.length : Int):=by omega
       clear hm
       go_wp2_with fail
       go_cut [7,8] from 52 to 61 (fun x7 x8 wc=>∃ B7 B8,x7 = .pointer (some ⟨B7,0,none⟩) ∧ x8 = .pointer (some ⟨B8,0,none⟩) ∧ Hid (BoxAt wc B7 [.int .i64 s.a.x,.int .i64 s.a.y,.int .i64 s.b.x,.int .i64 s.b.y]) ∧ Hid (BoxAt wc B8 [.int .i64 t.a.x,.int .i64 t.a.y,.int .i64 t.b.x,.int .i64 t.b.y]) ∧ Hid (Below wr.heap.size wr wc))
       case first =>
        refine wp_region_held_drew (S:=Sx wr []) (by kernel_rfl) (Sx.mk (cs_nil _) (Below.refl _ _)).drew (fun hHeld=>?_)
        generalize wr.drew = Y at *
        refine tkHx 0 52 ?_
        refine tkHx 1 53 ?_
        refine tkHx 3 55 ?_
        refine tkHx 4 56 ?_
        refine tkHx 5 57 ?_
        refine tkHx 6 58 ?_
        refine tkHx 7 59 ?_
        refine tkHx 8 60 ?_
        (try simp only [apS,apN,siA,scZ,scS])
        (refine wpAnyH_ready (rs:=[2,10,11]) (by decide +kernel) (by simp) ?_;refine AllReadyH.cons rfl (fun K hK=>?_) (AllReadyH.cons rfl (fun K hK=>?_) (AllReadyH.cons rfl (fun K hK=>?_) AllReadyH.nil)))
        ·skip
         (rw [if_pos (by kernel_rfl)];go_simp)
         refine (hs1.out _ hHeld.bel).mono ?_
         rintro e wn ⟨rfl,hbn⟩
         go_simp
         refine hK.out _ _ (hHeld.step hbn) (fun hHeld=>?_)
         clear hK K
         (try simp only [apS,apN,siA,scZ,scS])
         (refine wpAnyH_ready (rs:=[9,10,11]) (by decide +kernel) (by simp) ?_;refine AllReadyH.cons rfl (fun K hK=>?_) (AllReadyH.cons rfl (fun K hK=>?_) (AllReadyH.cons rfl (fun K hK=>?_) AllReadyH.nil)))
         ·skip
          (rw [if_pos (by kernel_rfl)];go_simp)
          refine (hs2.out _ hHeld.bel).mono ?_
          rintro e wn ⟨rfl,hbn⟩
          go_simp
          refine hK.out _ _ (hHeld.step hbn) (fun hHeld=>?_)
          clear hK K
          (try simp only [apS,apN,siA,scZ,scS])
          (refine wpAnyH_ready (rs:=[10,11]) (by decide +kernel) (by simp) ?_;refine AllReadyH.cons rfl (fun K hK=>?_) (AllReadyH.cons rfl (fun K hK=>?_) AllReadyH.nil))
          ·skip
           (rw [if_pos (by kernel_rfl)];go_simp)
           have hH0:=hHeld
           refine hK.out _ _ (hHeld.alloc _) (fun hHeld=>?_)
           have x7:=Lib.hid (newBox hHeld)
           have x7l:=Lib.hid (ltBox hH0 hHeld)
           clear hH0
           clear hK K
           (try simp only [apS,apN,siA,scZ,scS])
           (refine ratHx 11 (fun K hK=>?_);go_simp)
           have hH0:=hHeld
           refine hK.out _ _ (hHeld.alloc _) (fun hHeld=>?_)
           have x8:=Lib.hid (newBox hHeld)
           have x8l:=Lib.hid (ltBox hH0 hHeld)
           have ne78:=Lib.hid (Nat.ne_of_lt x7.out.lt)
           replace x7:=Lib.hid (oldBox hHeld x7.out)
           clear hH0
           clear hK K
           (try simp only [apS,apN,siA,scZ,scS])
           (try simp only [World.size_alloc] at x7 x8 x7l x8l ne78)
           refine storeP 12 72 (.tmp 7) (.tmp 54) _ [.int .i64 s.a.x,.int .i64 s.a.y,.int .i64 s.b.x,.int .i64 s.b.y] x7l.out (fun x hx=>by cases hx) hHeld x7 rfl x8 (Ne.symm ne78.out) x8 (Ne.symm ne78.out) (fun Z2 hHeld x7 x8 _=>?_)
           refine storeP 13 72 (.tmp 8) (.tmp 61) _ [.int .i64 t.a.x,.int .i64 t.a.y,.int .i64 t.b.x,.int .i64 t.b.y] x8l.out (fun x hx=>by cases hx) hHeld x8 rfl x7 ne78.out x7 ne78.out (fun Z3 hHeld x8 x7 _=>?_)
           refine wpAnyH_done (by kernel_rfl) ?_ _
           have hbe:=Lib.hid hHeld.bel
           clear hHeld
           go_wp2_with fail
           go_meet
           case rel=>exact ⟨_,_,rfl,rfl,x7,x8,hbe⟩
          ·skip
           (rw [if_pos (by kernel_rfl)];go_simp)
           have hH0:=hHeld
           refine hK.out _ _ (hHeld.alloc _) (fun hHeld=>?_)
           have x8:=Lib.hid (newBox hHeld)
           have x8l:=Lib.hid (ltBox hH0 hHeld)
           clear hH0
           clear hK K
           (try simp only [apS,apN,siA,scZ,scS])
           (refine ratHx 10 (fun K hK=>?_);go_simp)
           have hH0:=hHeld
           refine hK.out _ _ (hHeld.alloc _) (fun hHeld=>?_)
           have x7:=Lib.hid (newBox hHeld)
           have x7l:=Lib.hid (ltBox hH0 hHeld)
           have ne78:=Lib.hid (Nat.ne_of_gt x8.out.lt)
           replace x8:=Lib.hid (oldBox hHeld x8.out)
           clear hH0
           clear hK K
           (try simp only [apS,apN,siA,scZ,scS])
           (try simp only [World.size_alloc] at x7 x8 x7l x8l ne78)
           refine storeP 12 72 (.tmp 7) (.tmp 54) _ [.int .i64 s.a.x,.int .i64 s.a.y,.int .i64 s.b.x,.int .i64 s.b.y] x7l.out (fun x hx=>by cases hx) hHeld x7 rfl x8 (Ne.symm ne78.out) x8 (Ne.symm ne78.out) (fun Z2 hHeld x7 x8 _=>?_)
           refine storeP 13 72 (.tmp 8) (.tmp 61) _ [.int .i64 t.a.x,.int .i64 t.a.y,.int .i64 t.b.x,.int .i64 t.b.y] x8l.out (fun x hx=>by cases hx) hHeld x8 rfl x7 ne78.out x7 ne78.out (fun Z3 hHeld x8 x7 _=>?_)
           refine wpAnyH_done (by kernel_rfl) ?_ _
           have hbe:=Lib.hid hHeld.bel
           clear hHeld
           go_wp2_with fail
           go_meet
           case rel=>exact ⟨_,_,rfl,rfl,x7,x8,hbe⟩
         ·skip
          (rw [if_pos (by kernel_rfl)];go_simp)
          have hH0:=hHeld
          refine hK.out _ _ (hHeld.alloc _) (fun hHeld=>?_)
          have x7:=Lib.hid (newBox hHeld)
          have x7l:=Lib.hid (ltBox hH0 hHeld)
          clear hH0
          clear hK K
          (try simp only [apS,apN,siA,scZ,scS])
          (refine wpAnyH_ready (rs:=[9,11]) (by decide +kernel) (by simp) ?_;refine AllReadyH.cons rfl (fun K hK=>?_) (AllReadyH.cons rfl (fun K hK=>?_) AllReadyH.nil))
          ·skip
           (rw [if_pos (by kernel_rfl)];go_simp)
           refine (hs2.out _ hHeld.bel).mono ?_
           rintro e wn ⟨rfl,hbn⟩
           go_simp
           replace x7:=Lib.hid (x7.out.below hbn)
           refine hK.out _ _ (hHeld.step hbn) (fun hHeld=>?_)
           clear hK K
           (try simp only [apS,apN,siA,scZ,scS])
           (refine ratHx 11 (fun K hK=>?_);go_simp)
           have hH0:=hHeld
           refine hK.out _ _ (hHeld.alloc _) (fun hHeld=>?_)
           have x8:=Lib.hid (newBox hHeld)
           have x8l:=Lib.hid (ltBox hH0 hHeld)
           have ne78:=Lib.hid (Nat.ne_of_lt x7.out.lt)
           replace x7:=Lib.hid (oldBox hHeld x7.out)
           clear hH0
           clear hK K
           (try simp only [apS,apN,siA,scZ,scS])
           (try simp only [World.size_alloc] at x7 x8 x7l x8l ne78)
           refine storeP 12 72 (.tmp 7) (.tmp 54) _ [.int .i64 s.a.x,.int .i64 s.a.y,.int .i64 s.b.x,.int .i64 s.b.y] x7l.out (fun x hx=>by cases hx) hHeld x7 rfl x8 (Ne.symm ne78.out) x8 (Ne.symm ne78.out) (fun Z2 hHeld x7 x8 _=>?_)
           refine storeP 13 72 (.tmp 8) (.tmp 61) _ [.int .i64 t.a.x,.int .i64 t.a.y,.int .i64 t.b.x,.int .i64 t.b.y] x8l.out (fun x hx=>by cases hx) hHeld x8 rfl x7 ne78.out x7 ne78.out (fun Z3 hHeld x8 x7 _=>?_)
           refine wpAnyH_done (by kernel_rfl) ?_ _
           have hbe:=Lib.hid hHeld.bel
           clear hHeld
           go_wp2_with fail
           go_meet
           case rel=>exact ⟨_,_,rfl,rfl,x7,x8,hbe⟩
          ·skip
           (rw [if_pos (by kernel_rfl)];go_simp)
           have hH0:=hHeld
           refine hK.out _ _ (hHeld.alloc _) (fun hHeld=>?_)
           have x8:=Lib.hid (newBox hHeld)
           have x8l:=Lib.hid (ltBox hH0 hHeld)
           have ne78:=Lib.hid (Nat.ne_of_lt x7.out.lt)
           replace x7:=Lib.hid (oldBox hHeld x7.out)
           clear hH0
           clear hK K
           (try simp only [apS,apN,siA,scZ,scS])
           (refine ratHx 9 (fun K hK=>?_);go_simp)
           refine (hs2.out _ hHeld.bel).mono ?_
           rintro e wn ⟨rfl,hbn⟩
           go_simp
           replace x7:=Lib.hid (x7.out.below hbn)
           replace x8:=Lib.hid (x8.out.below hbn)
           refine hK.out _ _ (hHeld.step hbn) (fun hHeld=>?_)
           clear hK K
           (try simp only [apS,apN,siA,scZ,scS])
           (try simp only [World.size_alloc] at x7 x8 x7l x8l ne78)
           refine storeP 12 72 (.tmp 7) (.tmp 54) _ [.int .i64 s.a.x,.int .i64 s.a.y,.int .i64 s.b.x,.int .i64 s.b.y] x7l.out (fun x hx=>by cases hx) hHeld x7 rfl x8 (Ne.symm ne78.out) x8 (Ne.symm ne78.out) (fun Z2 hHeld x7 x8 _=>?_)
           refine storeP 13 72 (.tmp 8) (.tmp 61) _ [.int .i64 t.a.x,.int .i64 t.a.y,.int .i64 t.b.x,.int .i64 t.b.y] x8l.out (fun x hx=>by cases hx) hHeld x8 rfl x7 ne78.out x7 ne78.out (fun Z3 hHeld x8 x7 _=>?_)
           refine wpAnyH_done (by kernel_rfl) ?_ _
           have hbe:=Lib.hid hHeld.bel
           clear hHeld
           go_wp2_with fail
           go_meet
           case rel=>exact ⟨_,_,rfl,rfl,x7,x8,hbe⟩
         ·skip
          (rw [if_pos (by kernel_rfl)];go_simp)
          have hH0:=hHeld
          refine hK.out _ _ (hHeld.alloc _) (fun hHeld=>?_)
          have x8:=Lib.hid (newBox hHeld)
          have x8l:=Lib.hid (ltBox hH0 hHeld)
          clear hH0
          clear hK K
          (try simp only [apS,apN,siA,scZ,scS])
          (refine wpAnyH_ready (rs:=[9,10]) (by decide +kernel) (by simp) ?_;refine AllReadyH.cons rfl (fun K hK=>?_) (AllReadyH.cons rfl (fun K hK=>?_) AllReadyH.nil))
          ·skip
           (rw [if_pos (by kernel_rfl)];go_simp)
           refine (hs2.out _ hHeld.bel).mono ?_
           rintro e wn ⟨rfl,hbn⟩
           go_simp
           replace x8:=Lib.hid (x8.out.below hbn)
           refine hK.out _ _ (hHeld.step hbn) (fun hHeld=>?_)
           clear hK K
           (try simp only [apS,apN,siA,scZ,scS])
           (refine ratHx 10 (fun K hK=>?_);go_simp)
           have hH0:=hHeld
           refine hK.out _ _ (hHeld.alloc _) (fun hHeld=>?_)
           have x7:=Lib.hid (newBox hHeld)
           have x7l:=Lib.hid (ltBox hH0 hHeld)
           have ne78:=Lib.hid (Nat.ne_of_gt x8.out.lt)
           replace x8:=Lib.hid (oldBox hHeld x8.out)
           clear hH0
           clear hK K
           (try simp only [apS,apN,siA,scZ,scS])
           (try simp only [World.size_alloc] at x7 x8 x7l x8l ne78)
           refine storeP 12 72 (.tmp 7) (.tmp 54) _ [.int .i64 s.a.x,.int .i64 s.a.y,.int .i64 s.b.x,.int .i64 s.b.y] x7l.out (fun x hx=>by cases hx) hHeld x7 rfl x8 (Ne.symm ne78.out) x8 (Ne.symm ne78.out) (fun Z2 hHeld x7 x8 _=>?_)
           refine storeP 13 72 (.tmp 8) (.tmp 61) _ [.int .i64 t.a.x,.int .i64 t.a.y,.int .i64 t.b.x,.int .i64 t.b.y] x8l.out (fun x hx=>by cases hx) hHeld x8 rfl x7 ne78.out x7 ne78.out (fun Z3 hHeld x8 x7 _=>?_)
           refine wpAnyH_done (by kernel_rfl) ?_ _
           have hbe:=Lib.hid hHeld.bel
           clear hHeld
           go_wp2_with fail
           go_meet
           case rel=>exact ⟨_,_,rfl,rfl,x7,x8,hbe⟩
          ·skip
           (rw [if_pos (by kernel_rfl)];go_simp)
           have hH0:=hHeld
           refine hK.out _ _ (hHeld.alloc _) (fun hHeld=>?_)
           have x7:=Lib.hid (newBox hHeld)
           have x7l:=Lib.hid (ltBox hH0 hHeld)
           have ne78:=Lib.hid (Nat.ne_of_gt x8.out.lt)
           replace x8:=Lib.hid (oldBox hHeld x8.out)
           clear hH0
           clear hK K
           (try simp only [apS,apN,siA,scZ,scS])
           (refine ratHx 9 (fun K hK=>?_);go_simp)
           refine (hs2.out _ hHeld.bel).mono ?_
           rintro e wn ⟨rfl,hbn⟩
           go_simp
           replace x7:=Lib.hid (x7.out.below hbn)
           replace x8:=Lib.hid (x8.out.below hbn)
           refine hK.out _ _ (hHeld.step hbn) (fun hHeld=>?_)
           clear hK K
           (try simp only [apS,apN,siA,scZ,scS])
           (try simp only [World.size_alloc] at x7 x8 x7l x8l ne78)
           refine storeP 12 72 (.tmp 7) (.tmp 54) _ [.int .i64 s.a.x,.int .i64 s.a.y,.int .i64 s.b.x,.int .i64 s.b.y] x7l.out (fun x hx=>by cases hx) hHeld x7 rfl x8 (Ne.symm ne78.out) x8 (Ne.symm ne78.out) (fun Z2 hHeld x7 x8 _=>?_)
           refine storeP 13 72 (.tmp 8) (.tmp 61) _ [.int .i64 t.a.x,.int .i64 t.a.y,.int .i64 t.b.x,.int .i64 t.b.y] x8l.out (fun x hx=>by cases hx) hHeld x8 rfl x7 ne78.out x7 ne78.out (fun Z3 hHeld x8 x7 _=>?_)
           refine wpAnyH_done (by kernel_rfl) ?_ _
           have hbe:=Lib.hid hHeld.bel
           clear hHeld
           go_wp2_with fail
           go_meet
           case rel=>exact ⟨_,_,rfl,rfl,x7,x8,hbe⟩
        ·skip
         (rw [if_pos (by kernel_rfl)];go_simp)
         have hH0:=hHeld
         refine hK.out _ _ (hHeld.alloc _) (fun hHeld=>?_)
         have x7:=Lib.hid (newBox hHeld)
         have x7l:=Lib.hid (ltBox hH0 hHeld)
         clear hH0
         clear hK K
         (try simp only [apS,apN,siA,scZ,scS])
         (refine wpAnyH_ready (rs:=[2,11]) (by decide +kernel) (by simp) ?_;refine AllReadyH.cons rfl (fun K hK=>?_) (AllReadyH.cons rfl (fun K hK=>?_) AllReadyH.nil))
         ·skip
          (rw [if_pos (by kernel_rfl)];go_simp)
          refine (hs1.out _ hHeld.bel).mono ?_
          rintro e wn ⟨rfl,hbn⟩
          go_simp
          replace x7:=Lib.hid (x7.out.below hbn)
          refine hK.out _ _ (hHeld.step hbn) (fun hHeld=>?_)
          clear hK K
          (try simp only [apS,apN,siA,scZ,scS])
          (refine wpAnyH_ready (rs:=[9,11]) (by decide +kernel) (by simp) ?_;refine AllReadyH.cons rfl (fun K hK=>?_) (AllReadyH.cons rfl (fun K hK=>?_) AllReadyH.nil))
          ·skip
           (rw [if_pos (by kernel_rfl)];go_simp)
           refine (hs2.out _ hHeld.bel).mono ?_
           rintro e wn ⟨rfl,hbn⟩
           go_simp
           replace x7:=Lib.hid (x7.out.below hbn)
           refine hK.out _ _ (hHeld.step hbn) (fun hHeld=>?_)
           clear hK K
           (try simp only [apS,apN,siA,scZ,scS])
           (refine ratHx 11 (fun K hK=>?_);go_simp)
           have hH0:=hHeld
           refine hK.out _ _ (hHeld.alloc _) (fun hHeld=>?_)
           have x8:=Lib.hid (newBox hHeld)
           have x8l:=Lib.hid (ltBox hH0 hHeld)
           have ne78:=Lib.hid (Nat.ne_of_lt x7.out.lt)
           replace x7:=Lib.hid (oldBox hHeld x7.out)
           clear hH0
           clear hK K
           (try simp only [apS,apN,siA,scZ,scS])
           (try simp only [World.size_alloc] at x7 x8 x7l x8l ne78)
           refine storeP 12 72 (.tmp 7) (.tmp 54) _ [.int .i64 s.a.x,.int .i64 s.a.y,.int .i64 s.b.x,.int .i64 s.b.y] x7l.out (fun x hx=>by cases hx) hHeld x7 rfl x8 (Ne.symm ne78.out) x8 (Ne.symm ne78.out) (fun Z2 hHeld x7 x8 _=>?_)
           refine storeP 13 72 (.tmp 8) (.tmp 61) _ [.int .i64 t.a.x,.int .i64 t.a.y,.int .i64 t.b.x,.int .i64 t.b.y] x8l.out (fun x hx=>by cases hx) hHeld x8 rfl x7 ne78.out x7 ne78.out (fun Z3 hHeld x8 x7 _=>?_)
           refine wpAnyH_done (by kernel_rfl) ?_ _
           have hbe:=Lib.hid hHeld.bel
           clear hHeld
           go_wp2_with fail
           go_meet
           case rel=>exact ⟨_,_,rfl,rfl,x7,x8,hbe⟩
          ·skip
           (rw [if_pos (by kernel_rfl)];go_simp)
           have hH0:=hHeld
           refine hK.out _ _ (hHeld.alloc _) (fun hHeld=>?_)
           have x8:=Lib.hid (newBox hHeld)
           have x8l:=Lib.hid (ltBox hH0 hHeld)
           have ne78:=Lib.hid (Nat.ne_of_lt x7.out.lt)
           replace x7:=Lib.hid (oldBox hHeld x7.out)
           clear hH0
           clear hK K
           (try simp only [apS,apN,siA,scZ,scS])
           (refine ratHx 9 (fun K hK=>?_);go_simp)
           refine (hs2.out _ hHeld.bel).mono ?_
           rintro e wn ⟨rfl,hbn⟩
           go_simp
           replace x7:=Lib.hid (x7.out.below hbn)
           replace x8:=Lib.hid (x8.out.below hbn)
           refine hK.out _ _ (hHeld.step hbn) (fun hHeld=>?_)
           clear hK K
           (try simp only [apS,apN,siA,scZ,scS])
           (try simp only [World.size_alloc] at x7 x8 x7l x8l ne78)
           refine storeP 12 72 (.tmp 7) (.tmp 54) _ [.int .i64 s.a.x,.int .i64 s.a.y,.int .i64 s.b.x,.int .i64 s.b.y] x7l.out (fun x hx=>by cases hx) hHeld x7 rfl x8 (Ne.symm ne78.out) x8 (Ne.symm ne78.out) (fun Z2 hHeld x7 x8 _=>?_)
           refine storeP 13 72 (.tmp 8) (.tmp 61) _ [.int .i64 t.a.x,.int .i64 t.a.y,.int .i64 t.b.x,.int .i64 t.b.y] x8l.out (fun x hx=>by cases hx) hHeld x8 rfl x7 ne78.out x7 ne78.out (fun Z3 hHeld x8 x7 _=>?_)
           refine wpAnyH_done (by kernel_rfl) ?_ _
           have hbe:=Lib.hid hHeld.bel
           clear hHeld
           go_wp2_with fail
           go_meet
           case rel=>exact ⟨_,_,rfl,rfl,x7,x8,hbe⟩
         ·skip
          (rw [if_pos (by kernel_rfl)];go_simp)
          have hH0:=hHeld
          refine hK.out _ _ (hHeld.alloc _) (fun hHeld=>?_)
          have x8:=Lib.hid (newBox hHeld)
          have x8l:=Lib.hid (ltBox hH0 hHeld)
          have ne78:=Lib.hid (Nat.ne_of_lt x7.out.lt)
          replace x7:=Lib.hid (oldBox hHeld x7.out)
          clear hH0
          clear hK K
          (try simp only [apS,apN,siA,scZ,scS])
          (refine ratHx 2 (fun K hK=>?_);go_simp)
          refine (hs1.out _ hHeld.bel).mono ?_
          rintro e wn ⟨rfl,hbn⟩
          go_simp
          replace x7:=Lib.hid (x7.out.below hbn)
          replace x8:=Lib.hid (x8.out.below hbn)
          refine hK.out _ _ (hHeld.step hbn) (fun hHeld=>?_)
          clear hK K
          (try simp only [apS,apN,siA,scZ,scS])
          (refine ratHx 9 (fun K hK=>?_);go_simp)
          refine (hs2.out _ hHeld.bel).mono ?_
          rintro e wn ⟨rfl,hbn⟩
          go_simp
          replace x7:=Lib.hid (x7.out.below hbn)
          replace x8:=Lib.hid (x8.out.below hbn)
          refine hK.out _ _ (hHeld.step hbn) (fun hHeld=>?_)
          clear hK K
          (try simp only [apS,apN,siA,scZ,scS])
          (try simp only [World.size_alloc] at x7 x8 x7l x8l ne78)
          refine storeP 12 72 (.tmp 7) (.tmp 54) _ [.int .i64 s.a.x,.int .i64 s.a.y,.int .i64 s.b.x,.int .i64 s.b.y] x7l.out (fun x hx=>by cases hx) hHeld x7 rfl x8 (Ne.symm ne78.out) x8 (Ne.symm ne78.out) (fun Z2 hHeld x7 x8 _=>?_)
          refine storeP 13 72 (.tmp 8) (.tmp 61) _ [.int .i64 t.a.x,.int .i64 t.a.y,.int .i64 t.b.x,.int .i64 t.b.y] x8l.out (fun x hx=>by cases hx) hHeld x8 rfl x7 ne78.out x7 ne78.out (fun Z3 hHeld x8 x7 _=>?_)
          refine wpAnyH_done (by kernel_rfl) ?_ _
          have hbe:=Lib.hid hHeld.bel
          clear hHeld
          go_wp2_with fail
          go_meet
          case rel=>exact ⟨_,_,rfl,rfl,x7,x8,hbe⟩
        ·skip
         (rw [if_pos (by kernel_rfl)];go_simp)
         have hH0:=hHeld
         refine hK.out _ _ (hHeld.alloc _) (fun hHeld=>?_)
         have x8:=Lib.hid (newBox hHeld)
         have x8l:=Lib.hid (ltBox hH0 hHeld)
         clear hH0
         clear hK K
         (try simp only [apS,apN,siA,scZ,scS])
         (refine wpAnyH_ready (rs:=[2,10]) (by decide +kernel) (by simp) ?_;refine AllReadyH.cons rfl (fun K hK=>?_) (AllReadyH.cons rfl (fun K hK=>?_) AllReadyH.nil))
         ·skip
          (rw [if_pos (by kernel_rfl)];go_simp)
          refine (hs1.out _ hHeld.bel).mono ?_
          rintro e wn ⟨rfl,hbn⟩
          go_simp
          replace x8:=Lib.hid (x8.out.below hbn)
          refine hK.out _ _ (hHeld.step hbn) (fun hHeld=>?_)
          clear hK K
          (try simp only [apS,apN,siA,scZ,scS])
          (refine wpAnyH_ready (rs:=[9,10]) (by decide +kernel) (by simp) ?_;refine AllReadyH.cons rfl (fun K hK=>?_) (AllReadyH.cons rfl (fun K hK=>?_) AllReadyH.nil))
          ·skip
           (rw [if_pos (by kernel_rfl)];go_simp)
           refine (hs2.out _ hHeld.bel).mono ?_
           rintro e wn ⟨rfl,hbn⟩
           go_simp
           replace x8:=Lib.hid (x8.out.below hbn)
           refine hK.out _ _ (hHeld.step hbn) (fun hHeld=>?_)
           clear hK K
           (try simp only [apS,apN,siA,scZ,scS])
           (refine ratHx 10 (fun K hK=>?_);go_simp)
           have hH0:=hHeld
           refine hK.out _ _ (hHeld.alloc _) (fun hHeld=>?_)
           have x7:=Lib.hid (newBox hHeld)
           have x7l:=Lib.hid (ltBox hH0 hHeld)
           have ne78:=Lib.hid (Nat.ne_of_gt x8.out.lt)
           replace x8:=Lib.hid (oldBox hHeld x8.out)
           clear hH0
           clear hK K
           (try simp only [apS,apN,siA,scZ,scS])
           (try simp only [World.size_alloc] at x7 x8 x7l x8l ne78)
           refine storeP 12 72 (.tmp 7) (.tmp 54) _ [.int .i64 s.a.x,.int .i64 s.a.y,.int .i64 s.b.x,.int .i64 s.b.y] x7l.out (fun x hx=>by cases hx) hHeld x7 rfl x8 (Ne.symm ne78.out) x8 (Ne.symm ne78.out) (fun Z2 hHeld x7 x8 _=>?_)
           refine storeP 13 72 (.tmp 8) (.tmp 61) _ [.int .i64 t.a.x,.int .i64 t.a.y,.int .i64 t.b.x,.int .i64 t.b.y] x8l.out (fun x hx=>by cases hx) hHeld x8 rfl x7 ne78.out x7 ne78.out (fun Z3 hHeld x8 x7 _=>?_)
           refine wpAnyH_done (by kernel_rfl) ?_ _
           have hbe:=Lib.hid hHeld.bel
           clear hHeld
           go_wp2_with fail
           go_meet
           case rel=>exact ⟨_,_,rfl,rfl,x7,x8,hbe⟩
          ·skip
           (rw [if_pos (by kernel_rfl)];go_simp)
           have hH0:=hHeld
           refine hK.out _ _ (hHeld.alloc _) (fun hHeld=>?_)
           have x7:=Lib.hid (newBox hHeld)
           have x7l:=Lib.hid (ltBox hH0 hHeld)
           have ne78:=Lib.hid (Nat.ne_of_gt x8.out.lt)
           replace x8:=Lib.hid (oldBox hHeld x8.out)
           clear hH0
           clear hK K
           (try simp only [apS,apN,siA,scZ,scS])
           (refine ratHx 9 (fun K hK=>?_);go_simp)
           refine (hs2.out _ hHeld.bel).mono ?_
           rintro e wn ⟨rfl,hbn⟩
           go_simp
           replace x7:=Lib.hid (x7.out.below hbn)
           replace x8:=Lib.hid (x8.out.below hbn)
           refine hK.out _ _ (hHeld.step hbn) (fun hHeld=>?_)
           clear hK K
           (try simp only [apS,apN,siA,scZ,scS])
           (try simp only [World.size_alloc] at x7 x8 x7l x8l ne78)
           refine storeP 12 72 (.tmp 7) (.tmp 54) _ [.int .i64 s.a.x,.int .i64 s.a.y,.int .i64 s.b.x,.int .i64 s.b.y] x7l.out (fun x hx=>by cases hx) hHeld x7 rfl x8 (Ne.symm ne78.out) x8 (Ne.symm ne78.out) (fun Z2 hHeld x7 x8 _=>?_)
           refine storeP 13 72 (.tmp 8) (.tmp 61) _ [.int .i64 t.a.x,.int .i64 t.a.y,.int .i64 t.b.x,.int .i64 t.b.y] x8l.out (fun x hx=>by cases hx) hHeld x8 rfl x7 ne78.out x7 ne78.out (fun Z3 hHeld x8 x7 _=>?_)
           refine wpAnyH_done (by kernel_rfl) ?_ _
           have hbe:=Lib.hid hHeld.bel
           clear hHeld
           go_wp2_with fail
           go_meet
           case rel=>exact ⟨_,_,rfl,rfl,x7,x8,hbe⟩
         ·skip
          (rw [if_pos (by kernel_rfl)];go_simp)
          have hH0:=hHeld
          refine hK.out _ _ (hHeld.alloc _) (fun hHeld=>?_)
          have x7:=Lib.hid (newBox hHeld)
          have x7l:=Lib.hid (ltBox hH0 hHeld)
          have ne78:=Lib.hid (Nat.ne_of_gt x8.out.lt)
          replace x8:=Lib.hid (oldBox hHeld x8.out)
          clear hH0
          clear hK K
          (try simp only [apS,apN,siA,scZ,scS])
          (refine ratHx 2 (fun K hK=>?_);go_simp)
          refine (hs1.out _ hHeld.bel).mono ?_
          rintro e wn ⟨rfl,hbn⟩
          go_simp
          replace x7:=Lib.hid (x7.out.below hbn)
          replace x8:=Lib.hid (x8.out.below hbn)
          refine hK.out _ _ (hHeld.step hbn) (fun hHeld=>?_)
          clear hK K
          (try simp only [apS,apN,siA,scZ,scS])
          (refine ratHx 9 (fun K hK=>?_);go_simp)
          refine (hs2.out _ hHeld.bel).mono ?_
          rintro e wn ⟨rfl,hbn⟩
          go_simp
          replace x7:=Lib.hid (x7.out.below hbn)
          replace x8:=Lib.hid (x8.out.below hbn)
          refine hK.out _ _ (hHeld.step hbn) (fun hHeld=>?_)
          clear hK K
          (try simp only [apS,apN,siA,scZ,scS])
          (try simp only [World.size_alloc] at x7 x8 x7l x8l ne78)
          refine storeP 12 72 (.tmp 7) (.tmp 54) _ [.int .i64 s.a.x,.int .i64 s.a.y,.int .i64 s.b.x,.int .i64 s.b.y] x7l.out (fun x hx=>by cases hx) hHeld x7 rfl x8 (Ne.symm ne78.out) x8 (Ne.symm ne78.out) (fun Z2 hHeld x7 x8 _=>?_)
          refine storeP 13 72 (.tmp 8) (.tmp 61) _ [.int .i64 t.a.x,.int .i64 t.a.y,.int .i64 t.b.x,.int .i64 t.b.y] x8l.out (fun x hx=>by cases hx) hHeld x8 rfl x7 ne78.out x7 ne78.out (fun Z3 hHeld x8 x7 _=>?_)
          refine wpAnyH_done (by kernel_rfl) ?_ _
          have hbe:=Lib.hid hHeld.bel
          clear hHeld
          go_wp2_with fail
          go_meet
          case rel=>exact ⟨_,_,rfl,rfl,x7,x8,hbe⟩
       case rest =>
        obtain ⟨B7,B8,rfl,rfl,x7,x8,hbe⟩:=hcut
        have hbz:=Lib.hid (below_step hb.out hbe.out)
        clear hs1 hs2 hbe
        have on1:=Lib.hid (fun W=>OnR_any s t.b W hS hT.b)
        have on2:=Lib.hid (fun W=>OnR_any t s.a W hT hS.a)
        have c0:=x7.out.c 0 _ rfl
        have c1:=x7.out.c 1 _ rfl
        have c2:=x7.out.c 2 _ rfl
        have c3:=x7.out.c 3 _ rfl
        have d0:=x8.out.c 0 _ rfl
        have d1:=x8.out.c 1 _ rfl
        have d2:=x8.out.c 2 _ rfl
        have d3:=x8.out.c 3 _ rfl
        generalize Cal.hasP s t.b = h1 at *
        generalize Cal.hasP t s.a = h2 at *
        cases h1
        ·cases h2
         ·have htz : Hid (Cal.turnsR ps i = false):=htn.out
          clear htn
          go_wp2_with (first
           |(go_at_call 69;refine (on1.out _).mono ?_;rintro e w1 ⟨rfl,hb1⟩;replace x7:=Lib.hid (x7.out.below hb1);replace x8:=Lib.hid (x8.out.below hb1);replace hbz:=Lib.hid (below_step hbz.out hb1);clear hb1 on1 c0 c1 c2 c3 d0 d1 d2 d3;have c0:=x7.out.c 0 _ rfl;have c1:=x7.out.c 1 _ rfl;have d0:=x8.out.c 0 _ rfl;have d1:=x8.out.c 1 _ rfl;have d2:=x8.out.c 2 _ rfl;have d3:=x8.out.c 3 _ rfl)
           |(go_at_call 69;refine (on2.out _).mono ?_;rintro e w2 ⟨rfl,hb2⟩;replace x7:=Lib.hid (x7.out.below hb2);replace hbz:=Lib.hid (below_step hbz.out hb2);clear hb2 on2 c0 c1 d0 d1 d2 d3 x8))
          have hi2 : IntKind.i64.wrap ((i : Int) + 2) = (i : Int) + 2:=wrap_small (by omega) (by omega)
          have hi2b : wrap64 ((i : Int) + 2) = (i : Int) + 2:=by rw [show wrap64 ((i : Int) + 2) = IntKind.i64.wrap ((i : Int) + 2) from (by rw [IntKind.wrap_i64];unfold wrap64;rfl)];exact hi2
          go_wp2_with fail
          go_loopw [9] (fun kv wr=>∃ j : Nat,i + 2 ≤ j ∧ j ≤ ps.length + 1 ∧ kv = .int .i64 j ∧ Hid (∀ j',j' < ps.length → j' < j → Cal.badK ps i j' = false) ∧ Hid (BoxAt wr B7 [.int .i64 s.a.x,.int .i64 s.a.y,.int .i64 s.b.x,.int .i64 s.b.y]) ∧ Hid (Below w.heap.size w wr)) (fun kv _=>ps.length + 2 - (intOf kv).toNat)
          case atStart=>exact ⟨i + 2,Nat.le_refl _,by omega,by go_num,fun j' _ h=>by rw [hbk.out,decide_eq_false (by omega),Bool.false_and,Bool.false_and],x7,hbz⟩
          case round =>
           clear x7 hbz
           obtain ⟨j,hj1,hj2,rfl,hno,x7,hbz⟩:=hrel
           by_cases hjl : j < ps.length
           ·obtain ⟨mj,hmj⟩ : ∃ mj,mj = (j + 1) % ps.length:=⟨_,rfl⟩
            have hj3 : ((j : Int) + 1).tmod (ps.length : Int) = (mj : Int):=by rw [hmj];rfl
            have hj4 : IntKind.i64.wrap ((j : Int) + 1) = (j : Int) + 1:=wrap_small (by omega) (by omega)
            have hmjl : mj < ps.length:=by rw [hmj];exact Nat.mod_lt _ (by omega)
            have hj5 : IntKind.i64.wrap (mj : Int) = (mj : Int):=wrap_small (by omega) (by omega)
            have hjl2 : (j : Int) < (ps.length : Int):=by omega
            by_cases hw : mj = i
            ·have hno2 : Hid (∀ j',j' < ps.length → j' < j + 1 → Cal.badK ps i j' = false):=fun j' h1 h2=>by
              rcases Nat.lt_succ_iff_lt_or_eq.1 h2 with h | h
              ·exact hno.out j' h1 h
              ·rw [h,hbk.out,← hmj,hw];simp
             have hne1 : ((mj : Int) != (i : Int)) = false:=by rw [hw];simp
             clear hmj hno hw
             go_wp2_with fail
             refine wp_region_held_drew (S:=Sx wr []) (by kernel_rfl) (Sx.mk (cs_nil _) (Below.refl _ _)).drew (fun hHeld=>?_)
             refine tkHx 0 80 ?_
             refine tkHx 1 81 ?_
             refine tkHx 2 82 ?_
             refine tkHx 3 83 ?_
             refine tkHx 4 84 ?_
             refine tkHx 5 85 ?_
             refine tkHx 6 86 ?_
             refine tkHx 7 87 ?_
             refine tkFx 8 88 ?_
             refine tkFx 9 89 ?_
             refine tkFx 10 90 ?_
             refine tkFx 11 91 ?_
             refine tkFx 12 92 ?_
             refine tkHx 13 93 ?_
             refine wpAnyH_done (by kernel_rfl) ?_ _
             (try simp only [apS,apN,siA,scZ,scS])
             replace x7:=Lib.hid (x7.out.below hHeld.bel)
             replace hbz:=Lib.hid (below_step hbz.out hHeld.bel)
             clear hHeld
             go_wp2_with fail
             go_roundw
             case rel=>exact ⟨j + 1,by omega,by omega,by go_num,hno2,x7,hbz⟩
             case measure=>simp [intOf];omega
            ·have hne1 : ((mj : Int) != (i : Int)) = true:=by simp;omega
             have hne2 : ¬ (mj : Int) = (i : Int):=by omega
             have hbj : Cal.badK ps i j = Cal.meetS s (Cal.sd ps j):=by
              rw [hbk.out,decide_eq_true (by omega),← hmj]
              simp [hw]
             have hU:=hsm.out.sd j hjl
             have hs3:=Lib.hid (fun W (h : Below wr.heap.size wr W)=>sideR_any V d ps j W ((hP.out.below hbz.out).below h) hjl (by omega))
             generalize Cal.sd ps j = u at *
             have htc:=Lib.hid (fun W=>touchR_any s u W hS hU (fun W=>crossesR_any s u W hS hU))
             have c0:=x7.out.c 0 _ rfl
             have c1:=x7.out.c 1 _ rfl
             have c2:=x7.out.c 2 _ rfl
             have c3:=x7.out.c 3 _ rfl
             generalize hM : Cal.meetS s u = M at *
             cases M
             ·have hno2 : Hid (∀ j',j' < ps.length → j' < j + 1 → Cal.badK ps i j' = false):=fun j' h1 h2=>by
               rcases Nat.lt_succ_iff_lt_or_eq.1 h2 with h | h
               ·exact hno.out j' h1 h
               ·rw [h];exact hbj
              clear hmj hno hw hbj hM
              go_wp2_with fail
              refine wp_region_held_drew (S:=Sx wr [(B7,0,.int .i64 s.a.x),(B7,1,.int .i64 s.a.y),(B7,2,.int .i64 s.b.x),(B7,3,.int .i64 s.b.y)]) (by kernel_rfl) (Sx.mk (by simp only [cs_iff_cons];exact ⟨c0,c1,c2,c3,cs_nil _⟩) (Below.refl _ _)).drew (fun hHeld=>?_)
              refine tkHx 0 80 ?_
              refine tkHx 1 81 ?_
              refine tkHx 2 82 ?_
              refine tkHx 3 83 ?_
              refine tkHx 4 84 ?_
              refine tkHx 5 85 ?_
              refine tkHx 6 86 ?_
              refine tkHx 7 87 ?_
              refine tkHx 8 88 ?_
              refine tkHx 9 89 ?_
              refine tkHx 10 90 ?_
              (refine ratHx 11 (fun K hK=>?_);go_simp)
              refine (hs3.out _ hHeld.bel).mono ?_
              rintro e wn ⟨rfl,hbn⟩
              go_simp
              (refine hK.out _ _ (hHeld.step hbn) (fun hHeld=>?_);clear hK K;(try simp only [apS,apN,siA,scZ,scS]))
              (refine ratHx 12 (fun K hK=>?_);go_simp)
              refine (htc.out _).mono ?_
              rintro e wn ⟨rfl,hbn⟩
              go_simp
              (refine hK.out _ _ (hHeld.step hbn) (fun hHeld=>?_);clear hK K;(try simp only [apS,apN,siA,scZ,scS]))
              refine tkHx 13 93 ?_
              refine wpAnyH_done (by kernel_rfl) ?_ _
              (try simp only [apS,apN,siA,scZ,scS])
              replace x7:=Lib.hid (x7.out.below hHeld.bel)
              replace hbz:=Lib.hid (below_step hbz.out hHeld.bel)
              clear hHeld hs3 htc
              go_wp2_with fail
              go_roundw
              case rel=>exact ⟨j + 1,by omega,by omega,by go_num,hno2,x7,hbz⟩
              case measure=>simp [intOf];omega
             ·have hE3 : Hid (E = 3):=by
               show _ = _
               have:=hE.out
               rw [simpleR_no2 hlt hjl hbj,if_neg (by decide)] at this
               exact this.symm
              clear hmj hno hw hbj hM
              go_wp2_with fail
              refine wp_region_held_drew (S:=Sx wr [(B7,0,.int .i64 s.a.x),(B7,1,.int .i64 s.a.y),(B7,2,.int .i64 s.b.x),(B7,3,.int .i64 s.b.y)]) (by kernel_rfl) (Sx.mk (by simp only [cs_iff_cons];exact ⟨c0,c1,c2,c3,cs_nil _⟩) (Below.refl _ _)).drew (fun hHeld=>?_)
              refine tkHx 0 80 ?_
              refine tkHx 1 81 ?_
              refine tkHx 2 82 ?_
              refine tkHx 3 83 ?_
              refine tkHx 4 84 ?_
              refine tkHx 5 85 ?_
              refine tkHx 6 86 ?_
              refine tkHx 7 87 ?_
              refine tkHx 8 88 ?_
              refine tkHx 9 89 ?_
              refine tkHx 10 90 ?_
              (refine ratHx 11 (fun K hK=>?_);go_simp)
              refine (hs3.out _ hHeld.bel).mono ?_
              rintro e wn ⟨rfl,hbn⟩
              go_simp
              (refine hK.out _ _ (hHeld.step hbn) (fun hHeld=>?_);clear hK K;(try simp only [apS,apN,siA,scZ,scS]))
              (refine ratHx 12 (fun K hK=>?_);go_simp)
              refine (htc.out _).mono ?_
              rintro e wn ⟨rfl,hbn⟩
              go_simp
              (refine hK.out _ _ (hHeld.step hbn) (fun hHeld=>?_);clear hK K;(try simp only [apS,apN,siA,scZ,scS]))
              refine tkHx 13 93 ?_
              refine wpAnyH_done (by kernel_rfl) ?_ _
              (try simp only [apS,apN,siA,scZ,scS])
              replace hbz:=Lib.hid (below_step hbz.out hHeld.bel)
              clear hHeld hs3 htc
              go_wp2_with fail
              go_ret
              exact ⟨by rw [hE3.out];rfl,hbz.out⟩
           ·have hall2 : Hid (∀ i',i' < ps.length → i' < i + 1 → Cal.turnsR ps i' = false ∧ ∀ j,j < ps.length → Cal.badK ps i' j = false):=fun i' h1 h2=>by
             rcases Nat.lt_succ_iff_lt_or_eq.1 h2 with h | h
             ·exact hall.out i' h1 h
             ·subst h;exact ⟨htz.out,fun j' hj'=>hno.out j' hj' (by omega)⟩
            clear hno hall
            go_wp2_with fail
            go_roundw
            case rel=>exact ⟨i + 1,by omega,by go_num,hall2,hbz⟩
            case measure=>simp [intOf];omega
         ·have hE3 : Hid (E = 3):=by
           show _ = _
           have:=hE.out
           rw [simpleR_no1 hlt htn.out,if_neg (by decide)] at this
           exact this.symm
          clear htn
          go_wp2_with (first
           |(go_at_call 69;refine (on1.out _).mono ?_;rintro e w1 ⟨rfl,hb1⟩;replace x7:=Lib.hid (x7.out.below hb1);replace x8:=Lib.hid (x8.out.below hb1);replace hbz:=Lib.hid (below_step hbz.out hb1);clear hb1 on1 c0 c1 c2 c3 d0 d1 d2 d3;have c0:=x7.out.c 0 _ rfl;have c1:=x7.out.c 1 _ rfl;have d0:=x8.out.c 0 _ rfl;have d1:=x8.out.c 1 _ rfl;have d2:=x8.out.c 2 _ rfl;have d3:=x8.out.c 3 _ rfl)
           |(go_at_call 69;refine (on2.out _).mono ?_;rintro e w2 ⟨rfl,hb2⟩;replace hbz:=Lib.hid (below_step hbz.out hb2);clear hb2 on2 c0 c1 d0 d1 d2 d3))
          go_ret
          exact ⟨by rw [hE3.out];rfl,hbz.out⟩
        ·have hE3 : Hid (E = 3):=by
          show _ = _
          have:=hE.out
          rw [simpleR_no1 hlt htn.out,if_neg (by decide)] at this
          exact this.symm
         clear htn
         go_wp2_with (go_at_call 69;refine (on1.out _).mono ?_;rintro e w1 ⟨rfl,hb1⟩;replace hbz:=Lib.hid (below_step hbz.out hb1);clear hb1 on1)
         go_ret
         exact ⟨by rw [hE3.out];rfl,hbz.out⟩
      ·have hke : i = ps.length:=by omega
       have hsim:=simpleR_all (fun i' hi'=>hall.out i' hi' (by omega))
       have hE:=hE.out
       rw [if_pos hsim] at hE
       have hdb:=Lib.hid (fun W (h : Below w.heap.size w W)=>DoubleR_any V d ps W (hsm.out.below h) (by omega))
       subst hke
       clear hsim hall
       generalize Cal.areaP ps = Ar at *
       by_cases har : Ar ≤ 0
       ·rw [if_pos har] at hE
        subst hE
        go_wp2_with (go_at_call 71;refine (hdb.out _ hb.out).mono ?_;rintro e w1 ⟨rfl,hb1⟩;replace hb:=Lib.hid (below_step hb.out hb1);clear hb1)
        go_ret
        exact ⟨rfl,hb.out⟩
       ·rw [if_neg har] at hE
        subst hE
        go_wp2_with (go_at_call 71;refine (hdb.out _ hb.out).mono ?_;rintro e w1 ⟨rfl,hb1⟩;replace hb:=Lib.hid (below_step hb.out hb1);clear hb1)
        go_ret
        exact ⟨rfl,hb.out⟩
end Go.Proofs.Ythfokpchdlcidaa
namespace Go.Proofs.Ythfokpchdlcidaa.Cal
def flipL (x : Lev) : Lev:=⟨x.t,x.f,-x.d,x.w⟩
def noL : Lev:=⟨0,0,0,0⟩
def stepL (l : List Lev) (n : Int) : Lev:=if n < 0 then flipL (l[n.natAbs - 1]?.getD noL) else l[n.natAbs - 1]?.getD noL
def badL (l : List Lev) (n : Int) : Bool:=decide (n = 0 ∨ l.length < n.natAbs)
def chain : Int → List Lev → Bool
 | _,[]=>true
 | a,x :: r=>decide (x.f = a) && chain x.t r
def lastT : Int → List Lev → Int
 | a,[]=>a
 | _,x :: r=>lastT x.t r
def sumD : List Lev → Int
 | []=>0
 | x :: r=>x.d + sumD r
def misE (l : List Lev) (lp : List Int) : Int :=
 if lp.length < 1 ∨ 100 < lp.length then 10 else if lp.any (badL l) = true then 6 else if chain (lastT 0 (lp.map (stepL l))) (lp.map (stepL l)) = true then 0 else 29
def misS (l : List Lev) (lp : List Int) : Int:=if misE l lp = 0 then sumD (lp.map (stepL l)) else 0
theorem lastT_append (x : Lev) : ∀ (a : Int) (r : List Lev),lastT a (r ++ [x]) = x.t
 | _,[]=>rfl
 | _,y :: r=>lastT_append x y.t r
theorem chain_append : ∀ (r : List Lev) (a : Int) (s : List Lev),chain a (r ++ s) = (chain a r && chain (lastT a r) s)
 | [],_,_=>rfl
 | x :: r,a,s=>by
  show (decide (x.f = a) && chain x.t (r ++ s)) = ((decide (x.f = a) && chain x.t r) && chain (lastT x.t r) s)
  rw [chain_append r x.t s,Bool.and_assoc]
theorem sumD_append : ∀ (r s : List Lev),sumD (r ++ s) = sumD r + sumD s
 | [],s=>by show sumD s = 0 + sumD s;omega
 | x :: r,s=>by
  show x.d + sumD (r ++ s) = x.d + sumD r + sumD s
  rw [sumD_append r s];omega
theorem stepL_mem {l : List Lev} {n : Int} (h : badL l n = false) : ∃ (k : Nat) (x : Lev),k = n.natAbs - 1 ∧ 1 ≤ n.natAbs ∧ k < l.length ∧ l[k]? = some x ∧ stepL l n = if n < 0 then flipL x else x:=by
 have h:=of_decide_eq_false h
 have hk : n.natAbs - 1 < l.length:=by omega
 exact ⟨n.natAbs - 1,l[n.natAbs - 1],rfl,by omega,hk,List.getElem?_eq_getElem hk,by unfold stepL;rw [List.getElem?_eq_getElem hk];rfl⟩
theorem stepL_box {l : List Lev} {n : Int} (hv : ∀ x ∈ l,-100000 ≤ x.d ∧ x.d ≤ 100000) (h : badL l n = false) : -100000 ≤ (stepL l n).d ∧ (stepL l n).d ≤ 100000:=by
 obtain ⟨k,x,_,_,_,hx,e⟩:=stepL_mem h
 have:=hv x (List.mem_of_getElem? hx)
 rw [e]
 split
 ·show -100000 ≤ -x.d ∧ -x.d ≤ 100000;omega
 ·exact this
theorem lastT_get {x : Lev} : ∀ {r : List Lev} {a : Int} {k : Nat},r[k]? = some x → r.length = k + 1 → lastT a r = x.t
 | [],_,_,h,_=>by cases h
 | [y],_,k,h,hl=>by
  obtain rfl : k = 0:=by simpa using hl.symm
  cases h;rfl
 | y :: z :: r,a,k,h,hl=>by
  obtain ⟨k,rfl⟩ : ∃ q,k = q + 1:=⟨k - 1,by simp at hl;omega⟩
  show lastT y.t (z :: r) = x.t
  exact lastT_get (by simpa using h) (by simpa using hl)
theorem any_take {f : Int → Bool} {lp : List Int} {k : Nat} (h : k < lp.length) : (lp.take (k + 1)).any f = ((lp.take k).any f || f lp[k]):=by
 rw [List.take_succ_eq_append_getElem h,List.any_append];simp
theorem chain_take {a : Int} {r : List Lev} {k : Nat} (h : k < r.length) : chain a (r.take (k + 1)) = (chain a (r.take k) && decide (r[k].f = lastT a (r.take k))):=by
 rw [List.take_succ_eq_append_getElem h,chain_append]
 show (_ && (decide (r[k].f = lastT a (List.take k r)) && true)) = _
 rw [Bool.and_true]
theorem lastT_take {a : Int} {r : List Lev} {k : Nat} (h : k < r.length) : lastT a (r.take (k + 1)) = r[k].t:=by
 rw [List.take_succ_eq_append_getElem h,lastT_append]
theorem sumD_take {r : List Lev} {k : Nat} (h : k < r.length) : sumD (r.take (k + 1)) = sumD (r.take k) + r[k].d:=by
 rw [List.take_succ_eq_append_getElem h,sumD_append]
 show _ = _
 simp [sumD]
theorem chain_break {a : Int} {r : List Lev} {k : Nat} (h : k < r.length) (hb : r[k].f ≠ lastT a (r.take k)) : chain a r = false:=by
 have e : r = r.take (k + 1) ++ r.drop (k + 1):=(List.take_append_drop _ _).symm
 rw [e,chain_append,chain_take h,decide_eq_false hb,Bool.and_false,Bool.false_and]
def misEN (n : Int) (l : List Lev) (lp : List Int) : Int:=if netE n l = 0 then misE l lp else netE n l
def misSN (n : Int) (l : List Lev) (lp : List Int) : Int:=if netE n l = 0 then misS l lp else 0
theorem any_hit {f : Int → Bool} {lp : List Int} {k : Nat} (h : k < lp.length) (hf : f lp[k] = true) : lp.any f = true:=List.any_eq_true.2 ⟨lp[k],List.getElem_mem h,hf⟩
end Go.Proofs.Ythfokpchdlcidaa.Cal
