/- What the statements rest on: definitions and walks, part 22. -/
import Derived.Test.YthfokpchdlcidaaJ21
import Derived.Test.YthfokpchdlcidaaJ11
set_option maxRecDepth 100000
set_option maxHeartbeats 16000000
set_option linter.unusedSimpArgs false
set_option linter.unusedVariables false
namespace Go.Proofs.Ythfokpchdlcidaa
open Go Go.RowKit Go.Sort
theorem szTx (w : World) : (sizeOf (Try.prog.elem 54)).run Try.prog w = .ok 1 w:=by kernel_rfl
theorem udTx : Try.prog.underlying 54 = some (.slice (Try.prog.elem 54)):=by kernel_rfl
theorem txtRows_cut (zs : List Cal.Txt) (k : Nat) : (txtRows zs).take k = txtRows (zs.take k) ∧ (txtRows zs).drop k = txtRows (zs.drop k):=by unfold txtRows;rw [List.map_take,List.map_drop];exact ⟨rfl,rfl⟩
def abT (zs : List Cal.Txt) (d : Cal.Txt) (q : Nat) : Prop:=∀ (j : Nat) z,q ≤ j → zs[j]? = some z → d < z
theorem addTx_any (w : World) (B : Nat) (v : Value) (zs : List Cal.Txt) (s : ByteArray) (h : TextsL w B v zs) (hup : zs.Pairwise (· < ·)) (hz : zs.length ≤ 100000) (hBw : B ≤ w.heap.size) :
  Calls Try.prog 57 #[v,.string s] w fun e w'=>∃ v',e = .returned v' ∧ TextsL w' B v' (Cal.tups (zs ++ [s.toList])) ∧ Below w.heap.size w w':=by
 obtain ⟨A,c,rfl,hr⟩:=h.rows
 have hI0 : Hid (OwnL w B 9 1 (.slice A zs.length c) (txtRows zs)):=h
 have hr0:=Lib.hid hr
 have ha0 : Hid (abT zs s.toList zs.length):=fun j z hj hz=>by
  have:=(List.getElem?_eq_some_iff.1 hz).1
  omega
 clear h hr
 go_enter Try.func57,Try.ntmps57
 go_wp2_with fail
 go_loopw [5] (fun i wr=>∃ q : Nat,q ≤ zs.length ∧ i = .int .i64 q ∧ Hid (abT zs s.toList q) ∧ Hid (Below w.heap.size w wr)) (fun i _=>(intOf i).toNat)
 case atStart=>exact ⟨zs.length,Nat.le_refl _,rfl,ha0,Below.refl _ _⟩
 case round =>
  clear ha0
  obtain ⟨q,hq,rfl,hab,hb⟩:=hrel
  have hI:=Lib.hid (hI0.out.below hb.out)
  have hr:=Lib.hid (hr0.out.below hb.out)
  by_cases hq0 : q = 0
  ·have hins : Hid (Cal.tups (zs ++ [s.toList]) = zs.take q ++ [s.toList] ++ zs.drop q):=Cal.tups_snoc hup (Cal.not_in_at hup hq hab.out (fun z h _=>by omega)) hq hab.out (fun z h _=>by omega)
   have hgz : decide ((0 : Int) < (q : Int)) = false:=by simp;omega
   have hgz2 : decide (0 < q) = false:=by simp;omega
   have hq00 : q ≤ 0:=by omega
   clear hab hq0
   go_wp2_with fail
   have hqi : (q : Int) ≤ (zs.length : Int):=by omega
   obtain ⟨A1,c1,hrun1,hR1⟩:=hI.out.head udTx szTx hq
   obtain ⟨A2,c2,hrun2,hR2⟩:=hI.out.tail udTx szTx hq
   rw [(txtRows_cut zs q).1] at hR1
   rw [(txtRows_cut zs q).2] at hR2
   have hr1:=Lib.hid (fun W (hb : Below wr.heap.size wr W)=>hR1.below hb)
   have hr2:=Lib.hid (fun W (hb : Below wr.heap.size wr W)=>hR2.below hb)
   clear hR1 hR2
   refine wp_region_held_drew (S:=Sx wr []) (by kernel_rfl) (Sx.mk (cs_nil _) (Below.refl _ _)).drew (fun hHeld=>?_)
   refine tkHx 1 34 ?_
   refine tkHx 2 35 ?_
   refine tkHx 3 36 ?_
   refine tkHx 5 38 ?_
   refine tkHx 8 41 ?_
   refine tkHx 9 42 ?_
   refine tkHx 10 43 ?_
   clear hrun1 hrun2
   have hmade : Hid (OwnL (wr.alloc (.cells #[] 9)).drew wr.heap.size 9 1 (.slice (some ⟨wr.heap.size,0,none⟩) 0 0) []):=OwnL.made (World.drew wr) wr.heap.size _ 1 (Nat.le_refl _)
   have hsz1 : (wr.alloc (.cells #[] 9)).drew.heap.size = wr.heap.size + 1:=by show (wr.alloc (.cells #[] 9)).heap.size = _;rw [World.size_alloc]
   have hsrc1 : Hid (RowsAt (wr.alloc (.cells #[.string s] 9)).drew (some ⟨wr.heap.size,0,none⟩) 1 [[.string s]]):=rowsAt_new (World.drew wr) [.string s] 9
   have hsz2 : (wr.alloc (.cells #[.string s] 9)).drew.heap.size = wr.heap.size + 1:=by show (wr.alloc (.cells #[.string s] 9)).heap.size = _;rw [World.size_alloc]
   (refine wpAnyH_ready (rs:=[0,6]) (by decide +kernel) (by simp) ?_;refine AllReadyH.cons rfl (fun K hK=>?_) (AllReadyH.cons rfl (fun K hK=>?_) AllReadyH.nil))
   ·(rw [if_pos (by kernel_rfl)];go_simp)
    refine hK.out _ _ (hHeld.alloc _) (fun hH2=>?_)
    clear hK K hHeld
    have hHeld:=hH2
    clear hH2
    (try simp only [apS,apN,siA,scZ,scS])
    clear hsrc1 hsz2
    have ho:=hmade
    clear hmade
    generalize (wr.alloc (.cells #[] 9)).drew = Wa at *
    (refine wpAnyH_ready (rs:=[4,6]) (by decide +kernel) (by simp) ?_;refine AllReadyH.cons rfl (fun K hK=>?_) (AllReadyH.cons rfl (fun K hK=>?_) AllReadyH.nil))
    ·refine step_append_rows elemTxt (by rfl) (.tmp 33) (.tmp 36) (by rfl) (by rfl) (by rfl) ho.out (hr1.out _ hHeld.bel) (by rw [txtRows_length,List.length_take];omega) (txtRows_wid _) (txtRows_one _) (by rw [txtRows_length,List.length_take,List.length_nil];omega) (by decide) hHeld.bel.size ?_
     intro v3 Wb hown3 hg3 hob3
     refine hK.out _ _ (hHeld.grow hg3 (fun g e=>by cases e;exact Nat.le_refl _) (fun x hx=>by cases hx)) (fun hH2=>?_)
     clear hK K hHeld
     have hHeld:=hH2
     clear hH2
     (try simp only [apS,apN,siA,scZ,scS])
     have hx3:=rowsAt_new Wb [.string s] 9
     have ho3:=Lib.hid (OwnL.below hown3 (below_alloc Wb (.cells #[.string s] 9)))
     clear hown3 hg3 hob3 hsz1 ho
     (refine wpAnyH_ready (rs:=[6]) (by decide +kernel) (by simp) ?_;refine AllReadyH.cons rfl (fun K hK=>?_) AllReadyH.nil)
     (rw [if_pos (by kernel_rfl)];go_simp)
     refine hK.out _ _ (hHeld.alloc _) (fun hH2=>?_)
     clear hK K hHeld
     have hHeld:=hH2
     clear hH2
     (try simp only [apS,apN,siA,scZ,scS])
     have hs3:=Lib.hid hx3
     clear hx3
     generalize Wb.alloc (.cells #[.string s] 9) = Wc at *
     (refine wpAnyH_hide (fun _ _ _ _ _ h=>h) (fun Q0 hp0 hQ0=>?_))
     (refine wpAnyH_ready (rs:=[7]) (by decide +kernel) (by simp) ?_;refine AllReadyH.cons rfl (fun K hK=>?_) AllReadyH.nil)
     refine step_append_rows elemTxt (by rfl) (.tmp 37) (.tmp 39) (by rfl) (by rfl) (by rfl) ho3.out hs3.out rfl (fun r hr=>by rw [List.mem_singleton.1 hr];rfl) (fun r hr u hu=>by rw [List.mem_singleton.1 hr] at hu;rw [List.mem_singleton.1 hu];rfl) (by simp only [txtRows_length,List.length_append,List.length_take,List.length_nil,List.length_singleton];omega) (by decide) hHeld.bel.size ?_
     intro v4 w4 hown4 hg4 _
     refine hK.out _ _ (hHeld.grow hg4 (fun g e=>(OwnL.lt ho3.out g e).1) (fun x hx=>by cases hx)) (fun hH2=>?_)
     clear hK K hHeld
     have hHeld:=hH2
     clear hH2
     (try simp only [apS,apN,siA,scZ,scS])
     (refine wpAnyH_ready (rs:=[11]) (by decide +kernel) (by simp) ?_;refine AllReadyH.cons rfl (fun K hK=>?_) AllReadyH.nil)
     refine step_append_rows elemTxt (by rfl) (.tmp 40) (.tmp 43) (by rfl) (by rfl) (by rfl) hown4 (hr2.out _ hHeld.bel) (by rw [txtRows_length,List.length_drop]) (txtRows_wid _) (txtRows_one _) (by simp only [txtRows_length,List.length_append,List.length_take,List.length_drop,List.length_nil,List.length_singleton];omega) (by decide) hHeld.bel.size ?_
     intro v5 w5 hown5 hg5 _
     refine hK.out _ _ (hHeld.grow hg5 (fun g e=>(OwnL.lt hown4 g e).1) (fun x hx=>by cases hx)) (fun hH2=>?_)
     clear hK K hHeld
     have hHeld:=hH2
     clear hH2
     (try simp only [apS,apN,siA,scZ,scS])
     have hfin5:=Lib.hid (show TextsL w5 wr.heap.size v5 (zs.take q ++ [s.toList] ++ zs.drop q) from by
      show OwnL _ _ _ _ _ _
      have e : txtRows (zs.take q ++ [s.toList] ++ zs.drop q) = [] ++ txtRows (zs.take q) ++ [[.string s]] ++ txtRows (zs.drop q):=by
       rw [List.nil_append]
       unfold txtRows
       rw [List.map_append,List.map_append,List.map_singleton,encStr_of rfl]
      rw [e]
      exact hown5)
     have hb5:=Lib.hid hHeld.bel
     clear hown4 hown5 hg4 hg5
     refine tkQx 12 4 hp0 ?_
     refine wpAnyH_done (by kernel_rfl) ?_ _
     (try simp only [apS,apN,siA,scZ,scS])
     (obtain rfl:=hQ0.out;clear hp0)
     clear hHeld
     go_wp2_with fail
     go_ret
     exact ⟨_,rfl,by rw [hins.out];exact OwnL.less hfin5.out (Nat.le_trans hBw hb.out.size),hb.out.trans (hb5.out.mono hb.out.size)⟩
    ·(rw [if_pos (by kernel_rfl)];go_simp)
     refine hK.out _ _ (hHeld.alloc _) (fun hH2=>?_)
     clear hK K hHeld
     have hHeld:=hH2
     clear hH2
     (try simp only [apS,apN,siA,scZ,scS])
     have hx3:=rowsAt_new Wa [.string s] 9
     rw [hsz1] at hx3
     replace ho:=Lib.hid (OwnL.below ho.out (below_alloc Wa (.cells #[.string s] 9)))
     clear hsz1
     generalize Wa.alloc (.cells #[.string s] 9) = Wb at *
     (refine wpAnyH_ready (rs:=[4]) (by decide +kernel) (by simp) ?_;refine AllReadyH.cons rfl (fun K hK=>?_) AllReadyH.nil)
     refine step_append_rows elemTxt (by rfl) (.tmp 33) (.tmp 36) (by rfl) (by rfl) (by rfl) ho.out (hr1.out _ hHeld.bel) (by rw [txtRows_length,List.length_take];omega) (txtRows_wid _) (txtRows_one _) (by rw [txtRows_length,List.length_take,List.length_nil];omega) (by decide) hHeld.bel.size ?_
     intro v3 Wc hown3 hg3 hob3
     refine hK.out _ _ (hHeld.grow hg3 (fun g e=>by cases e;exact Nat.le_refl _) (fun x hx=>by cases hx)) (fun hH2=>?_)
     clear hK K hHeld
     have hHeld:=hH2
     clear hH2
     (try simp only [apS,apN,siA,scZ,scS])
     have hs3:=Lib.hid (rows_far hx3 hg3 (fun a e=>by cases e;show some (wr.heap.size + 1) ≠ some wr.heap.size;simp))
     have ho3:=Lib.hid hown3
     clear hown3 hg3 hob3 hx3 ho
     (refine wpAnyH_hide (fun _ _ _ _ _ h=>h) (fun Q0 hp0 hQ0=>?_))
     (refine wpAnyH_ready (rs:=[7]) (by decide +kernel) (by simp) ?_;refine AllReadyH.cons rfl (fun K hK=>?_) AllReadyH.nil)
     refine step_append_rows elemTxt (by rfl) (.tmp 37) (.tmp 39) (by rfl) (by rfl) (by rfl) ho3.out hs3.out rfl (fun r hr=>by rw [List.mem_singleton.1 hr];rfl) (fun r hr u hu=>by rw [List.mem_singleton.1 hr] at hu;rw [List.mem_singleton.1 hu];rfl) (by simp only [txtRows_length,List.length_append,List.length_take,List.length_nil,List.length_singleton];omega) (by decide) hHeld.bel.size ?_
     intro v4 w4 hown4 hg4 _
     refine hK.out _ _ (hHeld.grow hg4 (fun g e=>(OwnL.lt ho3.out g e).1) (fun x hx=>by cases hx)) (fun hH2=>?_)
     clear hK K hHeld
     have hHeld:=hH2
     clear hH2
     (try simp only [apS,apN,siA,scZ,scS])
     (refine wpAnyH_ready (rs:=[11]) (by decide +kernel) (by simp) ?_;refine AllReadyH.cons rfl (fun K hK=>?_) AllReadyH.nil)
     refine step_append_rows elemTxt (by rfl) (.tmp 40) (.tmp 43) (by rfl) (by rfl) (by rfl) hown4 (hr2.out _ hHeld.bel) (by rw [txtRows_length,List.length_drop]) (txtRows_wid _) (txtRows_one _) (by simp only [txtRows_length,List.length_append,List.length_take,List.length_drop,List.length_nil,List.length_singleton];omega) (by decide) hHeld.bel.size ?_
     intro v5 w5 hown5 hg5 _
     refine hK.out _ _ (hHeld.grow hg5 (fun g e=>(OwnL.lt hown4 g e).1) (fun x hx=>by cases hx)) (fun hH2=>?_)
     clear hK K hHeld
     have hHeld:=hH2
     clear hH2
     (try simp only [apS,apN,siA,scZ,scS])
     have hfin5:=Lib.hid (show TextsL w5 wr.heap.size v5 (zs.take q ++ [s.toList] ++ zs.drop q) from by
      show OwnL _ _ _ _ _ _
      have e : txtRows (zs.take q ++ [s.toList] ++ zs.drop q) = [] ++ txtRows (zs.take q) ++ [[.string s]] ++ txtRows (zs.drop q):=by
       rw [List.nil_append]
       unfold txtRows
       rw [List.map_append,List.map_append,List.map_singleton,encStr_of rfl]
      rw [e]
      exact hown5)
     have hb5:=Lib.hid hHeld.bel
     clear hown4 hown5 hg4 hg5
     refine tkQx 12 4 hp0 ?_
     refine wpAnyH_done (by kernel_rfl) ?_ _
     (try simp only [apS,apN,siA,scZ,scS])
     (obtain rfl:=hQ0.out;clear hp0)
     clear hHeld
     go_wp2_with fail
     go_ret
     exact ⟨_,rfl,by rw [hins.out];exact OwnL.less hfin5.out (Nat.le_trans hBw hb.out.size),hb.out.trans (hb5.out.mono hb.out.size)⟩
   ·(rw [if_pos (by kernel_rfl)];go_simp)
    refine hK.out _ _ (hHeld.alloc _) (fun hH2=>?_)
    clear hK K hHeld
    have hHeld:=hH2
    clear hH2
    (try simp only [apS,apN,siA,scZ,scS])
    clear hmade hsz1
    have hx1:=hsrc1
    clear hsrc1
    generalize (wr.alloc (.cells #[.string s] 9)).drew = Wa at *
    have ho0:=OwnL.made Wa wr.heap.size 9 1 hHeld.bel.size
    rw [hsz2] at ho0
    have ho:=Lib.hid ho0
    clear ho0
    have hx3:=hx1.out.below (below_alloc Wa (.cells #[] 9))
    (refine wpAnyH_ready (rs:=[0]) (by decide +kernel) (by simp) ?_;refine AllReadyH.cons rfl (fun K hK=>?_) AllReadyH.nil)
    (rw [if_pos (by kernel_rfl)];go_simp)
    refine hK.out _ _ (hHeld.alloc _) (fun hH2=>?_)
    clear hK K hHeld
    have hHeld:=hH2
    clear hH2
    (try simp only [apS,apN,siA,scZ,scS])
    clear hsz2
    generalize Wa.alloc (.cells #[] 9) = Wb at *
    clear hx1
    (refine wpAnyH_ready (rs:=[4]) (by decide +kernel) (by simp) ?_;refine AllReadyH.cons rfl (fun K hK=>?_) AllReadyH.nil)
    refine step_append_rows elemTxt (by rfl) (.tmp 33) (.tmp 36) (by rfl) (by rfl) (by rfl) ho.out (hr1.out _ hHeld.bel) (by rw [txtRows_length,List.length_take];omega) (txtRows_wid _) (txtRows_one _) (by rw [txtRows_length,List.length_take,List.length_nil];omega) (by decide) hHeld.bel.size ?_
    intro v3 Wc hown3 hg3 hob3
    refine hK.out _ _ (hHeld.grow hg3 (fun g e=>by cases e;exact Nat.le_succ _) (fun x hx=>by cases hx)) (fun hH2=>?_)
    clear hK K hHeld
    have hHeld:=hH2
    clear hH2
    (try simp only [apS,apN,siA,scZ,scS])
    have hs3:=Lib.hid (rows_far hx3 hg3 (fun a e=>by cases e;show some wr.heap.size ≠ some (wr.heap.size + 1);simp))
    have ho3:=Lib.hid hown3
    clear hown3 hg3 hob3 hx3 ho
    (refine wpAnyH_hide (fun _ _ _ _ _ h=>h) (fun Q0 hp0 hQ0=>?_))
    (refine wpAnyH_ready (rs:=[7]) (by decide +kernel) (by simp) ?_;refine AllReadyH.cons rfl (fun K hK=>?_) AllReadyH.nil)
    refine step_append_rows elemTxt (by rfl) (.tmp 37) (.tmp 39) (by rfl) (by rfl) (by rfl) ho3.out hs3.out rfl (fun r hr=>by rw [List.mem_singleton.1 hr];rfl) (fun r hr u hu=>by rw [List.mem_singleton.1 hr] at hu;rw [List.mem_singleton.1 hu];rfl) (by simp only [txtRows_length,List.length_append,List.length_take,List.length_nil,List.length_singleton];omega) (by decide) hHeld.bel.size ?_
    intro v4 w4 hown4 hg4 _
    refine hK.out _ _ (hHeld.grow hg4 (fun g e=>(OwnL.lt ho3.out g e).1) (fun x hx=>by cases hx)) (fun hH2=>?_)
    clear hK K hHeld
    have hHeld:=hH2
    clear hH2
    (try simp only [apS,apN,siA,scZ,scS])
    (refine wpAnyH_ready (rs:=[11]) (by decide +kernel) (by simp) ?_;refine AllReadyH.cons rfl (fun K hK=>?_) AllReadyH.nil)
    refine step_append_rows elemTxt (by rfl) (.tmp 40) (.tmp 43) (by rfl) (by rfl) (by rfl) hown4 (hr2.out _ hHeld.bel) (by rw [txtRows_length,List.length_drop]) (txtRows_wid _) (txtRows_one _) (by simp only [txtRows_length,List.length_append,List.length_take,List.length_drop,List.length_nil,List.length_singleton];omega) (by decide) hHeld.bel.size ?_
    intro v5 w5 hown5 hg5 _
    refine hK.out _ _ (hHeld.grow hg5 (fun g e=>(OwnL.lt hown4 g e).1) (fun x hx=>by cases hx)) (fun hH2=>?_)
    clear hK K hHeld
    have hHeld:=hH2
    clear hH2
    (try simp only [apS,apN,siA,scZ,scS])
    have hfin5:=Lib.hid (show TextsL w5 wr.heap.size v5 (zs.take q ++ [s.toList] ++ zs.drop q) from by
     show OwnL _ _ _ _ _ _
     have e : txtRows (zs.take q ++ [s.toList] ++ zs.drop q) = [] ++ txtRows (zs.take q) ++ [[.string s]] ++ txtRows (zs.drop q):=by
      rw [List.nil_append]
      unfold txtRows
      rw [List.map_append,List.map_append,List.map_singleton,encStr_of rfl]
     rw [e]
     exact hown5)
    have hb5:=Lib.hid hHeld.bel
    clear hown4 hown5 hg4 hg5
    refine tkQx 12 4 hp0 ?_
    refine wpAnyH_done (by kernel_rfl) ?_ _
    (try simp only [apS,apN,siA,scZ,scS])
    (obtain rfl:=hQ0.out;clear hp0)
    clear hHeld
    go_wp2_with fail
    go_ret
    exact ⟨_,rfl,by rw [hins.out];exact OwnL.less hfin5.out (Nat.le_trans hBw hb.out.size),hb.out.trans (hb5.out.mono hb.out.size)⟩
  ·have hq1 : q - 1 < zs.length:=by omega
   obtain ⟨b2,o2,rfl,_,zb,hzb,e1⟩:=txtRow_at hr.out hq1
   have hz9:=Lib.hid (List.getElem?_eq_getElem hq1)
   rw [← hzb] at hz9
   have p1 : IntKind.i64.wrap ((q : Int) - 1) = (q : Int) - 1:=wrap_small (by omega) (by omega)
   have p2 : (1 : Int) ≤ (q : Int):=by omega
   have p3 : (0 : Int) < (q : Int):=by omega
   have p4 : (q : Int) - 1 < (zs.length : Int):=by omega
   have p5 : ((q : Int) - 1).toNat = q - 1:=by omega
   have p6 : (0 : Int) ≤ (q : Int) - 1:=by omega
   have p7 : 0 < q:=by omega
   have p8 : 1 ≤ q:=by omega
   clear hzb
   cases h1 : Op.bytesLess s.toList zb.toList
   ·have hle : zb.toList ≤ s.toList:=by
     rw [bytesLess_eq,decide_eq_false_iff_not] at h1
     exact List.not_lt.1 h1
    cases h2 : (zb.toList == s.toList)
    ·have hins : Hid (Cal.tups (zs ++ [s.toList]) = zs.take q ++ [s.toList] ++ zs.drop q):=by
      have hne : zb.toList ≠ s.toList:=by simpa using h2
      refine Cal.tups_snoc hup (Cal.not_in_at hup hq hab.out (fun z _ hz=>?_)) hq hab.out (fun z _ hz=>?_)
      ·rw [hz9.out] at hz;cases hz;exact ⟨hle,hne⟩
      ·rw [hz9.out] at hz;cases hz;exact hle
     clear hle hq0 hz9 hab
     go_wp2_with fail
     clear e1 h1 h2 p1 p2 p3 p4 p5 p6
     have hqi : (q : Int) ≤ (zs.length : Int):=by omega
     obtain ⟨A1,c1,hrun1,hR1⟩:=hI.out.head udTx szTx hq
     obtain ⟨A2,c2,hrun2,hR2⟩:=hI.out.tail udTx szTx hq
     rw [(txtRows_cut zs q).1] at hR1
     rw [(txtRows_cut zs q).2] at hR2
     have hr1:=Lib.hid (fun W (hb : Below wr.heap.size wr W)=>hR1.below hb)
     have hr2:=Lib.hid (fun W (hb : Below wr.heap.size wr W)=>hR2.below hb)
     clear hR1 hR2
     refine wp_region_held_drew (S:=Sx wr []) (by kernel_rfl) (Sx.mk (cs_nil _) (Below.refl _ _)).drew (fun hHeld=>?_)
     refine tkHx 1 34 ?_
     refine tkHx 2 35 ?_
     refine tkHx 3 36 ?_
     refine tkHx 5 38 ?_
     refine tkHx 8 41 ?_
     refine tkHx 9 42 ?_
     refine tkHx 10 43 ?_
     clear hrun1 hrun2
     have hmade : Hid (OwnL (wr.alloc (.cells #[] 9)).drew wr.heap.size 9 1 (.slice (some ⟨wr.heap.size,0,none⟩) 0 0) []):=OwnL.made (World.drew wr) wr.heap.size _ 1 (Nat.le_refl _)
     have hsz1 : (wr.alloc (.cells #[] 9)).drew.heap.size = wr.heap.size + 1:=by show (wr.alloc (.cells #[] 9)).heap.size = _;rw [World.size_alloc]
     have hsrc1 : Hid (RowsAt (wr.alloc (.cells #[.string s] 9)).drew (some ⟨wr.heap.size,0,none⟩) 1 [[.string s]]):=rowsAt_new (World.drew wr) [.string s] 9
     have hsz2 : (wr.alloc (.cells #[.string s] 9)).drew.heap.size = wr.heap.size + 1:=by show (wr.alloc (.cells #[.string s] 9)).heap.size = _;rw [World.size_alloc]
     (refine wpAnyH_ready (rs:=[0,6]) (by decide +kernel) (by simp) ?_;refine AllReadyH.cons rfl (fun K hK=>?_) (AllReadyH.cons rfl (fun K hK=>?_) AllReadyH.nil))
     ·(rw [if_pos (by kernel_rfl)];go_simp)
      refine hK.out _ _ (hHeld.alloc _) (fun hH2=>?_)
      clear hK K hHeld
      have hHeld:=hH2
      clear hH2
      (try simp only [apS,apN,siA,scZ,scS])
      clear hsrc1 hsz2
      have ho:=hmade
      clear hmade
      generalize (wr.alloc (.cells #[] 9)).drew = Wa at *
      (refine wpAnyH_ready (rs:=[4,6]) (by decide +kernel) (by simp) ?_;refine AllReadyH.cons rfl (fun K hK=>?_) (AllReadyH.cons rfl (fun K hK=>?_) AllReadyH.nil))
      ·refine step_append_rows elemTxt (by rfl) (.tmp 33) (.tmp 36) (by rfl) (by rfl) (by rfl) ho.out (hr1.out _ hHeld.bel) (by rw [txtRows_length,List.length_take];omega) (txtRows_wid _) (txtRows_one _) (by rw [txtRows_length,List.length_take,List.length_nil];omega) (by decide) hHeld.bel.size ?_
       intro v3 Wb hown3 hg3 hob3
       refine hK.out _ _ (hHeld.grow hg3 (fun g e=>by cases e;exact Nat.le_refl _) (fun x hx=>by cases hx)) (fun hH2=>?_)
       clear hK K hHeld
       have hHeld:=hH2
       clear hH2
       (try simp only [apS,apN,siA,scZ,scS])
       have hx3:=rowsAt_new Wb [.string s] 9
       have ho3:=Lib.hid (OwnL.below hown3 (below_alloc Wb (.cells #[.string s] 9)))
       clear hown3 hg3 hob3 hsz1 ho
       (refine wpAnyH_ready (rs:=[6]) (by decide +kernel) (by simp) ?_;refine AllReadyH.cons rfl (fun K hK=>?_) AllReadyH.nil)
       (rw [if_pos (by kernel_rfl)];go_simp)
       refine hK.out _ _ (hHeld.alloc _) (fun hH2=>?_)
       clear hK K hHeld
       have hHeld:=hH2
       clear hH2
       (try simp only [apS,apN,siA,scZ,scS])
       have hs3:=Lib.hid hx3
       clear hx3
       generalize Wb.alloc (.cells #[.string s] 9) = Wc at *
       (refine wpAnyH_hide (fun _ _ _ _ _ h=>h) (fun Q0 hp0 hQ0=>?_))
       (refine wpAnyH_ready (rs:=[7]) (by decide +kernel) (by simp) ?_;refine AllReadyH.cons rfl (fun K hK=>?_) AllReadyH.nil)
       refine step_append_rows elemTxt (by rfl) (.tmp 37) (.tmp 39) (by rfl) (by rfl) (by rfl) ho3.out hs3.out rfl (fun r hr=>by rw [List.mem_singleton.1 hr];rfl) (fun r hr u hu=>by rw [List.mem_singleton.1 hr] at hu;rw [List.mem_singleton.1 hu];rfl) (by simp only [txtRows_length,List.length_append,List.length_take,List.length_nil,List.length_singleton];omega) (by decide) hHeld.bel.size ?_
       intro v4 w4 hown4 hg4 _
       refine hK.out _ _ (hHeld.grow hg4 (fun g e=>(OwnL.lt ho3.out g e).1) (fun x hx=>by cases hx)) (fun hH2=>?_)
       clear hK K hHeld
       have hHeld:=hH2
       clear hH2
       (try simp only [apS,apN,siA,scZ,scS])
       (refine wpAnyH_ready (rs:=[11]) (by decide +kernel) (by simp) ?_;refine AllReadyH.cons rfl (fun K hK=>?_) AllReadyH.nil)
       refine step_append_rows elemTxt (by rfl) (.tmp 40) (.tmp 43) (by rfl) (by rfl) (by rfl) hown4 (hr2.out _ hHeld.bel) (by rw [txtRows_length,List.length_drop]) (txtRows_wid _) (txtRows_one _) (by simp only [txtRows_length,List.length_append,List.length_take,List.length_drop,List.length_nil,List.length_singleton];omega) (by decide) hHeld.bel.size ?_
       intro v5 w5 hown5 hg5 _
       refine hK.out _ _ (hHeld.grow hg5 (fun g e=>(OwnL.lt hown4 g e).1) (fun x hx=>by cases hx)) (fun hH2=>?_)
       clear hK K hHeld
       have hHeld:=hH2
       clear hH2
       (try simp only [apS,apN,siA,scZ,scS])
       have hfin5:=Lib.hid (show TextsL w5 wr.heap.size v5 (zs.take q ++ [s.toList] ++ zs.drop q) from by
        show OwnL _ _ _ _ _ _
        have e : txtRows (zs.take q ++ [s.toList] ++ zs.drop q) = [] ++ txtRows (zs.take q) ++ [[.string s]] ++ txtRows (zs.drop q):=by
         rw [List.nil_append]
         unfold txtRows
         rw [List.map_append,List.map_append,List.map_singleton,encStr_of rfl]
        rw [e]
        exact hown5)
       have hb5:=Lib.hid hHeld.bel
       clear hown4 hown5 hg4 hg5
       refine tkQx 12 4 hp0 ?_
       refine wpAnyH_done (by kernel_rfl) ?_ _
       (try simp only [apS,apN,siA,scZ,scS])
       (obtain rfl:=hQ0.out;clear hp0)
       clear hHeld
       go_wp2_with fail
       go_ret
       exact ⟨_,rfl,by rw [hins.out];exact OwnL.less hfin5.out (Nat.le_trans hBw hb.out.size),hb.out.trans (hb5.out.mono hb.out.size)⟩
      ·(rw [if_pos (by kernel_rfl)];go_simp)
       refine hK.out _ _ (hHeld.alloc _) (fun hH2=>?_)
       clear hK K hHeld
       have hHeld:=hH2
       clear hH2
       (try simp only [apS,apN,siA,scZ,scS])
       have hx3:=rowsAt_new Wa [.string s] 9
       rw [hsz1] at hx3
       replace ho:=Lib.hid (OwnL.below ho.out (below_alloc Wa (.cells #[.string s] 9)))
       clear hsz1
       generalize Wa.alloc (.cells #[.string s] 9) = Wb at *
       (refine wpAnyH_ready (rs:=[4]) (by decide +kernel) (by simp) ?_;refine AllReadyH.cons rfl (fun K hK=>?_) AllReadyH.nil)
       refine step_append_rows elemTxt (by rfl) (.tmp 33) (.tmp 36) (by rfl) (by rfl) (by rfl) ho.out (hr1.out _ hHeld.bel) (by rw [txtRows_length,List.length_take];omega) (txtRows_wid _) (txtRows_one _) (by rw [txtRows_length,List.length_take,List.length_nil];omega) (by decide) hHeld.bel.size ?_
       intro v3 Wc hown3 hg3 hob3
       refine hK.out _ _ (hHeld.grow hg3 (fun g e=>by cases e;exact Nat.le_refl _) (fun x hx=>by cases hx)) (fun hH2=>?_)
       clear hK K hHeld
       have hHeld:=hH2
       clear hH2
       (try simp only [apS,apN,siA,scZ,scS])
       have hs3:=Lib.hid (rows_far hx3 hg3 (fun a e=>by cases e;show some (wr.heap.size + 1) ≠ some wr.heap.size;simp))
       have ho3:=Lib.hid hown3
       clear hown3 hg3 hob3 hx3 ho
       (refine wpAnyH_hide (fun _ _ _ _ _ h=>h) (fun Q0 hp0 hQ0=>?_))
       (refine wpAnyH_ready (rs:=[7]) (by decide +kernel) (by simp) ?_;refine AllReadyH.cons rfl (fun K hK=>?_) AllReadyH.nil)
       refine step_append_rows elemTxt (by rfl) (.tmp 37) (.tmp 39) (by rfl) (by rfl) (by rfl) ho3.out hs3.out rfl (fun r hr=>by rw [List.mem_singleton.1 hr];rfl) (fun r hr u hu=>by rw [List.mem_singleton.1 hr] at hu;rw [List.mem_singleton.1 hu];rfl) (by simp only [txtRows_length,List.length_append,List.length_take,List.length_nil,List.length_singleton];omega) (by decide) hHeld.bel.size ?_
       intro v4 w4 hown4 hg4 _
       refine hK.out _ _ (hHeld.grow hg4 (fun g e=>(OwnL.lt ho3.out g e).1) (fun x hx=>by cases hx)) (fun hH2=>?_)
       clear hK K hHeld
       have hHeld:=hH2
       clear hH2
       (try simp only [apS,apN,siA,scZ,scS])
       (refine wpAnyH_ready (rs:=[11]) (by decide +kernel) (by simp) ?_;refine AllReadyH.cons rfl (fun K hK=>?_) AllReadyH.nil)
       refine step_append_rows elemTxt (by rfl) (.tmp 40) (.tmp 43) (by rfl) (by rfl) (by rfl) hown4 (hr2.out _ hHeld.bel) (by rw [txtRows_length,List.length_drop]) (txtRows_wid _) (txtRows_one _) (by simp only [txtRows_length,List.length_append,List.length_take,List.length_drop,List.length_nil,List.length_singleton];omega) (by decide) hHeld.bel.size ?_
       intro v5 w5 hown5 hg5 _
       refine hK.out _ _ (hHeld.grow hg5 (fun g e=>(OwnL.lt hown4 g e).1) (fun x hx=>by cases hx)) (fun hH2=>?_)
       clear hK K hHeld
       have hHeld:=hH2
       clear hH2
       (try simp only [apS,apN,siA,scZ,scS])
       have hfin5:=Lib.hid (show TextsL w5 wr.heap.size v5 (zs.take q ++ [s.toList] ++ zs.drop q) from by
        show OwnL _ _ _ _ _ _
        have e : txtRows (zs.take q ++ [s.toList] ++ zs.drop q) = [] ++ txtRows (zs.take q) ++ [[.string s]] ++ txtRows (zs.drop q):=by
         rw [List.nil_append]
         unfold txtRows
         rw [List.map_append,List.map_append,List.map_singleton,encStr_of rfl]
        rw [e]
        exact hown5)
       have hb5:=Lib.hid hHeld.bel
       clear hown4 hown5 hg4 hg5
       refine tkQx 12 4 hp0 ?_
       refine wpAnyH_done (by kernel_rfl) ?_ _
       (try simp only [apS,apN,siA,scZ,scS])
       (obtain rfl:=hQ0.out;clear hp0)
       clear hHeld
       go_wp2_with fail
       go_ret
       exact ⟨_,rfl,by rw [hins.out];exact OwnL.less hfin5.out (Nat.le_trans hBw hb.out.size),hb.out.trans (hb5.out.mono hb.out.size)⟩
     ·(rw [if_pos (by kernel_rfl)];go_simp)
      refine hK.out _ _ (hHeld.alloc _) (fun hH2=>?_)
      clear hK K hHeld
      have hHeld:=hH2
      clear hH2
      (try simp only [apS,apN,siA,scZ,scS])
      clear hmade hsz1
      have hx1:=hsrc1
      clear hsrc1
      generalize (wr.alloc (.cells #[.string s] 9)).drew = Wa at *
      have ho0:=OwnL.made Wa wr.heap.size 9 1 hHeld.bel.size
      rw [hsz2] at ho0
      have ho:=Lib.hid ho0
      clear ho0
      have hx3:=hx1.out.below (below_alloc Wa (.cells #[] 9))
      (refine wpAnyH_ready (rs:=[0]) (by decide +kernel) (by simp) ?_;refine AllReadyH.cons rfl (fun K hK=>?_) AllReadyH.nil)
      (rw [if_pos (by kernel_rfl)];go_simp)
      refine hK.out _ _ (hHeld.alloc _) (fun hH2=>?_)
      clear hK K hHeld
      have hHeld:=hH2
      clear hH2
      (try simp only [apS,apN,siA,scZ,scS])
      clear hsz2
      generalize Wa.alloc (.cells #[] 9) = Wb at *
      clear hx1
      (refine wpAnyH_ready (rs:=[4]) (by decide +kernel) (by simp) ?_;refine AllReadyH.cons rfl (fun K hK=>?_) AllReadyH.nil)
      refine step_append_rows elemTxt (by rfl) (.tmp 33) (.tmp 36) (by rfl) (by rfl) (by rfl) ho.out (hr1.out _ hHeld.bel) (by rw [txtRows_length,List.length_take];omega) (txtRows_wid _) (txtRows_one _) (by rw [txtRows_length,List.length_take,List.length_nil];omega) (by decide) hHeld.bel.size ?_
      intro v3 Wc hown3 hg3 hob3
      refine hK.out _ _ (hHeld.grow hg3 (fun g e=>by cases e;exact Nat.le_succ _) (fun x hx=>by cases hx)) (fun hH2=>?_)
      clear hK K hHeld
      have hHeld:=hH2
      clear hH2
      (try simp only [apS,apN,siA,scZ,scS])
      have hs3:=Lib.hid (rows_far hx3 hg3 (fun a e=>by cases e;show some wr.heap.size ≠ some (wr.heap.size + 1);simp))
      have ho3:=Lib.hid hown3
      clear hown3 hg3 hob3 hx3 ho
      (refine wpAnyH_hide (fun _ _ _ _ _ h=>h) (fun Q0 hp0 hQ0=>?_))
      (refine wpAnyH_ready (rs:=[7]) (by decide +kernel) (by simp) ?_;refine AllReadyH.cons rfl (fun K hK=>?_) AllReadyH.nil)
      refine step_append_rows elemTxt (by rfl) (.tmp 37) (.tmp 39) (by rfl) (by rfl) (by rfl) ho3.out hs3.out rfl (fun r hr=>by rw [List.mem_singleton.1 hr];rfl) (fun r hr u hu=>by rw [List.mem_singleton.1 hr] at hu;rw [List.mem_singleton.1 hu];rfl) (by simp only [txtRows_length,List.length_append,List.length_take,List.length_nil,List.length_singleton];omega) (by decide) hHeld.bel.size ?_
      intro v4 w4 hown4 hg4 _
      refine hK.out _ _ (hHeld.grow hg4 (fun g e=>(OwnL.lt ho3.out g e).1) (fun x hx=>by cases hx)) (fun hH2=>?_)
      clear hK K hHeld
      have hHeld:=hH2
      clear hH2
      (try simp only [apS,apN,siA,scZ,scS])
      (refine wpAnyH_ready (rs:=[11]) (by decide +kernel) (by simp) ?_;refine AllReadyH.cons rfl (fun K hK=>?_) AllReadyH.nil)
      refine step_append_rows elemTxt (by rfl) (.tmp 40) (.tmp 43) (by rfl) (by rfl) (by rfl) hown4 (hr2.out _ hHeld.bel) (by rw [txtRows_length,List.length_drop]) (txtRows_wid _) (txtRows_one _) (by simp only [txtRows_length,List.length_append,List.length_take,List.length_drop,List.length_nil,List.length_singleton];omega) (by decide) hHeld.bel.size ?_
      intro v5 w5 hown5 hg5 _
      refine hK.out _ _ (hHeld.grow hg5 (fun g e=>(OwnL.lt hown4 g e).1) (fun x hx=>by cases hx)) (fun hH2=>?_)
      clear hK K hHeld
      have hHeld:=hH2
      clear hH2
      (try simp only [apS,apN,siA,scZ,scS])
      have hfin5:=Lib.hid (show TextsL w5 wr.heap.size v5 (zs.take q ++ [s.toList] ++ zs.drop q) from by
       show OwnL _ _ _ _ _ _
       have e : txtRows (zs.take q ++ [s.toList] ++ zs.drop q) = [] ++ txtRows (zs.take q) ++ [[.string s]] ++ txtRows (zs.drop q):=by
        rw [List.nil_append]
        unfold txtRows
        rw [List.map_append,List.map_append,List.map_singleton,encStr_of rfl]
       rw [e]
       exact hown5)
      have hb5:=Lib.hid hHeld.bel
      clear hown4 hown5 hg4 hg5
      refine tkQx 12 4 hp0 ?_
      refine wpAnyH_done (by kernel_rfl) ?_ _
      (try simp only [apS,apN,siA,scZ,scS])
      (obtain rfl:=hQ0.out;clear hp0)
      clear hHeld
      go_wp2_with fail
      go_ret
      exact ⟨_,rfl,by rw [hins.out];exact OwnL.less hfin5.out (Nat.le_trans hBw hb.out.size),hb.out.trans (hb5.out.mono hb.out.size)⟩
    ·have hin : Hid (Cal.tups (zs ++ [s.toList]) = zs):=Cal.tups_snoc_in hup (by
      have he:=hz9.out
      rw [eq_of_beq h2] at he
      exact List.mem_of_getElem? he)
     clear hle hq0 hz9 hab
     go_wp2_with fail
     go_ret
     exact ⟨_,rfl,by rw [hin.out];exact hI.out,hb.out⟩
   ·have hnx : Hid (abT zs s.toList (q - 1)):=fun j y hj hy=>by
     rcases Nat.lt_or_ge (q - 1) j with h' | h'
     ·exact hab.out j y (by omega) hy
     ·obtain rfl : j = q - 1:=by omega
      rw [hz9.out] at hy;cases hy
      rw [bytesLess_eq,decide_eq_true_iff] at h1
      exact h1
    clear hq0 hz9 hab
    go_wp2_with fail
    go_roundw
    case rel=>exact ⟨q - 1,by omega,by go_num,hnx,hb⟩
    case measure=>simp [intOf];omega
theorem newsOf_take {l : List Rn} {k : Nat} (h : k < l.length) (x : Cal.Txt) : Cal.newsOf (l.take (k + 1)) x = Cal.newsOf (l.take k) x ++ (if l[k].old = x then [l[k].new] else []) ∧ Cal.knownT (l.take (k + 1)) x = (Cal.knownT (l.take k) x || (l[k].old == x)):=by
 rw [List.take_succ_eq_append_getElem h,Cal.newsOf_append,knownT_snoc]
 exact ⟨rfl,rfl⟩
theorem ImagesR_any (A : Option Addr) (c : Nat) (l : List Rn) (N : Option Addr) (d : Nat) (names : List Cal.Txt) (w : World) (hl : Rns w A l) (hn : Txs w N names) (h0 : Cal.numE l = 0) :
  Calls Try.prog 24 #[.slice A l.length c,.slice N names.length d] w fun e w'=>∃ v,e = .returned (.tuple #[v,.int .i64 (Cal.imgE l names)]) ∧ TextsL w' w.heap.size v (Cal.imgR l names) ∧ Below w.heap.size w w':=by
 obtain ⟨hl200,_,_⟩:=Cal.numE_zero.1 h0
 have hb0 : Hid (Below w.heap.size w w):=Below.refl _ _
 by_cases hbig : 200 < names.length
 ·have hE : Cal.imgE l names = 8:=by unfold Cal.imgE;rw [if_pos h0,if_pos hbig]
  have hR : Cal.imgR l names = []:=by unfold Cal.imgR;rw [hE];rfl
  have hbi : 200 < (names.length : Int):=by omega
  rw [hE,hR]
  clear hE hR hl hn h0
  go_enter Try.func24,Try.ntmps24
  go_wp2_with fail
  go_ret2
  exact ⟨_,rfl,OwnL.nil _ _ _ _,hb0.out⟩
 ·obtain ⟨R,hRR⟩ : ∃ R,Cal.imgE l names = R:=⟨_,rfl⟩
  have hR : Hid (R = Cal.imgF l (names.drop 0)):=by show _ = _;rw [← hRR];unfold Cal.imgE;rw [if_pos h0,if_neg hbig];rfl
  have hRz : Hid (Cal.imgR l names = Cal.iteR R (Cal.tups (Cal.imgL l names))):=by show _ = _;unfold Cal.imgR;rw [hRR];rfl
  have hbi : ¬ 200 < (names.length : Int):=by omega
  rw [hRR,hRz.out]
  clear hRR hRz h0
  replace hl:=Lib.hid hl
  replace hn:=Lib.hid hn
  have hO0 : Hid (TextsL w w.heap.size (.slice none 0 0) (Cal.tups (Cal.imgL l (names.take 0)))):=by
   show TextsL _ _ _ _
   rw [List.take_zero,show Cal.imgL l [] = [] from rfl,Cal.tups_nil]
   exact OwnL.nil _ _ _ _
  go_enter Try.func24,Try.ntmps24
  go_wp2_with fail
  go_loopw [6,7] (fun ov i wr=>∃ (k : Nat) (v : Value),k ≤ names.length ∧ i = .int .i64 k ∧ ov = v ∧ Hid (TextsL wr w.heap.size v (Cal.tups (Cal.imgL l (names.take k)))) ∧ Hid (Below w.heap.size w wr) ∧ Hid (R = Cal.imgF l (names.drop k))) (fun _ i _=>names.length - (intOf i).toNat)
  case atStart=>exact ⟨0,_,Nat.zero_le _,rfl,rfl,hO0,hb0,hR⟩
  case round =>
   clear hR hO0 hb0
   obtain ⟨i,v,hi,rfl,rfl,hO,hb,hR⟩:=hrel
   by_cases hlt : i < names.length
   ·have htk : Hid (Cal.imgL l (names.take (i + 1)) = Cal.imgL l (names.take i) ++ Cal.newsOf l names[i]):=by show _ = _;rw [List.take_succ_eq_append_getElem hlt,Cal.imgL_append]
    have hR':=hR.out
    rw [List.drop_eq_getElem_cons hlt,Cal.imgF_cons] at hR'
    have hln:=hn.out.len _ (List.getElem_mem hlt)
    have hil:=Cal.imgL_len l (names.take i)
    rw [List.length_take,Nat.min_eq_left hi] at hil
    have hil2:=Nat.mul_le_mul (show i ≤ 200 by omega) hl200
    obtain ⟨bN,oN,rfl,_,nb,hnb,e0⟩:=txtRow_at (hn.out.rows.below hb.out) hlt
    have hnb2:=Lib.hid (fun W (hW : Below w.heap.size w W)=>txtRow_at (hn.out.rows.below hW) hlt)
    have hgi:=Lib.hid (rfl : names[i] = names[i])
    replace hR:=Lib.hid hR'
    clear hR' hgi
    generalize hxx : names[i] = x at *
    have hs1 : nb.size ≤ maxLen:=by rw [size_len hnb];exact hln
    have hn1:=Lib.hid (fun W=>IsName_any nb W hs1)
    rw [← nmT_of,hnb] at hn1
    have hki : (i : Int) < (names.length : Int):=by omega
    replace hxx:=Lib.hid hxx
    clear hs1 hln
    cases h1 : nmT x
    ·rw [h1] at hn1 hR
     have hfin : Hid (R = 4):=hR.out
     clear hR hnb
     go_wp2_with (go_at_call 41;refine (hn1.out _).mono ?_;rintro e0 wn ⟨rfl,rfl⟩)
     go_ret2
     exact ⟨_,by rw [hfin.out];rfl,by rw [hfin.out];exact OwnL.nil _ _ _ _,hb.out⟩
    rw [h1] at hn1 hR
    generalize Cal.imgL l (names.take i) = seen at *
    have hO1 : Hid (TextsL wr w.heap.size u6 (Cal.tups (seen ++ Cal.newsOf (l.take 0) x))):=by
     show TextsL _ _ _ _
     rw [List.take_zero,show Cal.newsOf [] x = [] from rfl,List.append_nil]
     exact hO.out
    clear hO h1
    go_wp2_with (go_at_call 41;refine (hn1.out _).mono ?_;rintro e0 wn ⟨rfl,rfl⟩;clear hn1)
    clear e0
    go_loopw [6,8,9] (fun ov fv kv wr=>∃ (k : Nat) (v : Value),k ≤ l.length ∧ kv = .int .i64 k ∧ ov = v ∧ fv = .bool (Cal.knownT (l.take k) x) ∧ Hid (TextsL wr w.heap.size v (Cal.tups (seen ++ Cal.newsOf (l.take k) x))) ∧ Hid (Below w.heap.size w wr)) (fun _ _ kv _=>l.length - (intOf kv).toNat)
    case atStart=>exact ⟨0,_,Nat.zero_le _,rfl,rfl,rfl,hO1,hb⟩
    case round =>
     clear hO1 hb
     obtain ⟨k,v,hk,rfl,rfl,rfl,hO,hb⟩:=hrel
     by_cases hlk : k < l.length
     ·have hk' : l[k]? = some l[k]:=List.getElem?_eq_getElem hlk
      obtain ⟨hnw,hkn⟩:=newsOf_take hlk x
      have hnl:=Cal.newsOf_len (l.take k) x
      rw [List.length_take,Nat.min_eq_left hk] at hnl
      generalize l[k] = y at *
      obtain ⟨b,o,hA,hbl,ao,an,ha1,ha2,c0,c1⟩:=rn_at (hl.out.rows.below hb.out) hk'
      subst hA
      obtain ⟨bN2,oN2,hAN,_,nb2,hnb3,e0⟩:=hnb2.out _ hb.out
      cases hAN
      have hkk : (k : Int) < (l.length : Int):=by omega
      have hup:=Lib.hid (Cal.tups_spec (seen ++ Cal.newsOf (l.take k) x)).1
      have htl:=Cal.tups_length (seen ++ Cal.newsOf (l.take k) x)
      rw [List.length_append] at htl
      have hbx:=Lib.hid hb.out
      cases he : (ao.toList == nb2.toList)
      ·have hne : ¬ y.old = x:=by
        rw [ha1,hnb3] at he
        simpa using he
       rw [if_neg hne,List.append_nil] at hnw
       rw [show (y.old == x) = false from beq_false_of_ne hne,Bool.or_false] at hkn
       replace hnw:=Lib.hid hnw
       replace hkn:=Lib.hid hkn
       clear ha1 ha2 hnb3 hk' hne c1
       go_wp2_with fail
       refine wp_region_held_drew (S:=Sx wr [(b,o + k * 2,.string ao),(bN,oN + i,.string nb2)]) (by kernel_rfl) (Sx.mk (by simp only [cs_iff_cons];exact ⟨c0,e0,cs_nil _⟩) (Below.refl _ _)).drew (fun hHeld=>?_)
       clear c0 e0
       refine tkHx 0 31 ?_
       refine tkHx 1 32 ?_
       refine tkHx 2 33 ?_
       refine tkHx 3 34 ?_
       refine tkHx 4 35 ?_
       refine tkHx 5 36 ?_
       refine tkHx 6 37 ?_
       refine tkHx 7 38 ?_
       refine tkHx 8 39 ?_
       refine tkHx 9 40 ?_
       refine wpAnyH_done (by kernel_rfl) ?_ _
       (try simp only [apS,apN,siA,scZ,scS])
       replace hO:=Lib.hid (TextsL.below hO.out hHeld.bel)
       replace hb:=Lib.hid (hbx.out.trans (hHeld.bel.mono hbx.out.size))
       clear hHeld
       go_wp2_with fail
       go_roundw
       case rel=>exact ⟨k + 1,_,by omega,by go_num,rfl,by rw [hkn.out],by rw [hnw.out];exact hO,hb⟩
       case measure=>simp [intOf];omega
      ·have hne : y.old = x:=by
        rw [ha1,hnb3] at he
        exact eq_of_beq he
       rw [if_pos hne] at hnw
       rw [show (y.old == x) = true from beq_iff_eq.2 hne,Bool.or_true] at hkn
       replace hnw:=Lib.hid hnw
       replace hkn:=Lib.hid hkn
       have hag:=Lib.hid (Cal.tups_again (seen ++ Cal.newsOf (l.take k) x) y.new)
       have hrows2:=Lib.hid (fun W (hW : Below w.heap.size w W)=>rn_at (hl.out.rows.below hW) hk')
       clear ha1 ha2 hnb3 hk' hne c1
       go_wp2_with fail
       refine wp_region_held_drew (S:=Sx wr [(b,o + k * 2,.string ao),(bN,oN + i,.string nb2)]) (by kernel_rfl) (Sx.mk (by simp only [cs_iff_cons];exact ⟨c0,e0,cs_nil _⟩) (Below.refl _ _)).drew (fun hHeld=>?_)
       clear c0 e0
       refine tkHx 0 31 ?_
       refine tkHx 1 32 ?_
       refine tkHx 2 33 ?_
       refine tkHx 3 34 ?_
       refine tkHx 4 35 ?_
       refine tkHx 5 36 ?_
       refine tkHx 6 37 ?_
       refine tkHx 7 38 ?_
       refine tkHx 8 39 ?_
       refine tkHx 9 40 ?_
       refine wpAnyH_done (by kernel_rfl) ?_ _
       (try simp only [apS,apN,siA,scZ,scS])
       replace hO:=Lib.hid (TextsL.below hO.out hHeld.bel)
       replace hb:=Lib.hid (hbx.out.trans (hHeld.bel.mono hbx.out.size))
       clear hHeld hbx
       obtain ⟨b3,o3,hA3,_,ao3,an3,_,ha3,_,c1⟩:=hrows2.out _ hb.out
       cases hA3
       replace ha3:=Lib.hid ha3
       clear hrows2
       go_wp2_with (go_at_call 57;refine (addTx_any _ w.heap.size _ _ an3 hO.out hup.out (by omega) hb.out.size).mono ?_;rintro e0 w7 ⟨v7,rfl,hO7,hb7⟩;replace hO7:=Lib.hid hO7;replace hb:=Lib.hid (below_step hb.out hb7);clear hb7)
       have hO8 : Hid (TextsL w7 w.heap.size v7 (Cal.tups (seen ++ Cal.newsOf (l.take (k + 1)) x))):=by
        show TextsL _ _ _ _
        rw [hnw.out,← List.append_assoc,← hag.out,← ha3.out]
        exact hO7.out
       clear hO7 hag ha3
       go_roundw
       case rel=>exact ⟨k + 1,_,by omega,by go_num,rfl,by rw [hkn.out],hO8,hb⟩
       case measure=>simp [intOf];omega
     ·obtain rfl : k = l.length:=by omega
      rw [List.take_length] at hO ⊢
      cases h2 : Cal.knownT l x
      ·rw [h2] at hR
       have hfin : Hid (R = 6):=hR.out
       clear hR
       go_wp2_with fail
       go_ret2
       exact ⟨_,by rw [hfin.out];rfl,by rw [hfin.out];exact OwnL.nil _ _ _ _,hb.out⟩
      ·rw [h2] at hR
       have hnx : Hid (R = Cal.imgF l (names.drop (i + 1))):=hR.out
       clear hR
       go_wp2_with fail
       go_roundw
       case rel=>exact ⟨i + 1,_,by omega,by go_num,rfl,by rw [htk.out];exact hO,hb,hnx⟩
       case measure=>simp [intOf];omega
   ·obtain rfl : i = names.length:=by omega
    have hfin : Hid (R = 0):=by show _ = _;rw [hR.out,List.drop_length];rfl
    rw [List.take_length] at hO
    clear hR
    go_wp2_with fail
    go_ret2
    exact ⟨_,by rw [hfin.out];rfl,by rw [hfin.out];exact hO.out,hb.out⟩
end Go.Proofs.Ythfokpchdlcidaa
