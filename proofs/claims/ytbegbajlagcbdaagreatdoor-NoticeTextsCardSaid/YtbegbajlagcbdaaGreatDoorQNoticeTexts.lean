/- NoticeTexts returns true at every input, and the input reads as it did before the call; conditions: the row's own, that the listed table rule.lengths holds its twelve numbers when the call begins. -/
import Derived.Test.YtbegbajlagcbdaaGreatDoorC37
import Derived.Test.YtbegbajlagcbdaaGreatDoorC10
import Derived.Test.YtbegbajlagcbdaaGreatDoorQLNTexts
import Derived.Test.YtbegbajlagcbdaaGreatDoorCards
import Derived.Test.YtbegbajlagcbdaaGreatDoorTie
import Derived.WalkKit
import Derived.ProofKit
import Derived.OpenShut
import Derived.Deep.DeepHandedRow
import Derived.Lib.LaidTab
namespace Go.Proofs.YtbegbajlagcbdaaGreatDoor.noticeTexts
open Go Go.ChangeShapes Go.WideShapes Go.ChangeAt Go.RowKit Go.Deep
set_option maxRecDepth 100000 in
theorem contract (H : Type) (enc : TypeId × Value → H) (W : World) (base : Nat) (args : Array Value) (ds gs : List (DataW H)) (before : List MemPlace)
    (hval : ∀ (j : Nat) t v, Tryz.f8.params[j]? = some t → args[j]? = some v → Value.okWide Tryz.prog W .any base t v)
    (hW : DataW.Whole enc Tryz.prog Tryz.f8.params.toList Rows.noticeTextsSpec.vars false W args.toList ds gs before) (hL : laidMetH Tryz.prog Rows.noticeTextsRow.laid W) (hsh : W.ShapedOpen Tryz.prog) :
    Calls Tryz.prog 8 args W fun e W' => ∃ v, e = .returned v ∧ Rows.noticeTextsSpec.post enc Tryz.prog Tryz.f8 false true false false W args v W' := by
  have hW' := hW
  obtain ⟨p, q, hA, hV, rfl, hfz, hnd⟩ := hW
  rw [Tryz.params8] at hA hval
  obtain ⟨v0, vs0, d0, ds0, p0, q0, hargs, rfl, rfl, h0, r0⟩ := trodAll_cons hA
  obtain ⟨v1, vs1, d1, ds1, p1, q1, rfl, rfl, rfl, h1, r1⟩ := trodAll_cons r0
  obtain ⟨rfl, rfl, rfl⟩ := trodAll_nil r1
  obtain rfl : args = #[v0, v1] := by cases args; simp_all
  obtain ⟨rfl, rfl⟩ := trodVars_none hV
  obtain ⟨N0, d0, n0, rfl, ha0, hn0, hk0⟩ := note_of_open2 (hval 0 _ _ rfl rfl) h0
  obtain ⟨s1, rfl, rfl, _, hs1⟩ := Go.ChangeMaps.open_string Tryz.underlying9 (hval 1 _ _ rfl rfl) h1
  refine (NoticeTexts_any N0 d0 n0 s1 W ha0 hn0 hk0 (tabs_of8 hL hsh).1 (tabs_of8 hL hsh).2).mono fun e W' ⟨he, hb⟩ => ?_
  subst he
  exact ⟨_, rfl, post_true rfl (by kernel_rfl) (of_decide_eq_true (by kernel_rfl)) hW' rfl hb⟩
theorem laid_met (os : Os) : laidMet Tryz.prog Rows.noticeTextsRow.laid ((laidWorld8 os).forCall (fun _ _ => 0) ⟨#[], #[.agg #[.string ⟨#[]⟩, .int .i64 0, .slice none 0 0], .string ⟨#[]⟩], []⟩).memory :=
  laid_met8 os _
theorem reads (os : Os) {H : Type} (enc : TypeId × Value → H) : ∃ places, DataW.whole enc Tryz.prog ((laidWorld8 os).forCall (fun _ _ => 0) ⟨#[], #[.agg #[.string ⟨#[]⟩, .int .i64 0, .slice none 0 0], .string ⟨#[]⟩], []⟩).memory Tryz.f8.params.toList Rows.noticeTextsSpec.vars false (#[.agg #[.string ⟨#[]⟩, .int .i64 0, .slice none 0 0], .string ⟨#[]⟩] : Array Value).toList 8 = some ([.agg [.lit (.string []), .lit (.int .i64 0), .nil], .lit (.string [])], [], places) :=
  ⟨[], by kernel_rfl⟩
set_option maxRecDepth 100000 in
theorem lifted (os : Os) (started : os.Started) (H : Type) (enc : TypeId × Value → H) (F : Stop.Interp) :
    ReturnsInHanded {} Tryz.checked os 8 .any ((OpenSpec.ofChange Rows.noticeTextsSpec).preRow enc Tryz.prog Tryz.f8 Rows.noticeTextsRow.domain false Rows.noticeTextsRow.laid) (((OpenSpec.ofChange Rows.noticeTextsSpec).at F).post enc Tryz.prog Tryz.f8 false true false false) := by
  obtain ⟨places, hx⟩ := reads os enc
  refine returnsInHanded_of_row (C := Tryz.checked) (s := OpenSpec.ofChange Rows.noticeTextsSpec) own started (by kernel_rfl) Tryz.func8
    (witness_row_at (enc := enc) (C := Tryz.checked) false (laidWorld8 os) #[.agg #[.string ⟨#[]⟩, .int .i64 0, .slice none 0 0], .string ⟨#[]⟩] rfl (by kernel_rfl) (by kernel_rfl) (by kernel_rfl)
      (OpenSpec.preRow_of_cond 8 hx (by kernel_rfl) (fun k hk => by cases hk) (by kernel_rfl) (laid_met os))) ?_
  intro W base args ds gs before hval hW _ _ _ hL hsh _
  exact contract H enc W base args ds gs before hval hW hL hsh
set_option maxHeartbeats 40000000 in
theorem closed : joinedFacts Tryz.prog 8 Tryz.f8 (OpenSpec.ofChange Rows.noticeTextsSpec).bare Rows.noticeTextsRow = true := by
  unfold joinedFacts
  refine (and_tt (and_tt (and_tt (and_tt (and_tt (and_tt (and_tt (and_tt (and_tt (and_tt (and_tt (and_tt (and_tt (and_tt (and_tt (and_tt (and_tt (and_tt (and_tt (and_tt (and_tt (and_tt (and_tt (and_tt (and_tt (and_tt (and_tt (and_tt (and_tt (and_tt (and_tt ?_ ?_) ?_) ?_) ?_) ?_) ?_) ?_) ?_) ?_) ?_) ?_) ?_) ?_) ?_) ?_) ?_) ?_) ?_) ?_) ?_) ?_) ?_) ?_) ?_) ?_) ?_) ?_) ?_) ?_) ?_) ?_)
  all_goals (as_aux_lemma => kernel_rfl)
theorem said : Rows.NoticeTextsSaid :=
  OpenClaim.holds_of_cond 8 Tryz.f8 rfl rfl rfl rfl rfl rfl rfl ⟨rfl, rfl, rfl, rfl, rfl⟩ rfl rfl rfl rfl rfl (by kernel_rfl) Tryz.func8 closed
    (of_decide_eq_true (by kernel_rfl)) (by unfold Func.isWrapper; first | (rw [if_pos (by decide +kernel)]; kernel_rfl) | (rw [if_neg (by decide +kernel)]; exact ⟨rfl, rfl⟩))
    (fun os started H enc _ F => by rw [OpenClaim.pre_eq_preRow]; exact lifted os started H enc F)
theorem plain (f : FuncId) (fn : Func) (hf : Tryz.pinned.checked.prog.funcNamed "mortsafe/mortsafelaw08.NoticeTexts" = some f) (hfn : Tryz.pinned.checked.prog.funcs[f]? = some fn) :
    true = Tryz.pinned.checked.prog.looks [] ∧ ∀ (j : Nat) t, fn.params[j]? = some t → Tryz.pinned.checked.prog.wantsStandIn t = false := by
  obtain rfl : f = 8 := Option.some.inj ((show Tryz.prog.funcNamed "mortsafe/mortsafelaw08.NoticeTexts" = some 8 by kernel_rfl).symm.trans hf) |>.symm
  obtain rfl : fn = Tryz.f8 := (Option.some.inj (Tryz.func8.symm.trans hfn)).symm
  refine ⟨by kernel_rfl, fun j t ht => ?_⟩
  have hall : ∀ t ∈ Tryz.f8.params.toList, Tryz.prog.wantsStandIn t = false := of_decide_eq_true (by kernel_rfl)
  exact hall t (Array.mem_toList_iff.2 (Array.mem_of_getElem? ht))
theorem card : Rows.NoticeTextsCardSaid :=
  Claim7.holds_tied_plain_at .later [] _ _ _ _ said (fun _ h => by cases h) (by kernel_rfl) (fun _ h => by cases h) noticeTexts_row_tie rfl ⟨rfl, rfl⟩ (by kernel_rfl) rfl plain (by kernel_rfl)
end Go.Proofs.YtbegbajlagcbdaaGreatDoor.noticeTexts
