/- What the statements rest on: definitions and walks, part 08. -/
import Derived.Test.YtfcjeejhdklkdaaJ02
set_option maxRecDepth 100000
set_option maxHeartbeats 16000000
set_option linter.unusedSimpArgs false
set_option linter.unusedVariables false
namespace Go.Proofs.Ytfcjeejhdklkdaa
open Go Go.RowKit
theorem meets_any (s t : Sd) (w : World) (hs : SmS s) (ht : SmS t) :
  Calls Try.prog 114 #[.agg #[.int .i64 s.a.x, .int .i64 s.a.y, .int .i64 s.b.x, .int .i64 s.b.y], .agg #[.int .i64 t.a.x, .int .i64 t.a.y, .int .i64 t.b.x, .int .i64 t.b.y]] w fun e w' => e = .returned (.bool (Cal.meetS s t)) ∧ Below w.heap.size w w' := by
 rcases Bool.eq_false_or_eq_true (Cal.crosS s t) with h1 | h1
 ·have h1 := Lib.hid h1
  have hS : Hid (Sx w [(w.heap.size, 0, .int .i64 s.a.x), (w.heap.size, 1, .int .i64 s.a.y), (w.heap.size, 2, .int .i64 s.b.x), (w.heap.size, 3, .int .i64 s.b.y), (w.heap.size + 1, 0, .int .i64 t.a.x), (w.heap.size + 1, 1, .int .i64 t.a.y), (w.heap.size + 1, 2, .int .i64 t.b.x), (w.heap.size + 1, 3, .int .i64 t.b.y)] ((w.alloc (.cells #[.int .i64 s.a.x, .int .i64 s.a.y, .int .i64 s.b.x, .int .i64 s.b.y] 120)).alloc (.cells #[.int .i64 t.a.x, .int .i64 t.a.y, .int .i64 t.b.x, .int .i64 t.b.y] 120))) := ⟨by simp [cs_iff_cons, cs_nil], blw⟩
  obtain ⟨c0, c1, c2, c3, c4, c5, c6, c7, _⟩ : _ ∧ _ ∧ _ ∧ _ ∧ _ ∧ _ ∧ _ ∧ _ ∧ _ := by have h := hS.out.cs; simp only [cs_iff_cons] at h; exact h
  go_enter Try.func114, Try.ntmps114
  go_wp2_with fail
  refine (crosses_any s t _ hs ht).mono ?_
  rintro e wn ⟨rfl, hbn⟩
  rw [h1.out]
  clear c0 c1 c2 c3 c4 c5 c6 c7
  have hS := Lib.hid (hS.out.step hbn)
  clear hbn
  obtain ⟨c0, c1, c2, c3, c4, c5, c6, c7, _⟩ : _ ∧ _ ∧ _ ∧ _ ∧ _ ∧ _ ∧ _ ∧ _ ∧ _ := by have h := hS.out.cs; simp only [cs_iff_cons] at h; exact h
  go_wp2_with fail
  go_ret
  exact ⟨ret_bool (by unfold Cal.meetS; simp [h1.out]), hS.out.bel⟩
 have h1 := Lib.hid h1
 rcases Bool.eq_false_or_eq_true (Cal.hasP s t.a) with h2 | h2
 ·have h2 := Lib.hid h2
  have hS : Hid (Sx w [(w.heap.size, 0, .int .i64 s.a.x), (w.heap.size, 1, .int .i64 s.a.y), (w.heap.size, 2, .int .i64 s.b.x), (w.heap.size, 3, .int .i64 s.b.y), (w.heap.size + 1, 0, .int .i64 t.a.x), (w.heap.size + 1, 1, .int .i64 t.a.y), (w.heap.size + 1, 2, .int .i64 t.b.x), (w.heap.size + 1, 3, .int .i64 t.b.y)] ((w.alloc (.cells #[.int .i64 s.a.x, .int .i64 s.a.y, .int .i64 s.b.x, .int .i64 s.b.y] 120)).alloc (.cells #[.int .i64 t.a.x, .int .i64 t.a.y, .int .i64 t.b.x, .int .i64 t.b.y] 120))) := ⟨by simp [cs_iff_cons, cs_nil], blw⟩
  obtain ⟨c0, c1, c2, c3, c4, c5, c6, c7, _⟩ : _ ∧ _ ∧ _ ∧ _ ∧ _ ∧ _ ∧ _ ∧ _ ∧ _ := by have h := hS.out.cs; simp only [cs_iff_cons] at h; exact h
  go_enter Try.func114, Try.ntmps114
  go_wp2_with fail
  refine (crosses_any s t _ hs ht).mono ?_
  rintro e wn ⟨rfl, hbn⟩
  rw [h1.out]
  clear c0 c1 c2 c3 c4 c5 c6 c7
  have hS := Lib.hid (hS.out.step hbn)
  clear hbn
  obtain ⟨c0, c1, c2, c3, c4, c5, c6, c7, _⟩ : _ ∧ _ ∧ _ ∧ _ ∧ _ ∧ _ ∧ _ ∧ _ ∧ _ := by have h := hS.out.cs; simp only [cs_iff_cons] at h; exact h
  go_wp2_with fail
  refine (has_any s t.a _ hs ht.a).mono ?_
  rintro e wn ⟨rfl, hbn⟩
  rw [h2.out]
  clear c0 c1 c2 c3 c4 c5 c6 c7
  have hS := Lib.hid (hS.out.step hbn)
  clear hbn
  obtain ⟨c0, c1, c2, c3, c4, c5, c6, c7, _⟩ : _ ∧ _ ∧ _ ∧ _ ∧ _ ∧ _ ∧ _ ∧ _ ∧ _ := by have h := hS.out.cs; simp only [cs_iff_cons] at h; exact h
  go_wp2_with fail
  go_ret
  exact ⟨ret_bool (by unfold Cal.meetS; simp [h1.out, h2.out]), hS.out.bel⟩
 have h2 := Lib.hid h2
 rcases Bool.eq_false_or_eq_true (Cal.hasP s t.b) with h3 | h3
 ·have h3 := Lib.hid h3
  have hS : Hid (Sx w [(w.heap.size, 0, .int .i64 s.a.x), (w.heap.size, 1, .int .i64 s.a.y), (w.heap.size, 2, .int .i64 s.b.x), (w.heap.size, 3, .int .i64 s.b.y), (w.heap.size + 1, 0, .int .i64 t.a.x), (w.heap.size + 1, 1, .int .i64 t.a.y), (w.heap.size + 1, 2, .int .i64 t.b.x), (w.heap.size + 1, 3, .int .i64 t.b.y)] ((w.alloc (.cells #[.int .i64 s.a.x, .int .i64 s.a.y, .int .i64 s.b.x, .int .i64 s.b.y] 120)).alloc (.cells #[.int .i64 t.a.x, .int .i64 t.a.y, .int .i64 t.b.x, .int .i64 t.b.y] 120))) := ⟨by simp [cs_iff_cons, cs_nil], blw⟩
  obtain ⟨c0, c1, c2, c3, c4, c5, c6, c7, _⟩ : _ ∧ _ ∧ _ ∧ _ ∧ _ ∧ _ ∧ _ ∧ _ ∧ _ := by have h := hS.out.cs; simp only [cs_iff_cons] at h; exact h
  go_enter Try.func114, Try.ntmps114
  go_wp2_with fail
  refine (crosses_any s t _ hs ht).mono ?_
  rintro e wn ⟨rfl, hbn⟩
  rw [h1.out]
  clear c0 c1 c2 c3 c4 c5 c6 c7
  have hS := Lib.hid (hS.out.step hbn)
  clear hbn
  obtain ⟨c0, c1, c2, c3, c4, c5, c6, c7, _⟩ : _ ∧ _ ∧ _ ∧ _ ∧ _ ∧ _ ∧ _ ∧ _ ∧ _ := by have h := hS.out.cs; simp only [cs_iff_cons] at h; exact h
  go_wp2_with fail
  refine (has_any s t.a _ hs ht.a).mono ?_
  rintro e wn ⟨rfl, hbn⟩
  rw [h2.out]
  clear c0 c1 c2 c3 c4 c5 c6 c7
  have hS := Lib.hid (hS.out.step hbn)
  clear hbn
  obtain ⟨c0, c1, c2, c3, c4, c5, c6, c7, _⟩ : _ ∧ _ ∧ _ ∧ _ ∧ _ ∧ _ ∧ _ ∧ _ ∧ _ := by have h := hS.out.cs; simp only [cs_iff_cons] at h; exact h
  go_wp2_with fail
  refine (has_any s t.b _ hs ht.b).mono ?_
  rintro e wn ⟨rfl, hbn⟩
  rw [h3.out]
  clear c0 c1 c2 c3 c4 c5 c6 c7
  have hS := Lib.hid (hS.out.step hbn)
  clear hbn
  obtain ⟨c0, c1, c2, c3, c4, c5, c6, c7, _⟩ : _ ∧ _ ∧ _ ∧ _ ∧ _ ∧ _ ∧ _ ∧ _ ∧ _ := by have h := hS.out.cs; simp only [cs_iff_cons] at h; exact h
  go_wp2_with fail
  go_ret
  exact ⟨ret_bool (by unfold Cal.meetS; simp [h1.out, h2.out, h3.out]), hS.out.bel⟩
 have h3 := Lib.hid h3
 rcases Bool.eq_false_or_eq_true (Cal.hasP t s.a) with h4 | h4
 ·have h4 := Lib.hid h4
  have hS : Hid (Sx w [(w.heap.size, 0, .int .i64 s.a.x), (w.heap.size, 1, .int .i64 s.a.y), (w.heap.size, 2, .int .i64 s.b.x), (w.heap.size, 3, .int .i64 s.b.y), (w.heap.size + 1, 0, .int .i64 t.a.x), (w.heap.size + 1, 1, .int .i64 t.a.y), (w.heap.size + 1, 2, .int .i64 t.b.x), (w.heap.size + 1, 3, .int .i64 t.b.y)] ((w.alloc (.cells #[.int .i64 s.a.x, .int .i64 s.a.y, .int .i64 s.b.x, .int .i64 s.b.y] 120)).alloc (.cells #[.int .i64 t.a.x, .int .i64 t.a.y, .int .i64 t.b.x, .int .i64 t.b.y] 120))) := ⟨by simp [cs_iff_cons, cs_nil], blw⟩
  obtain ⟨c0, c1, c2, c3, c4, c5, c6, c7, _⟩ : _ ∧ _ ∧ _ ∧ _ ∧ _ ∧ _ ∧ _ ∧ _ ∧ _ := by have h := hS.out.cs; simp only [cs_iff_cons] at h; exact h
  go_enter Try.func114, Try.ntmps114
  go_wp2_with fail
  refine (crosses_any s t _ hs ht).mono ?_
  rintro e wn ⟨rfl, hbn⟩
  rw [h1.out]
  clear c0 c1 c2 c3 c4 c5 c6 c7
  have hS := Lib.hid (hS.out.step hbn)
  clear hbn
  obtain ⟨c0, c1, c2, c3, c4, c5, c6, c7, _⟩ : _ ∧ _ ∧ _ ∧ _ ∧ _ ∧ _ ∧ _ ∧ _ ∧ _ := by have h := hS.out.cs; simp only [cs_iff_cons] at h; exact h
  go_wp2_with fail
  refine (has_any s t.a _ hs ht.a).mono ?_
  rintro e wn ⟨rfl, hbn⟩
  rw [h2.out]
  clear c0 c1 c2 c3 c4 c5 c6 c7
  have hS := Lib.hid (hS.out.step hbn)
  clear hbn
  obtain ⟨c0, c1, c2, c3, c4, c5, c6, c7, _⟩ : _ ∧ _ ∧ _ ∧ _ ∧ _ ∧ _ ∧ _ ∧ _ ∧ _ := by have h := hS.out.cs; simp only [cs_iff_cons] at h; exact h
  go_wp2_with fail
  refine (has_any s t.b _ hs ht.b).mono ?_
  rintro e wn ⟨rfl, hbn⟩
  rw [h3.out]
  clear c0 c1 c2 c3 c4 c5 c6 c7
  have hS := Lib.hid (hS.out.step hbn)
  clear hbn
  obtain ⟨c0, c1, c2, c3, c4, c5, c6, c7, _⟩ : _ ∧ _ ∧ _ ∧ _ ∧ _ ∧ _ ∧ _ ∧ _ ∧ _ := by have h := hS.out.cs; simp only [cs_iff_cons] at h; exact h
  go_wp2_with fail
  refine (has_any t s.a _ ht hs.a).mono ?_
  rintro e wn ⟨rfl, hbn⟩
  rw [h4.out]
  clear c0 c1 c2 c3 c4 c5 c6 c7
  have hS := Lib.hid (hS.out.step hbn)
  clear hbn
  obtain ⟨c0, c1, c2, c3, c4, c5, c6, c7, _⟩ : _ ∧ _ ∧ _ ∧ _ ∧ _ ∧ _ ∧ _ ∧ _ ∧ _ := by have h := hS.out.cs; simp only [cs_iff_cons] at h; exact h
  go_wp2_with fail
  go_ret
  exact ⟨ret_bool (by unfold Cal.meetS; simp [h1.out, h2.out, h3.out, h4.out]), hS.out.bel⟩
 have h4 := Lib.hid h4
 have h5 : Hid (Cal.hasP t s.b = Cal.hasP t s.b ∧ True) := ⟨rfl, trivial⟩
 have hS : Hid (Sx w [(w.heap.size, 0, .int .i64 s.a.x), (w.heap.size, 1, .int .i64 s.a.y), (w.heap.size, 2, .int .i64 s.b.x), (w.heap.size, 3, .int .i64 s.b.y), (w.heap.size + 1, 0, .int .i64 t.a.x), (w.heap.size + 1, 1, .int .i64 t.a.y), (w.heap.size + 1, 2, .int .i64 t.b.x), (w.heap.size + 1, 3, .int .i64 t.b.y)] ((w.alloc (.cells #[.int .i64 s.a.x, .int .i64 s.a.y, .int .i64 s.b.x, .int .i64 s.b.y] 120)).alloc (.cells #[.int .i64 t.a.x, .int .i64 t.a.y, .int .i64 t.b.x, .int .i64 t.b.y] 120))) := ⟨by simp [cs_iff_cons, cs_nil], blw⟩
 obtain ⟨c0, c1, c2, c3, c4, c5, c6, c7, _⟩ : _ ∧ _ ∧ _ ∧ _ ∧ _ ∧ _ ∧ _ ∧ _ ∧ _ := by have h := hS.out.cs; simp only [cs_iff_cons] at h; exact h
 go_enter Try.func114, Try.ntmps114
 go_wp2_with fail
 refine (crosses_any s t _ hs ht).mono ?_
 rintro e wn ⟨rfl, hbn⟩
 rw [h1.out]
 clear c0 c1 c2 c3 c4 c5 c6 c7
 have hS := Lib.hid (hS.out.step hbn)
 clear hbn
 obtain ⟨c0, c1, c2, c3, c4, c5, c6, c7, _⟩ : _ ∧ _ ∧ _ ∧ _ ∧ _ ∧ _ ∧ _ ∧ _ ∧ _ := by have h := hS.out.cs; simp only [cs_iff_cons] at h; exact h
 go_wp2_with fail
 refine (has_any s t.a _ hs ht.a).mono ?_
 rintro e wn ⟨rfl, hbn⟩
 rw [h2.out]
 clear c0 c1 c2 c3 c4 c5 c6 c7
 have hS := Lib.hid (hS.out.step hbn)
 clear hbn
 obtain ⟨c0, c1, c2, c3, c4, c5, c6, c7, _⟩ : _ ∧ _ ∧ _ ∧ _ ∧ _ ∧ _ ∧ _ ∧ _ ∧ _ := by have h := hS.out.cs; simp only [cs_iff_cons] at h; exact h
 go_wp2_with fail
 refine (has_any s t.b _ hs ht.b).mono ?_
 rintro e wn ⟨rfl, hbn⟩
 rw [h3.out]
 clear c0 c1 c2 c3 c4 c5 c6 c7
 have hS := Lib.hid (hS.out.step hbn)
 clear hbn
 obtain ⟨c0, c1, c2, c3, c4, c5, c6, c7, _⟩ : _ ∧ _ ∧ _ ∧ _ ∧ _ ∧ _ ∧ _ ∧ _ ∧ _ := by have h := hS.out.cs; simp only [cs_iff_cons] at h; exact h
 go_wp2_with fail
 refine (has_any t s.a _ ht hs.a).mono ?_
 rintro e wn ⟨rfl, hbn⟩
 rw [h4.out]
 clear c0 c1 c2 c3 c4 c5 c6 c7
 have hS := Lib.hid (hS.out.step hbn)
 clear hbn
 obtain ⟨c0, c1, c2, c3, c4, c5, c6, c7, _⟩ : _ ∧ _ ∧ _ ∧ _ ∧ _ ∧ _ ∧ _ ∧ _ ∧ _ := by have h := hS.out.cs; simp only [cs_iff_cons] at h; exact h
 go_wp2_with fail
 refine (has_any t s.b _ ht hs.b).mono ?_
 rintro e wn ⟨rfl, hbn⟩
 have hS := Lib.hid (hS.out.step hbn)
 clear hbn c0 c1 c2 c3 c4 c5 c6 c7
 go_wp2_with fail
 go_ret
 exact ⟨ret_bool (by unfold Cal.meetS; simp [h1.out, h2.out, h3.out, h4.out]), hS.out.bel⟩
theorem along_any (s : Sd) (p q : Pt) (w : World) (hs : SmS s) (hp : SmP p) (hq : SmP q) :
  Calls Try.prog 110 #[.agg #[.int .i64 s.a.x, .int .i64 s.a.y, .int .i64 s.b.x, .int .i64 s.b.y], .agg #[.int .i64 p.x, .int .i64 p.y], .agg #[.int .i64 q.x, .int .i64 q.y]] w fun e w' => e = .returned (.int .i64 (Cal.alongS s p q)) ∧ Below w.heap.size w w' := by
 have hS : Hid (Sx w [(w.heap.size + 1 + 1, 0, .int .i64 q.x), (w.heap.size + 1 + 1, 1, .int .i64 q.y), (w.heap.size + 1, 0, .int .i64 p.x), (w.heap.size + 1, 1, .int .i64 p.y), (w.heap.size, 0, .int .i64 s.a.x), (w.heap.size, 1, .int .i64 s.a.y), (w.heap.size, 2, .int .i64 s.b.x), (w.heap.size, 3, .int .i64 s.b.y)] (((w.alloc (.cells #[.int .i64 s.a.x, .int .i64 s.a.y, .int .i64 s.b.x, .int .i64 s.b.y] 120)).alloc (.cells #[.int .i64 p.x, .int .i64 p.y] 75)).alloc (.cells #[.int .i64 q.x, .int .i64 q.y] 75))) := (((Sx.init w).box4).box2).box2
 obtain ⟨_, _, _, _, c0, c1, c2, c3, _⟩ : _ ∧ _ ∧ _ ∧ _ ∧ _ ∧ _ ∧ _ ∧ _ ∧ _ := by have h := hS.out.cs; simp only [cs_iff_cons] at h; exact h
 have x0 := hs.a.x0
 have x1 := hs.a.x1
 have x2 := hs.a.y0
 have x3 := hs.a.y1
 have x4 := hs.b.x0
 have x5 := hs.b.x1
 have x6 := hs.b.y0
 have x7 := hs.b.y1
 have x8 := hp.x0
 have x9 := hp.x1
 have x10 := hp.y0
 have x11 := hp.y1
 have y8 := hq.x0
 have y9 := hq.x1
 have y10 := hq.y0
 have y11 := hq.y1
 go_enter Try.func110, Try.ntmps110
 go_wp2_with fail
 refine (to_any s.a s.b _ hs.a hs.b).mono ?_
 rintro e wn ⟨rfl, hbn⟩
 have hS := Lib.hid (hS.out.step hbn)
 clear hbn
 go_wp2_with fail
 refine wp_region_held_drew (S := Sx w [(wn.heap.size, 0, .int .i64 (s.b.x - s.a.x)), (wn.heap.size, 1, .int .i64 (s.b.y - s.a.y)), (w.heap.size + 1 + 1, 0, .int .i64 q.x), (w.heap.size + 1 + 1, 1, .int .i64 q.y), (w.heap.size + 1, 0, .int .i64 p.x), (w.heap.size + 1, 1, .int .i64 p.y), (w.heap.size, 0, .int .i64 s.a.x), (w.heap.size, 1, .int .i64 s.a.y), (w.heap.size, 2, .int .i64 s.b.x), (w.heap.size, 3, .int .i64 s.b.y)]) (by kernel_rfl) (hS.out.box2).drew (fun hHeld => ?_)
 refine tkHx 0 13 ?_
 refine tkHx 1 14 ?_
 refine tkHx 2 15 ?_
 refine tkHx 3 16 ?_
 refine tkHx 6 19 ?_
 refine tkHx 7 20 ?_
 refine tkHx 8 21 ?_
 refine tkHx 9 22 ?_
 (refine ratHx 4 (fun K hK => ?_); go_simp)
 refine (to_any s.a p _ hs.a hp).mono ?_
 rintro e wn ⟨rfl, hbn⟩
 go_simp
 (refine hK.out _ _ (hHeld.step hbn) (fun hHeld => ?_); clear hK K; (try simp only [apS, apN, siA, scZ, scS]))
 (refine ratHx 5 (fun K hK => ?_); go_simp)
 refine (dot_any ⟨s.b.x - s.a.x, s.b.y - s.a.y⟩ ⟨p.x - s.a.x, p.y - s.a.y⟩ _ (by dsimp only; omega) (by dsimp only; omega)).mono ?_
 rintro e wn ⟨rfl, hbn⟩
 go_simp
 (refine hK.out _ _ (hHeld.step hbn) (fun hHeld => ?_); clear hK K; (try simp only [apS, apN, siA, scZ, scS]))
 (refine ratHx 10 (fun K hK => ?_); go_simp)
 refine (to_any s.a q _ hs.a hq).mono ?_
 rintro e wn ⟨rfl, hbn⟩
 go_simp
 (refine hK.out _ _ (hHeld.step hbn) (fun hHeld => ?_); clear hK K; (try simp only [apS, apN, siA, scZ, scS]))
 (refine ratHx 11 (fun K hK => ?_); go_simp)
 refine (dot_any ⟨s.b.x - s.a.x, s.b.y - s.a.y⟩ ⟨q.x - s.a.x, q.y - s.a.y⟩ _ (by dsimp only; omega) (by dsimp only; omega)).mono ?_
 rintro e wn ⟨rfl, hbn⟩
 go_simp
 (refine hK.out _ _ (hHeld.step hbn) (fun hHeld => ?_); clear hK K; (try simp only [apS, apN, siA, scZ, scS]))
 (refine ratHx 12 (fun K hK => ?_); go_simp)
 refine (cmpG_any _ _ _).mono ?_
 rintro e wn ⟨rfl, hbn⟩
 go_simp
 (refine hK.out _ _ (hHeld.step hbn) (fun hHeld => ?_); clear hK K; (try simp only [apS, apN, siA, scZ, scS]))
 refine tkHx 13 6 ?_
 refine wpAnyH_done (by kernel_rfl) ?_ _
 go_wp2_with fail
 go_ret
 exact ⟨rfl, hHeld.bel⟩
end Go.Proofs.Ytfcjeejhdklkdaa
