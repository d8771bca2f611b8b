/- What the statements rest on: definitions and walks, part 13. -/
import Derived.Test.YtfcjeejhdklkdaaJ12
set_option maxRecDepth 100000
set_option maxHeartbeats 16000000
set_option linter.unusedSimpArgs false
set_option linter.unusedVariables false
namespace Go.Proofs.Ytfcjeejhdklkdaa
open Go Go.RowKit Go.Shelf
theorem plotE_zero {sec : List Pt} {bf : List Plo} {p : Plo} (h : (plotE sec bf p).2 = 0) : nameB p.name = true ∧ (bf.any fun q=>sameN q p) = false ∧ Cal.polyE p.ps = 0 ∧ Cal.withinP p.ps sec = true ∧ (bf.any fun q=>Cal.overlapP q.ps p.ps) = false:=by
 unfold plotE at h
 split at h
 ·rename_i h1
  split at h
  ·cases h
  ·rename_i h2
   split at h
   ·rename_i h3
    split at h
    ·rename_i h4
     split at h
     ·rename_i h5
      refine ⟨h1,by simpa using h2,h3,h4,?_⟩
      rw [← idxP_any,decide_eq_false_iff_not]
      omega
     ·cases h
    ·cases h
   ·rename_i h3;exact absurd h h3
 ·cases h
def sectL (sec : List Pt) : List Plo → List Plo → Int × Int × Int
 | _,[]=>(0,0,0)
 | bf,p :: r=>if (plotE sec bf p).2 = 0 then sectL sec (bf ++ [p]) r else ((plotE sec bf p).1,bf.length,(plotE sec bf p).2)
def sectE (name : ByteArray) (ps : List Pt) (l : List Plo) : Int × Int × Int :=
 if nameB name = true then (if Cal.polyE ps = 0 then (if 60 < l.length then (0,0,8) else sectL ps [] l) else (0,0,Cal.polyE ps)) else (0,0,4)
structure CsI (w : World) (s : Sct) (W : World) : Prop where
 a : BoxAt W w.heap.size [.string s.name,.slice s.V s.ps.length s.d,.slice s.S s.l.length s.e]
 r : BoxAt W (w.heap.size + 1) [.int .i64 0,.int .i64 0]
 bel : Below w.heap.size w W
theorem CsI.below {w : World} {s : Sct} {X Y : World} (h : CsI w s X) (hb : Below X.heap.size X Y) : CsI w s Y:=⟨h.a.below hb,h.r.below hb,below_step h.bel hb⟩
structure SctR (w : World) (s : Sct) : Prop where
 nm : s.name.size ≤ maxLen
 pts : PtsR w s.V s.ps
 few : few s.ps
 plots : Plos w s.S s.l
 cap : s.l.length ≤ s.e
 fews : ∀ p ∈ s.l,Go.Proofs.Ytfcjeejhdklkdaa.few p.ps
theorem SctR.below {w w' : World} {s : Sct} (h : SctR w s) (hb : Below w.heap.size w w') : SctR w' s:=⟨h.nm,h.pts.below hb,h.few,h.plots.below hb,h.cap,h.fews⟩
theorem arr2Size : (Try.prog.info? 64).map (·.size) = some 2:=by kernel_rfl
theorem sectL_drop {sec : List Pt} {l : List Plo} {k : Nat} (h : k < l.length) : sectL sec (l.take k) (l.drop k) = if (plotE sec (l.take k) l[k]).2 = 0 then sectL sec (l.take (k + 1)) (l.drop (k + 1)) else ((plotE sec (l.take k) l[k]).1,(k : Int),(plotE sec (l.take k) l[k]).2):=by
 rw [List.drop_eq_getElem_cons h,List.take_succ_eq_append_getElem h]
 show (if (plotE sec (l.take k) l[k]).2 = 0 then _ else ((plotE sec (l.take k) l[k]).1,((l.take k).length : Int),(plotE sec (l.take k) l[k]).2)) = _
 rw [List.length_take,Nat.min_eq_left (by omega)]
theorem CheckSection_any (s : Sct) (w : World) (hS : SctR w s) :
  Calls Try.prog 37 #[.agg #[.string s.name,.slice s.V s.ps.length s.d,.slice s.S s.l.length s.e]] w fun e w'=>e = .returned (.tuple #[.agg #[.int .i64 (sectE s.name s.ps s.l).1,.int .i64 (sectE s.name s.ps s.l).2.1],.int .i64 (sectE s.name s.ps s.l).2.2]) ∧ Below w.heap.size w w':=by
 obtain ⟨R,hRR⟩ : ∃ R,sectE s.name s.ps s.l = R:=⟨_,rfl⟩
 rw [hRR]
 have hsz:=hS.plots.size
 have hnm:=Lib.hid hS.nm
 replace hS:=Lib.hid hS
 obtain ⟨x1,h1⟩ : ∃ x,nameB s.name = x:=⟨_,rfl⟩
 obtain ⟨x2,h2⟩ : ∃ x,Cal.polyE s.ps = x:=⟨_,rfl⟩
 have hR : Hid (R = if x1 = true then (if x2 = 0 then (if 60 < s.l.length then (0,0,8) else sectL s.ps [] s.l) else (0,0,x2)) else (0,0,4)):=by
  show _ = _
  rw [← hRR]
  unfold sectE
  rw [h1,h2]
 clear hRR
 have hI : Hid (CsI w s ((w.alloc (.cells #[.string s.name,.slice s.V s.ps.length s.d,.slice s.S s.l.length s.e] 62)).alloc (.cells #[.int .i64 0,.int .i64 0] 64))):=by
  have b2:=BoxAt.new (w.alloc (.cells #[.string s.name,.slice s.V s.ps.length s.d,.slice s.S s.l.length s.e] 62)) #[.int .i64 0,.int .i64 0] 64
  rw [World.size_alloc] at b2
  exact ⟨(BoxAt.new w #[.string s.name,.slice s.V s.ps.length s.d,.slice s.S s.l.length s.e] 62).alloc _,b2,below_step (below_alloc _ _) (below_alloc _ _)⟩
 replace h1:=Lib.hid h1
 (have a0:=hI.out.a.c 0 _ rfl;have a1:=hI.out.a.c 1 _ rfl;have a2:=hI.out.a.c 2 _ rfl;have r0:=hI.out.r.c 0 _ rfl;have r1:=hI.out.r.c 1 _ rfl;have f0:=hI.out.r.free 0 (by simp);have f1:=hI.out.r.free 1 (by simp))
 cases x1
 ·replace h2:=Lib.hid h2
  go_enter Try.func37,Try.ntmps37
  go_wp2_with (first
   |(go_at_call 73;clear a0 a1 a2 r0 r1 f0 f1;refine (gisName_any s.name _ hnm.out).mono ?_;rintro e0 wn ⟨rfl,hbn⟩;rw [h1.out];(replace hI:=Lib.hid (hI.out.below hbn);clear hbn;(have a0:=hI.out.a.c 0 _ rfl;have a1:=hI.out.a.c 1 _ rfl;have a2:=hI.out.a.c 2 _ rfl;have r0:=hI.out.r.c 0 _ rfl;have r1:=hI.out.r.c 1 _ rfl;have f0:=hI.out.r.free 0 (by simp);have f1:=hI.out.r.free 1 (by simp))))
   |(go_at_call 74;clear a0 a1 a2 r0 r1 f0 f1;refine (CheckPolygon_any s.V s.d s.ps _ (hS.out.pts.below hI.out.bel)).mono ?_;rintro e0 wn ⟨rfl,hbn⟩;rw [h2.out];(replace hI:=Lib.hid (hI.out.below hbn);clear hbn;(have a0:=hI.out.a.c 0 _ rfl;have a1:=hI.out.a.c 1 _ rfl;have a2:=hI.out.a.c 2 _ rfl;have r0:=hI.out.r.c 0 _ rfl;have r1:=hI.out.r.c 1 _ rfl;have f0:=hI.out.r.free 0 (by simp);have f1:=hI.out.r.free 1 (by simp)))))
  refine bodyPost_ret (results_mid2 rfl _ _ (w.heap.size + 1) [.int .i64 (0),.int .i64 (0)] _ rfl ((hI.out.r.set 0 (.int .i64 (0)) (by simp)).set 1 (.int .i64 (0)) (by simp)).range Try.underlying64 rfl arr2Size) rfl ⟨by rw [hR.out];rfl,?_⟩
  exact (hI.out.bel.setCell (p:=⟨w.heap.size + 1,0,none⟩) (Nat.le_succ _) _).setCell (p:=⟨w.heap.size + 1,1,none⟩) (Nat.le_succ _) _
 ·by_cases z2 : x2 = 0
  ·subst z2
   by_cases h60 : 60 < s.l.length
   ·replace hR : Hid (R = (0,0,8)):=by show _ = _;rw [hR.out,if_pos rfl,if_pos rfl,if_pos h60]
    have h61 : 60 < (s.l.length : Int):=by omega
    replace h2:=Lib.hid h2
    go_enter Try.func37,Try.ntmps37
    go_wp2_with (first
     |(go_at_call 73;clear a0 a1 a2 r0 r1 f0 f1;refine (gisName_any s.name _ hnm.out).mono ?_;rintro e0 wn ⟨rfl,hbn⟩;rw [h1.out];(replace hI:=Lib.hid (hI.out.below hbn);clear hbn;(have a0:=hI.out.a.c 0 _ rfl;have a1:=hI.out.a.c 1 _ rfl;have a2:=hI.out.a.c 2 _ rfl;have r0:=hI.out.r.c 0 _ rfl;have r1:=hI.out.r.c 1 _ rfl;have f0:=hI.out.r.free 0 (by simp);have f1:=hI.out.r.free 1 (by simp))))
     |(go_at_call 74;clear a0 a1 a2 r0 r1 f0 f1;refine (CheckPolygon_any s.V s.d s.ps _ (hS.out.pts.below hI.out.bel)).mono ?_;rintro e0 wn ⟨rfl,hbn⟩;rw [h2.out];(replace hI:=Lib.hid (hI.out.below hbn);clear hbn;(have a0:=hI.out.a.c 0 _ rfl;have a1:=hI.out.a.c 1 _ rfl;have a2:=hI.out.a.c 2 _ rfl;have r0:=hI.out.r.c 0 _ rfl;have r1:=hI.out.r.c 1 _ rfl;have f0:=hI.out.r.free 0 (by simp);have f1:=hI.out.r.free 1 (by simp)))))
    refine bodyPost_ret (results_mid2 rfl _ _ (w.heap.size + 1) [.int .i64 (0),.int .i64 (0)] _ rfl ((hI.out.r.set 0 (.int .i64 (0)) (by simp)).set 1 (.int .i64 (0)) (by simp)).range Try.underlying64 rfl arr2Size) rfl ⟨by rw [hR.out];rfl,?_⟩
    exact (hI.out.bel.setCell (p:=⟨w.heap.size + 1,0,none⟩) (Nat.le_succ _) _).setCell (p:=⟨w.heap.size + 1,1,none⟩) (Nat.le_succ _) _
   ·replace hR : Hid (R = sectL s.ps [] s.l):=by show _ = _;rw [hR.out,if_pos rfl,if_pos rfl,if_neg h60]
    have h61 : ¬ 60 < (s.l.length : Int):=by omega
    have hC : Hid (Plg w s.V s.ps):=hS.out.pts.plg h2 (few_ok hS.out.few h2)
    replace h2:=Lib.hid h2
    have hR0 : Hid (R = sectL s.ps (s.l.take 0) (s.l.drop 0)):=hR
    have hok0 : Hid (∀ q ∈ s.l.take 0,Cal.polyE q.ps = 0):=fun q hq=>by cases hq
    clear hR
    go_enter Try.func37,Try.ntmps37
    go_wp2_with (first
     |(go_at_call 73;clear a0 a1 a2 r0 r1 f0 f1;refine (gisName_any s.name _ hnm.out).mono ?_;rintro e0 wn ⟨rfl,hbn⟩;rw [h1.out];(replace hI:=Lib.hid (hI.out.below hbn);clear hbn;(have a0:=hI.out.a.c 0 _ rfl;have a1:=hI.out.a.c 1 _ rfl;have a2:=hI.out.a.c 2 _ rfl;have r0:=hI.out.r.c 0 _ rfl;have r1:=hI.out.r.c 1 _ rfl;have f0:=hI.out.r.free 0 (by simp);have f1:=hI.out.r.free 1 (by simp))))
     |(go_at_call 74;clear a0 a1 a2 r0 r1 f0 f1;refine (CheckPolygon_any s.V s.d s.ps _ (hS.out.pts.below hI.out.bel)).mono ?_;rintro e0 wn ⟨rfl,hbn⟩;rw [h2.out];(replace hI:=Lib.hid (hI.out.below hbn);clear hbn;(have a0:=hI.out.a.c 0 _ rfl;have a1:=hI.out.a.c 1 _ rfl;have a2:=hI.out.a.c 2 _ rfl;have r0:=hI.out.r.c 0 _ rfl;have r1:=hI.out.r.c 1 _ rfl;have f0:=hI.out.r.free 0 (by simp);have f1:=hI.out.r.free 1 (by simp)))))
    clear a0 a1 a2 r0 r1 f0 f1
    go_loopw [28] (fun i wr=>∃ k : Nat,k ≤ s.l.length ∧ i = .int .i64 k ∧ Hid (R = sectL s.ps (s.l.take k) (s.l.drop k)) ∧ Hid (∀ q ∈ s.l.take k,Cal.polyE q.ps = 0) ∧ Hid (CsI w s wr)) (fun i _=>s.l.length - (intOf i).toNat)
    case atStart=>exact ⟨0,Nat.zero_le _,rfl,hR0,hok0,hI⟩
    case round =>
     clear hR0 hok0 hI
     obtain ⟨k,hk,rfl,hR,hok,hI⟩:=hrel
     by_cases hlt : k < s.l.length
     ·have hd:=sectL_drop (sec:=s.ps) hlt
      obtain ⟨E,hE⟩ : ∃ E,plotE s.ps (s.l.take k) s.l[k] = E:=⟨_,rfl⟩
      rw [hE] at hd
      have hcall : Hid (∀ W,CsI w s W → Calls Try.prog 75 #[.agg #[.string s.name,.slice s.V s.ps.length s.d,.slice s.S s.l.length s.e],.int .i64 (k : Int)] W fun e w'=>e = .returned (.tuple #[.int .i64 E.1,.int .i64 E.2]) ∧ Below W.heap.size W w'):=fun W hW=>by
       have:=checkPlot_any s k W hlt (hS.out.plots.below hW.bel) hS.out.cap (hC.out.below hW.bel) hS.out.fews hok.out
       rw [hE] at this
       exact this
      (have a0:=hI.out.a.c 0 _ rfl;have a1:=hI.out.a.c 1 _ rfl;have a2:=hI.out.a.c 2 _ rfl;have r0:=hI.out.r.c 0 _ rfl;have r1:=hI.out.r.c 1 _ rfl;have f0:=hI.out.r.free 0 (by simp);have f1:=hI.out.r.free 1 (by simp))
      by_cases z : E.2 = 0
      ·have hok2 : Hid (∀ q ∈ s.l.take (k + 1),Cal.polyE q.ps = 0):=fun q hq=>by
        rw [List.take_succ_eq_append_getElem hlt] at hq
        rcases List.mem_append.1 hq with h | h
        ·exact hok.out q h
        ·rw [List.mem_singleton.1 h]
         exact (plotE_zero (hE ▸ z)).2.2.1
       rw [if_pos z] at hd
       have hR2 : Hid (R = sectL s.ps (s.l.take (k + 1)) (s.l.drop (k + 1))):=hR.out.trans hd
       obtain ⟨E1,E2⟩:=E
       dsimp only at z hcall
       subst z
       clear hE hd hok hR
       go_wp2_with (go_at_call 75;clear a0 a1 a2 r0 r1 f0 f1;refine (hcall.out _ hI.out).mono ?_;rintro e0 wn ⟨rfl,hbn⟩;(replace hI:=Lib.hid (hI.out.below hbn);clear hbn;(have a0:=hI.out.a.c 0 _ rfl;have a1:=hI.out.a.c 1 _ rfl;have a2:=hI.out.a.c 2 _ rfl;have r0:=hI.out.r.c 0 _ rfl;have r1:=hI.out.r.c 1 _ rfl;have f0:=hI.out.r.free 0 (by simp);have f1:=hI.out.r.free 1 (by simp))))
       clear a0 a1 a2 r0 r1 f0 f1
       go_roundw
       case rel=>exact ⟨k + 1,by omega,by go_num,hR2,hok2,hI⟩
       case measure=>simp [intOf];omega
      ·rw [if_neg z] at hd
       replace hR : Hid (R = (E.1,(k : Int),E.2)):=hR.out.trans hd
       obtain ⟨E1,E2⟩:=E
       dsimp only at z hcall hR
       clear hE hd hok
       go_wp2_with (go_at_call 75;clear a0 a1 a2 r0 r1 f0 f1;refine (hcall.out _ hI.out).mono ?_;rintro e0 wn ⟨rfl,hbn⟩;(replace hI:=Lib.hid (hI.out.below hbn);clear hbn;(have a0:=hI.out.a.c 0 _ rfl;have a1:=hI.out.a.c 1 _ rfl;have a2:=hI.out.a.c 2 _ rfl;have r0:=hI.out.r.c 0 _ rfl;have r1:=hI.out.r.c 1 _ rfl;have f0:=hI.out.r.free 0 (by simp);have f1:=hI.out.r.free 1 (by simp))))
       refine bodyPost_ret (results_mid2 rfl _ _ (w.heap.size + 1) [.int .i64 (E1),.int .i64 ((k : Int))] _ rfl ((hI.out.r.set 0 (.int .i64 (E1)) (by simp)).set 1 (.int .i64 ((k : Int))) (by simp)).range Try.underlying64 rfl arr2Size) rfl ⟨by rw [hR.out];rfl,?_⟩
       exact (hI.out.bel.setCell (p:=⟨w.heap.size + 1,0,none⟩) (Nat.le_succ _) _).setCell (p:=⟨w.heap.size + 1,1,none⟩) (Nat.le_succ _) _
     ·obtain rfl : k = s.l.length:=by omega
      replace hR : Hid (R = (0,0,0)):=by show _ = _;rw [hR.out,List.drop_length];rfl
      clear hok
      (have a0:=hI.out.a.c 0 _ rfl;have a1:=hI.out.a.c 1 _ rfl;have a2:=hI.out.a.c 2 _ rfl;have r0:=hI.out.r.c 0 _ rfl;have r1:=hI.out.r.c 1 _ rfl;have f0:=hI.out.r.free 0 (by simp);have f1:=hI.out.r.free 1 (by simp))
      go_wp2_with fail
      refine bodyPost_ret (results_mid2 rfl _ _ (w.heap.size + 1) [.int .i64 (0),.int .i64 (0)] _ rfl ((hI.out.r.set 0 (.int .i64 (0)) (by simp)).set 1 (.int .i64 (0)) (by simp)).range Try.underlying64 rfl arr2Size) rfl ⟨by rw [hR.out];rfl,?_⟩
      exact (hI.out.bel.setCell (p:=⟨w.heap.size + 1,0,none⟩) (Nat.le_succ _) _).setCell (p:=⟨w.heap.size + 1,1,none⟩) (Nat.le_succ _) _
  ·replace hR : Hid (R = (0,0,x2)):=by show _ = _;rw [hR.out,if_pos rfl,if_neg z2]
   replace h2:=Lib.hid h2
   go_enter Try.func37,Try.ntmps37
   go_wp2_with (first
    |(go_at_call 73;clear a0 a1 a2 r0 r1 f0 f1;refine (gisName_any s.name _ hnm.out).mono ?_;rintro e0 wn ⟨rfl,hbn⟩;rw [h1.out];(replace hI:=Lib.hid (hI.out.below hbn);clear hbn;(have a0:=hI.out.a.c 0 _ rfl;have a1:=hI.out.a.c 1 _ rfl;have a2:=hI.out.a.c 2 _ rfl;have r0:=hI.out.r.c 0 _ rfl;have r1:=hI.out.r.c 1 _ rfl;have f0:=hI.out.r.free 0 (by simp);have f1:=hI.out.r.free 1 (by simp))))
    |(go_at_call 74;clear a0 a1 a2 r0 r1 f0 f1;refine (CheckPolygon_any s.V s.d s.ps _ (hS.out.pts.below hI.out.bel)).mono ?_;rintro e0 wn ⟨rfl,hbn⟩;rw [h2.out];(replace hI:=Lib.hid (hI.out.below hbn);clear hbn;(have a0:=hI.out.a.c 0 _ rfl;have a1:=hI.out.a.c 1 _ rfl;have a2:=hI.out.a.c 2 _ rfl;have r0:=hI.out.r.c 0 _ rfl;have r1:=hI.out.r.c 1 _ rfl;have f0:=hI.out.r.free 0 (by simp);have f1:=hI.out.r.free 1 (by simp)))))
   refine bodyPost_ret (results_mid2 rfl _ _ (w.heap.size + 1) [.int .i64 (0),.int .i64 (0)] _ rfl ((hI.out.r.set 0 (.int .i64 (0)) (by simp)).set 1 (.int .i64 (0)) (by simp)).range Try.underlying64 rfl arr2Size) rfl ⟨by rw [hR.out];rfl,?_⟩
   exact (hI.out.bel.setCell (p:=⟨w.heap.size + 1,0,none⟩) (Nat.le_succ _) _).setCell (p:=⟨w.heap.size + 1,1,none⟩) (Nat.le_succ _) _
end Go.Proofs.Ytfcjeejhdklkdaa
