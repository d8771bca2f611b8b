/- What the statements rest on: definitions and walks, part 11. -/
import Derived.Test.YthfokpchdlcidaaJ10
set_option maxRecDepth 100000
set_option maxHeartbeats 16000000
set_option linter.unusedSimpArgs false
set_option linter.unusedVariables false
namespace Go.Proofs.Ythfokpchdlcidaa
open Go Go.RowKit Go.Shelf
theorem plotE_zero {sec : List Pt} {bf : List Plo} {p : Plo} (h : (plotE sec bf p).2 = 0) : nameB p.name = true ∧ (bf.any fun q=>sameN q p) = false ∧ Cal.polyE p.ps = 0 ∧ Cal.withinP p.ps sec = true ∧ (bf.any fun q=>Cal.overlapP q.ps p.ps) = false:=by
 unfold plotE at h
 split at h
 ·rename_i h1
  split at h
  ·cases h
  ·rename_i h2
   split at h
   ·rename_i h3
    split at h
    ·rename_i h4
     split at h
     ·rename_i h5
      refine ⟨h1,by simpa using h2,h3,h4,?_⟩
      rw [← idxP_any,decide_eq_false_iff_not]
      omega
     ·cases h
    ·cases h
   ·rename_i h3;exact absurd h h3
 ·cases h
def sectL (sec : List Pt) : List Plo → List Plo → Int × Int × Int
 | _,[]=>(0,0,0)
 | bf,p :: r=>if (plotE sec bf p).2 = 0 then sectL sec (bf ++ [p]) r else ((plotE sec bf p).1,bf.length,(plotE sec bf p).2)
def sectE (name : ByteArray) (ps : List Pt) (l : List Plo) : Int × Int × Int :=
 if nameB name = true then (if Cal.polyE ps = 0 then (if 60 < l.length then (0,0,8) else sectL ps [] l) else (0,0,Cal.polyE ps)) else (0,0,4)
structure CsI (w : World) (s : Sct) (W : World) : Prop where
 a : BoxAt W w.heap.size [.string s.name,.slice s.V s.ps.length s.d,.slice s.S s.l.length s.e]
 r : BoxAt W (w.heap.size + 1) [.int .i64 0,.int .i64 0]
 bel : Below w.heap.size w W
theorem CsI.below {w : World} {s : Sct} {X Y : World} (h : CsI w s X) (hb : Below X.heap.size X Y) : CsI w s Y:=⟨h.a.below hb,h.r.below hb,below_step h.bel hb⟩
structure SctR (w : World) (s : Sct) : Prop where
 nm : s.name.size ≤ maxLen
 pts : PtsR w s.V s.ps
 few : few s.ps
 plots : Plos w s.S s.l
 cap : s.l.length ≤ s.e
 fews : ∀ p ∈ s.l,Go.Proofs.Ythfokpchdlcidaa.few p.ps
theorem SctR.below {w w' : World} {s : Sct} (h : SctR w s) (hb : Below w.heap.size w w') : SctR w' s:=⟨h.nm,h.pts.below hb,h.few,h.plots.below hb,h.cap,h.fews⟩
theorem arr2Size : (Try.prog.info? 41).map (·.size) = some 2:=by kernel_rfl
theorem sectL_drop {sec : List Pt} {l : List Plo} {k : Nat} (h : k < l.length) : sectL sec (l.take k) (l.drop k) = if (plotE sec (l.take k) l[k]).2 = 0 then sectL sec (l.take (k + 1)) (l.drop (k + 1)) else ((plotE sec (l.take k) l[k]).1,(k : Int),(plotE sec (l.take k) l[k]).2):=by
 rw [List.drop_eq_getElem_cons h,List.take_succ_eq_append_getElem h]
 show (if (plotE sec (l.take k) l[k]).2 = 0 then _ else ((plotE sec (l.take k) l[k]).1,((l.take k).length : Int),(plotE sec (l.take k) l[k]).2)) = _
 rw [List.length_take,Nat.min_eq_left (by omega)]
theorem CheckSection_any (s : Sct) (w : World) (hS : SctR w s) :
  Calls Try.prog 50 #[.agg #[.string s.name,.slice s.V s.ps.length s.d,.slice s.S s.l.length s.e]] w fun e w'=>e = .returned (.tuple #[.agg #[.int .i64 (sectE s.name s.ps s.l).1,.int .i64 (sectE s.name s.ps s.l).2.1],.int .i64 (sectE s.name s.ps s.l).2.2]) ∧ Below w.heap.size w w':=by
 obtain ⟨R,hRR⟩ : ∃ R,sectE s.name s.ps s.l = R:=⟨_,rfl⟩
 rw [hRR]
 have hsz:=hS.plots.size
 have hnm:=Lib.hid hS.nm
 replace hS:=Lib.hid hS
 obtain ⟨x1,h1⟩ : ∃ x,nameB s.name = x:=⟨_,rfl⟩
 obtain ⟨x2,h2⟩ : ∃ x,Cal.polyE s.ps = x:=⟨_,rfl⟩
 have hR : Hid (R = if x1 = true then (if x2 = 0 then (if 60 < s.l.length then (0,0,8) else sectL s.ps [] s.l) else (0,0,x2)) else (0,0,4)):=by
  show _ = _
  rw [← hRR]
  unfold sectE
  rw [h1,h2]
 clear hRR
 have hI : Hid (CsI w s ((w.alloc (.cells #[.string s.name,.slice s.V s.ps.length s.d,.slice s.S s.l.length s.e] 38)).alloc (.cells #[.int .i64 0,.int .i64 0] 41))):=by
  have b2:=BoxAt.new (w.alloc (.cells #[.string s.name,.slice s.V s.ps.length s.d,.slice s.S s.l.length s.e] 38)) #[.int .i64 0,.int .i64 0] 41
  rw [World.size_alloc] at b2
  exact ⟨(BoxAt.new w #[.string s.name,.slice s.V s.ps.length s.d,.slice s.S s.l.length s.e] 38).alloc _,b2,below_step (below_alloc _ _) (below_alloc _ _)⟩
 replace h1:=Lib.hid h1
 (have a0:=hI.out.a.c 0 _ rfl;have a1:=hI.out.a.c 1 _ rfl;have a2:=hI.out.a.c 2 _ rfl;have r0:=hI.out.r.c 0 _ rfl;have r1:=hI.out.r.c 1 _ rfl;have f0:=hI.out.r.free 0 (by simp);have f1:=hI.out.r.free 1 (by simp))
 cases x1
 ·replace h2:=Lib.hid h2
  go_enter Try.func50,Try.ntmps50
  go_wp2_with (first
   |(go_at_call 54;clear a0 a1 a2 r0 r1 f0 f1;refine (gisName_any s.name _ hnm.out).mono ?_;rintro e0 wn ⟨rfl,hbn⟩;rw [h1.out];(replace hI:=Lib.hid (hI.out.below hbn);clear hbn;(have a0:=hI.out.a.c 0 _ rfl;have a1:=hI.out.a.c 1 _ rfl;have a2:=hI.out.a.c 2 _ rfl;have r0:=hI.out.r.c 0 _ rfl;have r1:=hI.out.r.c 1 _ rfl;have f0:=hI.out.r.free 0 (by simp);have f1:=hI.out.r.free 1 (by simp))))
   |(go_at_call 46;clear a0 a1 a2 r0 r1 f0 f1;refine (CheckPolygon_any s.V s.d s.ps _ (hS.out.pts.below hI.out.bel)).mono ?_;rintro e0 wn ⟨rfl,hbn⟩;rw [h2.out];(replace hI:=Lib.hid (hI.out.below hbn);clear hbn;(have a0:=hI.out.a.c 0 _ rfl;have a1:=hI.out.a.c 1 _ rfl;have a2:=hI.out.a.c 2 _ rfl;have r0:=hI.out.r.c 0 _ rfl;have r1:=hI.out.r.c 1 _ rfl;have f0:=hI.out.r.free 0 (by simp);have f1:=hI.out.r.free 1 (by simp)))))
  refine bodyPost_ret (results_mid2 rfl _ _ (w.heap.size + 1) [.int .i64 (0),.int .i64 (0)] _ rfl ((hI.out.r.set 0 (.int .i64 (0)) (by simp)).set 1 (.int .i64 (0)) (by simp)).range Try.underlying41 rfl arr2Size) rfl ⟨by rw [hR.out];rfl,?_⟩
  exact (hI.out.bel.setCell (p:=⟨w.heap.size + 1,0,none⟩) (Nat.le_succ _) _).setCell (p:=⟨w.heap.size + 1,1,none⟩) (Nat.le_succ _) _
 ·by_cases z2 : x2 = 0
  ·subst z2
   by_cases h60 : 60 < s.l.length
   ·replace hR : Hid (R = (0,0,8)):=by show _ = _;rw [hR.out,if_pos rfl,if_pos rfl,if_pos h60]
    have h61 : 60 < (s.l.length : Int):=by omega
    replace h2:=Lib.hid h2
    go_enter Try.func50,Try.ntmps50
    go_wp2_with (first
     |(go_at_call 54;clear a0 a1 a2 r0 r1 f0 f1;refine (gisName_any s.name _ hnm.out).mono ?_;rintro e0 wn ⟨rfl,hbn⟩;rw [h1.out];(replace hI:=Lib.hid (hI.out.below hbn);clear hbn;(have a0:=hI.out.a.c 0 _ rfl;have a1:=hI.out.a.c 1 _ rfl;have a2:=hI.out.a.c 2 _ rfl;have r0:=hI.out.r.c 0 _ rfl;have r1:=hI.out.r.c 1 _ rfl;have f0:=hI.out.r.free 0 (by simp);have f1:=hI.out.r.free 1 (by simp))))
     |(go_at_call 46;clear a0 a1 a2 r0 r1 f0 f1;refine (CheckPolygon_any s.V s.d s.ps _ (hS.out.pts.below hI.out.bel)).mono ?_;rintro e0 wn ⟨rfl,hbn⟩;rw [h2.out];(replace hI:=Lib.hid (hI.out.below hbn);clear hbn;(have a0:=hI.out.a.c 0 _ rfl;have a1:=hI.out.a.c 1 _ rfl;have a2:=hI.out.a.c 2 _ rfl;have r0:=hI.out.r.c 0 _ rfl;have r1:=hI.out.r.c 1 _ rfl;have f0:=hI.out.r.free 0 (by simp);have f1:=hI.out.r.free 1 (by simp)))))
    refine bodyPost_ret (results_mid2 rfl _ _ (w.heap.size + 1) [.int .i64 (0),.int .i64 (0)] _ rfl ((hI.out.r.set 0 (.int .i64 (0)) (by simp)).set 1 (.int .i64 (0)) (by simp)).range Try.underlying41 rfl arr2Size) rfl ⟨by rw [hR.out];rfl,?_⟩
    exact (hI.out.bel.setCell (p:=⟨w.heap.size + 1,0,none⟩) (Nat.le_succ _) _).setCell (p:=⟨w.heap.size + 1,1,none⟩) (Nat.le_succ _) _
   ·replace hR : Hid (R = sectL s.ps [] s.l):=by show _ = _;rw [hR.out,if_pos rfl,if_pos rfl,if_neg h60]
    have h61 : ¬ 60 < (s.l.length : Int):=by omega
    have hC : Hid (Plg w s.V s.ps):=hS.out.pts.plg h2 (few_ok hS.out.few h2)
    replace h2:=Lib.hid h2
    have hR0 : Hid (R = sectL s.ps (s.l.take 0) (s.l.drop 0)):=hR
    have hok0 : Hid (∀ q ∈ s.l.take 0,Cal.polyE q.ps = 0):=fun q hq=>by cases hq
    clear hR
    go_enter Try.func50,Try.ntmps50
    go_wp2_with (first
     |(go_at_call 54;clear a0 a1 a2 r0 r1 f0 f1;refine (gisName_any s.name _ hnm.out).mono ?_;rintro e0 wn ⟨rfl,hbn⟩;rw [h1.out];(replace hI:=Lib.hid (hI.out.below hbn);clear hbn;(have a0:=hI.out.a.c 0 _ rfl;have a1:=hI.out.a.c 1 _ rfl;have a2:=hI.out.a.c 2 _ rfl;have r0:=hI.out.r.c 0 _ rfl;have r1:=hI.out.r.c 1 _ rfl;have f0:=hI.out.r.free 0 (by simp);have f1:=hI.out.r.free 1 (by simp))))
     |(go_at_call 46;clear a0 a1 a2 r0 r1 f0 f1;refine (CheckPolygon_any s.V s.d s.ps _ (hS.out.pts.below hI.out.bel)).mono ?_;rintro e0 wn ⟨rfl,hbn⟩;rw [h2.out];(replace hI:=Lib.hid (hI.out.below hbn);clear hbn;(have a0:=hI.out.a.c 0 _ rfl;have a1:=hI.out.a.c 1 _ rfl;have a2:=hI.out.a.c 2 _ rfl;have r0:=hI.out.r.c 0 _ rfl;have r1:=hI.out.r.c 1 _ rfl;have f0:=hI.out.r.free 0 (by simp);have f1:=hI.out.r.free 1 (by simp)))))
    clear a0 a1 a2 r0 r1 f0 f1
    go_loopw [28] (fun i wr=>∃ k : Nat,k ≤ s.l.length ∧ i = .int .i64 k ∧ Hid (R = sectL s.ps (s.l.take k) (s.l.drop k)) ∧ Hid (∀ q ∈ s.l.take k,Cal.polyE q.ps = 0) ∧ Hid (CsI w s wr)) (fun i _=>s.l.length - (intOf i).toNat)
    case atStart=>exact ⟨0,Nat.zero_le _,rfl,hR0,hok0,hI⟩
    case round =>
     clear hR0 hok0 hI
     obtain ⟨k,hk,rfl,hR,hok,hI⟩:=hrel
     by_cases hlt : k < s.l.length
     ·have hd:=sectL_drop (sec:=s.ps) hlt
      obtain ⟨E,hE⟩ : ∃ E,plotE s.ps (s.l.take k) s.l[k] = E:=⟨_,rfl⟩
      rw [hE] at hd
      have hcall : Hid (∀ W,CsI w s W → Calls Try.prog 83 #[.agg #[.string s.name,.slice s.V s.ps.length s.d,.slice s.S s.l.length s.e],.int .i64 (k : Int)] W fun e w'=>e = .returned (.tuple #[.int .i64 E.1,.int .i64 E.2]) ∧ Below W.heap.size W w'):=fun W hW=>by
       have:=checkPlot_any s k W hlt (hS.out.plots.below hW.bel) hS.out.cap (hC.out.below hW.bel) hS.out.fews hok.out
       rw [hE] at this
       exact this
      (have a0:=hI.out.a.c 0 _ rfl;have a1:=hI.out.a.c 1 _ rfl;have a2:=hI.out.a.c 2 _ rfl;have r0:=hI.out.r.c 0 _ rfl;have r1:=hI.out.r.c 1 _ rfl;have f0:=hI.out.r.free 0 (by simp);have f1:=hI.out.r.free 1 (by simp))
      by_cases z : E.2 = 0
      ·have hok2 : Hid (∀ q ∈ s.l.take (k + 1),Cal.polyE q.ps = 0):=fun q hq=>by
        rw [List.take_succ_eq_append_getElem hlt] at hq
        rcases List.mem_append.1 hq with h | h
        ·exact hok.out q h
        ·rw [List.mem_singleton.1 h]
         exact (plotE_zero (hE ▸ z)).2.2.1
       rw [if_pos z] at hd
       have hR2 : Hid (R = sectL s.ps (s.l.take (k + 1)) (s.l.drop (k + 1))):=hR.out.trans hd
       obtain ⟨E1,E2⟩:=E
       dsimp only at z hcall
       subst z
       clear hE hd hok hR
       go_wp2_with (go_at_call 83;clear a0 a1 a2 r0 r1 f0 f1;refine (hcall.out _ hI.out).mono ?_;rintro e0 wn ⟨rfl,hbn⟩;(replace hI:=Lib.hid (hI.out.below hbn);clear hbn;(have a0:=hI.out.a.c 0 _ rfl;have a1:=hI.out.a.c 1 _ rfl;have a2:=hI.out.a.c 2 _ rfl;have r0:=hI.out.r.c 0 _ rfl;have r1:=hI.out.r.c 1 _ rfl;have f0:=hI.out.r.free 0 (by simp);have f1:=hI.out.r.free 1 (by simp))))
       clear a0 a1 a2 r0 r1 f0 f1
       go_roundw
       case rel=>exact ⟨k + 1,by omega,by go_num,hR2,hok2,hI⟩
       case measure=>simp [intOf];omega
      ·rw [if_neg z] at hd
       replace hR : Hid (R = (E.1,(k : Int),E.2)):=hR.out.trans hd
       obtain ⟨E1,E2⟩:=E
       dsimp only at z hcall hR
       clear hE hd hok
       go_wp2_with (go_at_call 83;clear a0 a1 a2 r0 r1 f0 f1;refine (hcall.out _ hI.out).mono ?_;rintro e0 wn ⟨rfl,hbn⟩;(replace hI:=Lib.hid (hI.out.below hbn);clear hbn;(have a0:=hI.out.a.c 0 _ rfl;have a1:=hI.out.a.c 1 _ rfl;have a2:=hI.out.a.c 2 _ rfl;have r0:=hI.out.r.c 0 _ rfl;have r1:=hI.out.r.c 1 _ rfl;have f0:=hI.out.r.free 0 (by simp);have f1:=hI.out.r.free 1 (by simp))))
       refine bodyPost_ret (results_mid2 rfl _ _ (w.heap.size + 1) [.int .i64 (E1),.int .i64 ((k : Int))] _ rfl ((hI.out.r.set 0 (.int .i64 (E1)) (by simp)).set 1 (.int .i64 ((k : Int))) (by simp)).range Try.underlying41 rfl arr2Size) rfl ⟨by rw [hR.out];rfl,?_⟩
       exact (hI.out.bel.setCell (p:=⟨w.heap.size + 1,0,none⟩) (Nat.le_succ _) _).setCell (p:=⟨w.heap.size + 1,1,none⟩) (Nat.le_succ _) _
     ·obtain rfl : k = s.l.length:=by omega
      replace hR : Hid (R = (0,0,0)):=by show _ = _;rw [hR.out,List.drop_length];rfl
      clear hok
      (have a0:=hI.out.a.c 0 _ rfl;have a1:=hI.out.a.c 1 _ rfl;have a2:=hI.out.a.c 2 _ rfl;have r0:=hI.out.r.c 0 _ rfl;have r1:=hI.out.r.c 1 _ rfl;have f0:=hI.out.r.free 0 (by simp);have f1:=hI.out.r.free 1 (by simp))
      go_wp2_with fail
      refine bodyPost_ret (results_mid2 rfl _ _ (w.heap.size + 1) [.int .i64 (0),.int .i64 (0)] _ rfl ((hI.out.r.set 0 (.int .i64 (0)) (by simp)).set 1 (.int .i64 (0)) (by simp)).range Try.underlying41 rfl arr2Size) rfl ⟨by rw [hR.out];rfl,?_⟩
      exact (hI.out.bel.setCell (p:=⟨w.heap.size + 1,0,none⟩) (Nat.le_succ _) _).setCell (p:=⟨w.heap.size + 1,1,none⟩) (Nat.le_succ _) _
  ·replace hR : Hid (R = (0,0,x2)):=by show _ = _;rw [hR.out,if_pos rfl,if_neg z2]
   replace h2:=Lib.hid h2
   go_enter Try.func50,Try.ntmps50
   go_wp2_with (first
    |(go_at_call 54;clear a0 a1 a2 r0 r1 f0 f1;refine (gisName_any s.name _ hnm.out).mono ?_;rintro e0 wn ⟨rfl,hbn⟩;rw [h1.out];(replace hI:=Lib.hid (hI.out.below hbn);clear hbn;(have a0:=hI.out.a.c 0 _ rfl;have a1:=hI.out.a.c 1 _ rfl;have a2:=hI.out.a.c 2 _ rfl;have r0:=hI.out.r.c 0 _ rfl;have r1:=hI.out.r.c 1 _ rfl;have f0:=hI.out.r.free 0 (by simp);have f1:=hI.out.r.free 1 (by simp))))
    |(go_at_call 46;clear a0 a1 a2 r0 r1 f0 f1;refine (CheckPolygon_any s.V s.d s.ps _ (hS.out.pts.below hI.out.bel)).mono ?_;rintro e0 wn ⟨rfl,hbn⟩;rw [h2.out];(replace hI:=Lib.hid (hI.out.below hbn);clear hbn;(have a0:=hI.out.a.c 0 _ rfl;have a1:=hI.out.a.c 1 _ rfl;have a2:=hI.out.a.c 2 _ rfl;have r0:=hI.out.r.c 0 _ rfl;have r1:=hI.out.r.c 1 _ rfl;have f0:=hI.out.r.free 0 (by simp);have f1:=hI.out.r.free 1 (by simp)))))
   refine bodyPost_ret (results_mid2 rfl _ _ (w.heap.size + 1) [.int .i64 (0),.int .i64 (0)] _ rfl ((hI.out.r.set 0 (.int .i64 (0)) (by simp)).set 1 (.int .i64 (0)) (by simp)).range Try.underlying41 rfl arr2Size) rfl ⟨by rw [hR.out];rfl,?_⟩
   exact (hI.out.bel.setCell (p:=⟨w.heap.size + 1,0,none⟩) (Nat.le_succ _) _).setCell (p:=⟨w.heap.size + 1,1,none⟩) (Nat.le_succ _) _
end Go.Proofs.Ythfokpchdlcidaa
namespace Go.Proofs.Ythfokpchdlcidaa
open Go Go.RowKit Go.Shelf
attribute [local go_sem] Oper.semAt_some
structure CmI (w : World) (s t : Sd) (X : World) : Prop where
 s : BoxAt X w.heap.size [.int .i64 s.a.x,.int .i64 s.a.y,.int .i64 s.b.x,.int .i64 s.b.y]
 t : BoxAt X (w.heap.size + 1) [.int .i64 t.a.x,.int .i64 t.a.y,.int .i64 t.b.x,.int .i64 t.b.y]
 z : BoxAt X (w.heap.size + 1 + 1) [.int .i64 0,.int .i64 0,.int .i64 0,.int .i64 0]
 bel : Below w.heap.size w X
theorem CmI.first (w : World) (s t : Sd) : CmI w s t (((w.alloc (.cells #[.int .i64 s.a.x,.int .i64 s.a.y,.int .i64 s.b.x,.int .i64 s.b.y] 126)).alloc (.cells #[.int .i64 t.a.x,.int .i64 t.a.y,.int .i64 t.b.x,.int .i64 t.b.y] 126)).alloc (.cells #[.int .i64 0,.int .i64 0,.int .i64 0,.int .i64 0] 72)):=by
 have h2:=(BoxAt.new (w.alloc (.cells #[.int .i64 s.a.x,.int .i64 s.a.y,.int .i64 s.b.x,.int .i64 s.b.y] 126)) #[.int .i64 t.a.x,.int .i64 t.a.y,.int .i64 t.b.x,.int .i64 t.b.y] 126).alloc (.cells #[.int .i64 0,.int .i64 0,.int .i64 0,.int .i64 0] 72)
 have h3:=BoxAt.new ((w.alloc (.cells #[.int .i64 s.a.x,.int .i64 s.a.y,.int .i64 s.b.x,.int .i64 s.b.y] 126)).alloc (.cells #[.int .i64 t.a.x,.int .i64 t.a.y,.int .i64 t.b.x,.int .i64 t.b.y] 126)) #[.int .i64 0,.int .i64 0,.int .i64 0,.int .i64 0] 72
 simp only [World.size_alloc] at h2 h3
 exact ⟨((BoxAt.new w #[.int .i64 s.a.x,.int .i64 s.a.y,.int .i64 s.b.x,.int .i64 s.b.y] 126).alloc _).alloc _,h2,h3,below_step (below_step (below_alloc _ _) (below_alloc _ _)) (below_alloc _ _)⟩
structure CmJ (w : World) (s t : Sd) (Bf Be : Nat) (f e : Pt) (X : World) : Prop where
 base : CmI w s t X
 f : BoxAt X Bf [.int .i64 f.x,.int .i64 f.y]
 e : BoxAt X Be [.int .i64 e.x,.int .i64 e.y]
 ne : Bf ≠ Be
 hf : w.heap.size + 1 + 1 < Bf
 he : w.heap.size + 1 + 1 < Be
structure CmK (w : World) (s : Sd) (Bf Be : Nat) (f e : Pt) (X : World) : Prop where
 s : BoxAt X w.heap.size [.int .i64 s.a.x,.int .i64 s.a.y,.int .i64 s.b.x,.int .i64 s.b.y]
 z : ∃ z0 z1 z2 z3,BoxAt X (w.heap.size + 1 + 1) [z0,z1,z2,z3]
 f : BoxAt X Bf [.int .i64 f.x,.int .i64 f.y]
 e : BoxAt X Be [.int .i64 e.x,.int .i64 e.y]
 bel : Below w.heap.size w X
 hf : w.heap.size + 1 + 1 < Bf
 he : w.heap.size + 1 + 1 < Be
theorem CmJ.k {w : World} {s t : Sd} {Bf Be : Nat} {f e : Pt} {X : World} (h : CmJ w s t Bf Be f e X) : CmK w s Bf Be f e X:=⟨h.base.s,⟨_,_,_,_,h.base.z⟩,h.f,h.e,h.base.bel,h.hf,h.he⟩
theorem sgSize : (Try.prog.info? 72).map (·.size) = some 4:=by kernel_rfl
end Go.Proofs.Ythfokpchdlcidaa
namespace Go.Proofs.Ythfokpchdlcidaa
open Go Go.RowKit Go.Shelf
theorem Sx.putC {w W : World} {L : List (Nat × Nat × Value)} {b : Nat} {vs : List Value} (h : Sx w L W) (hb : w.heap.size ≤ b) (hL : ∀ x ∈ L,x.1 < w.heap.size) : Sx w L (W.setCells b 0 vs) :=
 ⟨fun x hx=>(World.cell?_of_block (a:=⟨x.1,x.2.1,none⟩) ((grown_setCells b vs 0 W).block x.1 (Nat.lt_of_lt_of_le (hL x hx) h.bel.size) (fun e=>by have:=hL x hx;have:=Option.some.inj e;omega))).trans (h.cs x hx),below_of_grownB h.bel (grown_setCells b vs 0 W) hb⟩
end Go.Proofs.Ythfokpchdlcidaa
namespace Go.Proofs.Ythfokpchdlcidaa.Cal
def sclH (p : Int) (h : Int × Int) : Int:=h.1 * p.tdiv h.2
def xs (p : Int) (fr : List (Int × Int)) (i : Nat) : Int:=sclH p (fr[i]?.getD (0,1))
end Go.Proofs.Ythfokpchdlcidaa.Cal
namespace Go.Proofs.Ythfokpchdlcidaa
open Go Go.RowKit Go.Shelf
theorem Sx.grow {w W W' : World} {L : List (Nat × Nat × Value)} {row : Option Nat} (h : Sx w L W) (hg : W.grownBy W' row) (hw : ∀ g,row = some g → w.heap.size ≤ g) (hL : ∀ x ∈ L,row ≠ some x.1 ∧ x.1 < W.heap.size) : Sx w L W' :=
 ⟨fun x hx=>(World.cell?_of_block (a:=⟨x.1,x.2.1,none⟩) (hg.block x.1 (hL x hx).2 (fun e=>(hL x hx).1 e.symm))).trans (h.cs x hx),h.bel.trans ((Below.refl _ _).grown hg h.bel.size (fun k e=>hw k e))⟩
end Go.Proofs.Ythfokpchdlcidaa
namespace Go.Proofs.Ythfokpchdlcidaa
open Go Go.RowKit Go.Shelf
theorem rows_new {m : Nat} (w : World) (l : List (List Value)) (hw : ∀ r ∈ l,r.length = m) (cs : Array Value) (hcs : cs = l.flatten.toArray) (t : TypeId) : RowsAt (w.alloc (.cells cs t)) (some ⟨w.heap.size,0,none⟩) m l:=by
 subst hcs
 exact fun k r hr=>⟨w.heap.size,0,rfl,by simp,fun j v hv=>by rw [cell_alloc_at,Nat.zero_add];simpa using flat_get hw hr hv⟩
theorem ptsR_new (w : World) (ps : List Pt) (hl : ps.length ≤ 1000000) (cs : Array Value) (hcs : cs = (ps.map ptR).flatten.toArray) (t : TypeId) : PtsR (w.alloc (.cells cs t)) (some ⟨w.heap.size,0,none⟩) ps :=
 ⟨rows_new w _ (fun r hr=>by obtain ⟨p,_,rfl⟩:=List.mem_map.1 hr;rfl) cs hcs t,hl,fun ad e _=>by cases e;simp⟩
theorem PtsR.far {w w' : World} {b : Nat} {B : Nat} {ps : List Pt} (h : PtsR w (some ⟨b,0,none⟩) ps) (hg : w.grownBy w' (some B)) (hne : b ≠ B) : PtsR w' (some ⟨b,0,none⟩) ps :=
 ⟨h.rows.farI hg (fun a e=>by cases e;exact fun h=>hne (by cases h;rfl)),h.size,fun ad e hl=>Nat.lt_of_lt_of_le (h.own ad e hl) hg.size⟩
theorem lawBox_any (x1 y1 x2 y2 : Int) (w : World) : Calls Try.prog 29 #[.int .i64 x1,.int .i64 y1,.int .i64 x2,.int .i64 y2] w fun e w'=>∃ b,e = .returned (.slice (some ⟨b,0,none⟩) 4 4) ∧ w.heap.size ≤ b ∧ PtsR w' (some ⟨b,0,none⟩) (Cal.boxP x1 y1 x2 y2) ∧ Below w.heap.size w w':=by
 have hp:=Lib.hid (fun t=>ptsR_new w (Cal.boxP x1 y1 x2 y2) (by simp [Cal.boxP]) #[.int .i64 x1,.int .i64 y1,.int .i64 x2,.int .i64 y1,.int .i64 x2,.int .i64 y2,.int .i64 x1,.int .i64 y2] rfl t)
 go_enter Try.func29,Try.ntmps29
 go_wp2_with fail
 go_ret
 exact ⟨_,rfl,Nat.le_refl _,hp.out _,below_alloc _ _⟩
def triLevs (k : Int) : List Lev:=[⟨0,1,100,1⟩,⟨1,2,50,1⟩,⟨0,2,156,k⟩]
theorem lawTri_any (k : Int) (w : World) : Calls Try.prog 27 #[.int .i64 k] w fun e w'=>∃ A,e = .returned (.slice A 3 3) ∧ Levs w' A (triLevs k) ∧ Below w.heap.size w w':=by
 have hp:=Lib.hid (fun t=>rows_new (m:=4) w ((triLevs k).map Lev.cells) (fun r hr=>by obtain ⟨p,_,rfl⟩:=List.mem_map.1 hr;rfl) #[.int .i64 0,.int .i64 1,.int .i64 100,.int .i64 1,.int .i64 1,.int .i64 2,.int .i64 50,.int .i64 1,.int .i64 0,.int .i64 2,.int .i64 156,.int .i64 k] rfl t)
 go_enter Try.func27,Try.ntmps27
 go_wp2_with fail
 go_ret
 exact ⟨_,rfl,⟨hp.out _,by simp [triLevs]⟩,below_alloc _ _⟩
end Go.Proofs.Ythfokpchdlcidaa
namespace Go.Proofs.Ythfokpchdlcidaa
open Go Go.RowKit Go.Shelf
theorem sectL_zero {sec : List Pt} : ∀ {l bf : List Plo},(sectL sec bf l).2.2 = 0 → ∀ k (h : k < l.length),(plotE sec (bf ++ l.take k) l[k]).2 = 0
 | [],_,_,k,h=>by simp at h
 | p :: r,bf,hz,k,h=>by
  unfold sectL at hz
  split at hz
  ·rename_i h0
   cases k with
   | zero=>simpa using h0
   | succ k =>
    have:=sectL_zero (l:=r) (bf:=bf ++ [p]) hz k (by simpa using h)
    simpa using this
  ·rename_i h0;exact absurd hz h0
theorem sectE_zero {name : ByteArray} {ps : List Pt} {l : List Plo} (h : (sectE name ps l).2.2 = 0) : nameB name = true ∧ Cal.polyE ps = 0 ∧ l.length ≤ 60 ∧ ∀ k (h : k < l.length),(plotE ps (l.take k) l[k]).2 = 0:=by
 unfold sectE at h
 split at h
 ·rename_i h1
  split at h
  ·rename_i h2
   split at h
   ·cases h
   ·refine ⟨h1,h2,by omega,fun k hk=>?_⟩
    have:=sectL_zero h k hk
    simpa using this
  ·rename_i h2;exact absurd h h2
 ·cases h
def sumA : List Plo → Int
 | []=>0
 | p :: r=>Cal.areaP p.ps + sumA r
theorem sumA_take {l : List Plo} {k : Nat} (h : k < l.length) : sumA (l.take (k + 1)) = sumA (l.take k) + Cal.areaP l[k].ps:=by
 rw [List.take_succ_eq_append_getElem h]
 have app : ∀ a b : List Plo,sumA (a ++ b) = sumA a + sumA b:=fun a b=>by
  induction a with
  | nil=>simp [sumA]
  | cons x r ih=>rw [List.cons_append,sumA,sumA,ih];omega
 rw [app]
 simp [sumA]
theorem sumA_box : ∀ {l : List Plo},(∀ p ∈ l,-20000000000000 ≤ Cal.areaP p.ps ∧ Cal.areaP p.ps ≤ 20000000000000) → -(20000000000000 * (l.length : Int)) ≤ sumA l ∧ sumA l ≤ 20000000000000 * (l.length : Int)
 | [],_=>by simp [sumA]
 | p :: r,h=>by
  have ih:=sumA_box (l:=r) (fun q hq=>h q (List.mem_cons_of_mem _ hq))
  have hp:=h p (List.mem_cons_self ..)
  rw [sumA,List.length_cons]
  omega
theorem area_box {w : World} {V : Option Addr} {ps : List Pt} (h : Pts w V ps) (hl : ps.length ≤ 10) : -20000000000000 ≤ Cal.areaP ps ∧ Cal.areaP ps ≤ 20000000000000:=by
 have:=areaTo_box h ps.length (Nat.le_refl _)
 unfold Cal.areaP
 omega
def gapS (s : Sct) : Int:=if (sectE s.name s.ps s.l).2.2 = 0 then Cal.areaP s.ps - sumA s.l else 0
structure GpI (w : World) (s : Sct) (W : World) : Prop where
 a : BoxAt W w.heap.size [.string s.name,.slice s.V s.ps.length s.d,.slice s.S s.l.length s.e]
 bel : Below w.heap.size w W
theorem GpI.below {w : World} {s : Sct} {X Y : World} (h : GpI w s X) (hb : Below X.heap.size X Y) : GpI w s Y:=⟨h.a.below hb,below_step h.bel hb⟩
theorem Gap_any (s : Sct) (w : World) (hS : SctR w s) :
  Calls Try.prog 20 #[.agg #[.string s.name,.slice s.V s.ps.length s.d,.slice s.S s.l.length s.e]] w fun e w'=>e = .returned (.tuple #[.int .i64 (gapS s),.int .i64 (sectE s.name s.ps s.l).2.2]) ∧ Below w.heap.size w w':=by
 have hI : Hid (GpI w s (w.alloc (.cells #[.string s.name,.slice s.V s.ps.length s.d,.slice s.S s.l.length s.e] 38))):=⟨BoxAt.new w #[.string s.name,.slice s.V s.ps.length s.d,.slice s.S s.l.length s.e] 38,below_alloc _ _⟩
 have hcs:=Lib.hid (fun W (hW : GpI w s W)=>CheckSection_any s W (hS.below hW.bel))
 have hsz:=hS.plots.size
 by_cases h0 : (sectE s.name s.ps s.l).2.2 = 0
 ·have hz:=sectE_zero h0
  have hg : gapS s = Cal.areaP s.ps - sumA s.l:=by unfold gapS;rw [if_pos h0]
  have hC:=hS.pts.plg hz.2.1 (few_ok hS.few hz.2.1)
  have hCb:=area_box hC.v.pts hC.len
  have hPl : Hid (∀ p ∈ s.l,Plg w p.V p.ps ∧ -20000000000000 ≤ Cal.areaP p.ps ∧ Cal.areaP p.ps ≤ 20000000000000):=fun p hp=>by
   obtain ⟨k,hk,rfl⟩:=List.getElem_of_mem hp
   have h3:=(plotE_zero (hz.2.2.2 k hk)).2.2.1
   have hq:=(hS.plots.pts _ hp).plg h3 (few_ok (hS.fews _ hp) h3)
   exact ⟨hq,area_box hq.v.pts hq.len⟩
  have hl60:=hz.2.2.1
  obtain ⟨R,hR⟩ : ∃ R,sectE s.name s.ps s.l = R:=⟨_,rfl⟩
  rw [hR] at h0 hcs
  rw [hg,hR]
  obtain ⟨R1,R2,R3⟩:=R
  dsimp only at h0 hcs ⊢
  subst h0
  obtain ⟨A,hA⟩ : ∃ A,Cal.areaP s.ps = A:=⟨_,rfl⟩
  rw [hA] at hCb ⊢
  replace hA:=Lib.hid hA
  replace hC:=Lib.hid hC
  have hrows:=Lib.hid hS.plots.rows
  clear hz hg hR hS
  obtain ⟨nm,V,d,ps,S,e,l⟩:=s
  dsimp only at *
  have hS0 : Hid ((0 : Int) = sumA (l.take 0)):=rfl
  (have a0:=hI.out.a.c 0 _ rfl;have a1:=hI.out.a.c 1 _ rfl;have a2:=hI.out.a.c 2 _ rfl)
  go_enter Try.func20,Try.ntmps20
  go_wp2_with (first
   |(go_at_call 50;clear a0 a1 a2;refine (hcs.out _ hI.out).mono ?_;rintro e0 wn ⟨rfl,hbn⟩;replace hI:=Lib.hid (hI.out.below hbn);clear hbn;have lt0:=hI.out.a.lt;(have a0:=hI.out.a.c 0 _ rfl;have a1:=hI.out.a.c 1 _ rfl;have a2:=hI.out.a.c 2 _ rfl))
   |(go_at_call 49;clear a0 a1 a2;refine (area_any V d ps _ (hC.out.below (below_step hI.out.bel (below_alloc _ _))).v.pts).mono ?_;rintro e0 wm ⟨rfl,hbn⟩;rw [hA.out];replace hI:=Lib.hid ((hI.out.below (below_alloc _ _)).below hbn);clear hbn lt0;(have a0:=hI.out.a.c 0 _ rfl;have a1:=hI.out.a.c 1 _ rfl;have a2:=hI.out.a.c 2 _ rfl)))
  clear a0 a1 a2
  go_loopw [6,23] (fun v i wr=>∃ (k : Nat) (z : Int),k ≤ l.length ∧ i = .int .i64 k ∧ v = .int .i64 (A - z) ∧ Hid (z = sumA (l.take k)) ∧ Hid (GpI w _ wr)) (fun _ i _=>l.length - (intOf i).toNat)
  case atStart=>exact ⟨0,0,Nat.zero_le _,rfl,by go_num,hS0,hI⟩
  case round =>
   clear hS0 hI
   obtain ⟨k,z,hk,rfl,rfl,hz,hI⟩:=hrel
   by_cases hlt : k < l.length
   ·have hk' : l[k]? = some l[k]:=List.getElem?_eq_getElem hlt
    have hst:=sumA_take hlt
    have hp:=hPl.out _ (List.getElem_mem hlt)
    have hb1 : ∀ m,-(20000000000000 * 60) ≤ sumA (l.take m) ∧ sumA (l.take m) ≤ 20000000000000 * 60:=fun m=>by
     have:=sumA_box (l:=l.take m) (fun p hp=>(hPl.out p (List.mem_of_mem_take hp)).2)
     rw [List.length_take] at this
     omega
    have hz1:=hb1 k
    rw [← hz.out] at hz1 hst
    clear hb1
    generalize l[k] = p at *
    obtain ⟨b,o,rfl,hbl,c0,c1⟩:=plo_at (hrows.out.below hI.out.bel) hk'
    obtain ⟨g,hg⟩ : ∃ g,Cal.areaP p.ps = g:=⟨_,rfl⟩
    have hPp:=Lib.hid hp.1
    have hgb:=hp.2
    rw [hg] at hgb hst
    replace hg:=Lib.hid hg
    have hz2 : Hid (z + g = sumA (l.take (k + 1))):=hst.symm
    clear hst hp hk' hz
    have lt0:=hI.out.a.lt
    go_wp2_with (go_at_call 49;refine (area_any p.V p.d p.ps _ (hPp.out.below (below_step hI.out.bel (below_alloc _ _))).v.pts).mono ?_;rintro e0 wm ⟨rfl,hbn⟩;rw [hg.out];replace hI:=Lib.hid ((hI.out.below (below_alloc _ _)).below hbn);clear hbn lt0)
    go_roundw
    case rel=>exact ⟨k + 1,z + g,by omega,by go_num,by go_num,hz2,hI⟩
    case measure=>simp [intOf];omega
   ·obtain rfl : k = l.length:=by omega
    replace hz : Hid (z = sumA l):=by show _ = _;rw [hz.out,List.take_length]
    go_wp2_with fail
    go_ret2
    exact ⟨by rw [← hz.out];rfl,hI.out.bel⟩
 ·have hg : gapS s = 0:=by unfold gapS;rw [if_neg h0]
  rw [hg]
  obtain ⟨R,hR⟩ : ∃ R,sectE s.name s.ps s.l = R:=⟨_,rfl⟩
  rw [hR] at h0 hcs
  rw [hR]
  obtain ⟨R1,R2,R3⟩:=R
  dsimp only at h0 hcs ⊢
  clear hR hg hS
  (have a0:=hI.out.a.c 0 _ rfl;have a1:=hI.out.a.c 1 _ rfl;have a2:=hI.out.a.c 2 _ rfl)
  go_enter Try.func20,Try.ntmps20
  go_wp2_with (go_at_call 50;clear a0 a1 a2;refine (hcs.out _ hI.out).mono ?_;rintro e0 wn ⟨rfl,hbn⟩;replace hI:=Lib.hid (hI.out.below hbn);clear hbn)
  go_ret2
  exact ⟨rfl,hI.out.bel.trans (below_alloc _ _ |>.mono (by have:=hI.out.bel.size;omega))⟩
end Go.Proofs.Ythfokpchdlcidaa
namespace Go.Proofs.Ythfokpchdlcidaa
open Go Go.RowKit Go.Shelf
def fieldS (A1 A2 A3 S : Option Addr) : Sct:=⟨⟨#[115]⟩,A1,4,Cal.boxP 0 0 100 100,S,2,[⟨⟨#[97]⟩,A2,4,Cal.boxP 0 0 50 100⟩,⟨⟨#[98]⟩,A3,4,Cal.boxP 50 0 100 50⟩]⟩
theorem field_zero (A1 A2 A3 S : Option Addr) : (sectE (fieldS A1 A2 A3 S).name (fieldS A1 A2 A3 S).ps (fieldS A1 A2 A3 S).l).2.2 = 0:=by kernel_rfl
theorem field_gap (A1 A2 A3 S : Option Addr) : gapS (fieldS A1 A2 A3 S) = 5000:=by kernel_rfl
theorem secSize1 : (Try.prog.info? 38).map (·.size) = some 3:=by kernel_rfl
theorem Field_any (w : World) : Calls Try.prog 26 #[] w fun e w'=>∃ A1 A2 A3 S,e = .returned (.agg #[.string ⟨#[115]⟩,.slice A1 4 4,.slice S 2 2]) ∧ SctR w' (fieldS A1 A2 A3 S) ∧ Below w.heap.size w w':=by
 have h1:=Lib.hid (BoxAt.new w #[.string ⟨#[]⟩,.slice none 0 0,.slice none 0 0] 38)
 have hb0:=Lib.hid (below_alloc w (.cells #[.string ⟨#[]⟩,.slice none 0 0,.slice none 0 0] 38))
 go_enter Try.func26,Try.ntmps26
 go_wp2_with fail
 refine (lawBox_any _ _ _ _ _).mono ?_
 rintro e w1 ⟨A1,rfl,hA1,hp1,hb1⟩
 have hx1:=Lib.hid (h1.out.below hb1)
 have hp1:=Lib.hid hp1
 have hs1 : Hid (w.heap.size < A1):=by
  show w.heap.size < A1
  have:=hb0.out.size
  simp only [World.size_alloc] at hA1 this;omega
 have hb1:=Lib.hid (below_step hb0.out hb1)
 go_wp2_with fail
 refine (lawBox_any _ _ _ _ _).mono ?_
 rintro e w2 ⟨A2,rfl,hA2,hp2,hb2⟩
 have hx2:=Lib.hid (hx1.out.below hb2)
 have hp1:=Lib.hid (hp1.out.below hb2)
 have hp2:=Lib.hid hp2
 have hs2 : Hid (w.heap.size < A2):=by
  show w.heap.size < A2
  have:=hx1.out.lt
  omega
 have hb2:=Lib.hid (below_step hb1.out hb2)
 go_wp2_with fail
 refine (lawBox_any _ _ _ _ _).mono ?_
 rintro e w3 ⟨A3,rfl,hA3,hp3,hb3⟩
 have hx3:=Lib.hid (hx2.out.below hb3)
 have hp1:=Lib.hid (hp1.out.below hb3)
 have hp2:=Lib.hid (hp2.out.below hb3)
 have hp3:=Lib.hid hp3
 have hs3 : Hid (w.heap.size < A3):=by
  show w.heap.size < A3
  have:=hx2.out.lt
  omega
 have hb3:=Lib.hid (below_step hb2.out hb3)
 clear h1 hx1 hx2 hb1 hb2 hb0
 have hrow:=Lib.hid (fun t=>rows_new (m:=2) w3 [[.string ⟨#[97]⟩,.slice (some ⟨A2,0,none⟩) 4 4],[.string ⟨#[98]⟩,.slice (some ⟨A3,0,none⟩) 4 4]] (fun r hr=>by simp at hr;rcases hr with rfl | rfl <;> rfl) #[.string ⟨#[97]⟩,.slice (some ⟨A2,0,none⟩) 4 4,.string ⟨#[98]⟩,.slice (some ⟨A3,0,none⟩) 4 4] rfl t)
 have hx4:=Lib.hid (fun t=>hx3.out.below (below_alloc w3 (.cells #[.string ⟨#[97]⟩,.slice (some ⟨A2,0,none⟩) 4 4,.string ⟨#[98]⟩,.slice (some ⟨A3,0,none⟩) 4 4] t)))
 have hbl:=Lib.hid (fun t=>below_alloc w3 (.cells #[.string ⟨#[97]⟩,.slice (some ⟨A2,0,none⟩) 4 4,.string ⟨#[98]⟩,.slice (some ⟨A3,0,none⟩) 4 4] t))
 go_wp2_with (refine wpList_store_box rfl 38 (.tmp 0) (.tmp 7) rfl (w.heap.size) _ [.string ⟨#[115]⟩,.slice (some ⟨A1,0,none⟩) 4 4,.slice (some ⟨w3.heap.size,0,none⟩) 2 2] (by rfl) (by rfl) (hx4.out _) rfl secSize1 (by kernel_rfl) ?_;intro w5 h5 hg5)
 (try simp only [Exit.inBlock,Exit.then])
 have hal:=below_alloc w3 (.cells #[.string ⟨#[97]⟩,.slice (some ⟨A2,0,none⟩) 4 4,.string ⟨#[98]⟩,.slice (some ⟨A3,0,none⟩) 4 4] 48)
 have hb45:=below_of_grownB (below_step hb3.out hal) hg5 (Nat.le_refl _)
 have z1:=hs1.out
 have z2:=hs2.out
 have z3:=hs3.out
 have hps : ∀ b ps,PtsR w3 (some ⟨b,0,none⟩) ps → b ≠ w.heap.size → PtsR w5 (some ⟨b,0,none⟩) ps:=fun b ps h hne=>(h.below hal).far hg5 hne
 have k1:=hps A1 _ hp1.out (by omega)
 have k2:=hps A2 _ hp2.out (by omega)
 have k3:=hps A3 _ hp3.out (by omega)
 have k4:=(hrow.out 48).farI hg5 (fun a e=>by cases e;exact fun h=>by have:=Option.some.inj h;dsimp only at this;have:=hx3.out.lt;omega)
 refine bodyPost_ret (results_mid1 rfl _ _ (w.heap.size) [.string ⟨#[115]⟩,.slice (some ⟨A1,0,none⟩) 4 4,.slice (some ⟨w3.heap.size,0,none⟩) 2 2] _ rfl h5.range Try.underlying38 rfl secSize1) rfl ⟨_,some ⟨A2,0,none⟩,some ⟨A3,0,none⟩,_,rfl,⟨show (1 : Nat) ≤ maxLen by decide,k1,.inl (show (4 : Nat) ≤ 10 by decide),⟨k4,show (2 : Nat) ≤ 1000000 by decide,?_,?_⟩,Nat.le_refl _,?_⟩,hb45⟩
 ·intro p hp
  rcases List.mem_cons.1 hp with rfl | hp
  ·exact k2
  ·rw [List.mem_singleton.1 hp];exact k3
 ·intro p hp
  rcases List.mem_cons.1 hp with rfl | hp
  ·exact show (1 : Nat) ≤ maxLen by decide
  ·rw [List.mem_singleton.1 hp];exact show (1 : Nat) ≤ maxLen by decide
 ·intro p hp
  rcases List.mem_cons.1 hp with rfl | hp
  ·exact .inl (show (4 : Nat) ≤ 10 by decide)
  ·rw [List.mem_singleton.1 hp];exact .inl (show (4 : Nat) ≤ 10 by decide)
end Go.Proofs.Ythfokpchdlcidaa
namespace Go.Proofs.Ythfokpchdlcidaa
open Go Go.RowKit Go.Shelf
attribute [local go_sem] Oper.semAt_some
structure PA where
 V : Option Addr
 d : Nat
 ps : List Pt
def PA.v (p : PA) : Value:=.slice p.V p.ps.length p.d
end Go.Proofs.Ythfokpchdlcidaa
