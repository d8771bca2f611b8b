/- What the statements rest on: definitions and walks, part 18. -/
import Derived.Test.YtoojdkaimhlcbaaGreatJ17
set_option maxRecDepth 100000
set_option maxHeartbeats 16000000
set_option linter.unusedSimpArgs false
set_option linter.unusedVariables false
namespace Go.Proofs.YtoojdkaimhlcbaaGreat
open Go Go.RowKit Go.Shelf
theorem plotE_zero {sec:List Pt} {bf:List Plo} {p:Plo} (h:(plotE sec bf p).2=0):nameB p.name=true∧(bf.any fun q=>sameN q p)=false∧Cal.polyE p.ps=0∧Cal.withinP p.ps sec=true∧(bf.any fun q=>Cal.overlapP q.ps p.ps)=false:=by
 unfold plotE at h
 split at h
 ·rename_i h1
  split at h
  ·cases h
  rename_i h2
  split at h
  ·rename_i h3
   split at h
   ·rename_i h4
    split at h
    ·rename_i h5
     refine⟨h1,by simpa using h2,h3,h4,?_⟩
     rw[←idxP_any,decide_eq_false_iff_not]
     omega
    cases h
   cases h
  rename_i h3;exact absurd h h3
 cases h
def sectL (sec:List Pt):List Plo→List Plo→Int × Int × Int
 | _,[]=>(0,0,0)
 | bf,p :: r=>if (plotE sec bf p).2=0 then sectL sec (bf ++ [p]) r else ((plotE sec bf p).1,bf.length,(plotE sec bf p).2)
def sectE (name:ByteArray) (ps:List Pt) (l:List Plo):Int × Int × Int :=
 if nameB name=true then (if Cal.polyE ps=0 then (if 60<l.length then (0,0,8) else sectL ps [] l) else (0,0,Cal.polyE ps)) else (0,0,4)
structure CsI (w:World) (s:Sct) (W:World):Prop where
 a:BoxAt W w.heap.size [.string s.name,.slice s.V s.ps.length s.d,.slice s.S s.l.length s.e]
 r:BoxAt W (w.heap.size+1) [.int .i64 0,.int .i64 0]
 bel:Below w.heap.size w W
theorem CsI.below {w:World} {s:Sct} {X Y:World} (h:CsI w s X) (hb:Below X.heap.size X Y):CsI w s Y:=⟨h.a.below hb,h.r.below hb,below_step h.bel hb⟩
structure SctR (w:World) (s:Sct):Prop where
 nm:s.name.size≤maxLen
 pts:PtsR w s.V s.ps
 few:few s.ps
 plots:Plos w s.S s.l
 cap:s.l.length≤s.e
 fews:∀ p∈s.l,Go.Proofs.YtoojdkaimhlcbaaGreat.few p.ps
theorem SctR.below {w w':World} {s:Sct} (h:SctR w s) (hb:Below w.heap.size w w'):SctR w' s:=⟨h.nm,h.pts.below hb,h.few,h.plots.below hb,h.cap,h.fews⟩
theorem arr2Size:(Tryz.prog.info? 75).map (·.size)=some 2:=by kernel_rfl
theorem sectL_drop {sec:List Pt} {l:List Plo} {k:Nat} (h:k<l.length):sectL sec (l.take k) (l.drop k)=if (plotE sec (l.take k) l[k]).2=0 then sectL sec (l.take (k+1)) (l.drop (k+1)) else ((plotE sec (l.take k) l[k]).1,(k:Int),(plotE sec (l.take k) l[k]).2):=by
 rw[List.drop_eq_getElem_cons h,List.take_succ_eq_append_getElem h]
 show (if (plotE sec (l.take k) l[k]).2=0 then _ else ((plotE sec (l.take k) l[k]).1,((l.take k).length:Int),(plotE sec (l.take k) l[k]).2))=_
 rw[List.length_take,Nat.min_eq_left (by omega)]
theorem CheckSection_any (s:Sct) (w:World) (hS:SctR w s) :
  Calls Tryz.prog 33 #[.agg #[.string s.name,.slice s.V s.ps.length s.d,.slice s.S s.l.length s.e]] w fun e w'=>e=.returned (.tuple #[.agg #[.int .i64 (sectE s.name s.ps s.l).1,.int .i64 (sectE s.name s.ps s.l).2.1],.int .i64 (sectE s.name s.ps s.l).2.2])∧Below w.heap.size w w':=by
 obtain⟨R,hRR⟩:∃ R,sectE s.name s.ps s.l=R:=⟨_,rfl⟩
 rw[hRR]
 have hsz:=hS.plots.size
 have hnm:=Lib.hid hS.nm
 replace hS:=Lib.hid hS
 obtain⟨x1,h1⟩:∃ x,nameB s.name=x:=⟨_,rfl⟩
 obtain⟨x2,h2⟩:∃ x,Cal.polyE s.ps=x:=⟨_,rfl⟩
 have hR:Hid (R=if x1=true then (if x2=0 then (if 60<s.l.length then (0,0,8) else sectL s.ps [] s.l) else (0,0,x2)) else (0,0,4)):=by
  show _=_
  rw[←hRR]
  unfold sectE
  rw[h1,h2]
 clear hRR
 have hI:Hid (CsI w s ((w.alloc (.cells #[.string s.name,.slice s.V s.ps.length s.d,.slice s.S s.l.length s.e] 47)).alloc (.cells #[.int .i64 0,.int .i64 0] 75))):=by
  have b2:=BoxAt.new (w.alloc (.cells #[.string s.name,.slice s.V s.ps.length s.d,.slice s.S s.l.length s.e] 47)) #[.int .i64 0,.int .i64 0] 75
  rw[World.size_alloc] at b2
  exact⟨(BoxAt.new w #[.string s.name,.slice s.V s.ps.length s.d,.slice s.S s.l.length s.e] 47).alloc _,b2,below_step (below_alloc _ _) (below_alloc _ _)⟩
 replace h1:=Lib.hid h1
 (obtain⟨a0,a1,a2⟩:=hI.out.a.c3;obtain⟨r0,r1⟩:=hI.out.r.c2;obtain⟨f0,f1⟩:=hI.out.r.fr2)
 cases x1
 ·replace h2:=Lib.hid h2
  go_enter Tryz.func33,Tryz.ntmps33
  go_wp2_with (first
   |(go_at_call 21;clear a0 a1 a2 r0 r1 f0 f1;refine (gisName_any s.name _ hnm.out).mono ?_;rintro e0 wn ⟨rfl,hbn⟩;rw[h1.out];(replace hI:=Lib.hid (hI.out.below hbn);clear hbn;(obtain⟨a0,a1,a2⟩:=hI.out.a.c3;obtain⟨r0,r1⟩:=hI.out.r.c2;obtain⟨f0,f1⟩:=hI.out.r.fr2)))
   |(go_at_call 50;clear a0 a1 a2 r0 r1 f0 f1;refine (CheckPolygon_any s.V s.d s.ps _ (hS.out.pts.below hI.out.bel)).mono ?_;rintro e0 wn ⟨rfl,hbn⟩;rw[h2.out];(replace hI:=Lib.hid (hI.out.below hbn);clear hbn;(obtain⟨a0,a1,a2⟩:=hI.out.a.c3;obtain⟨r0,r1⟩:=hI.out.r.c2;obtain⟨f0,f1⟩:=hI.out.r.fr2))))
  refine bodyPost_ret (results_mid2 rfl _ _ (w.heap.size+1) [.int .i64 (0),.int .i64 (0)] _ rfl ((hI.out.r.set 0 (.int .i64 (0)) (by simp)).set 1 (.int .i64 (0)) (by simp)).range Tryz.underlying75 rfl arr2Size) rfl ⟨by rw[hR.out];rfl,?_⟩
  exact (hI.out.bel.setCell (p:=⟨w.heap.size+1,0,none⟩) (Nat.le_succ _) _).setCell (p:=⟨w.heap.size+1,1,none⟩) (Nat.le_succ _) _
 by_cases z2:x2=0
 ·subst z2
  by_cases h60:60<s.l.length
  ·replace hR:Hid (R=(0,0,8)):=by show _=_;rw[hR.out,if_pos rfl,if_pos rfl,if_pos h60]
   have h61:60<(s.l.length:Int):=by omega
   replace h2:=Lib.hid h2
   go_enter Tryz.func33,Tryz.ntmps33
   go_wp2_with (first
    |(go_at_call 21;clear a0 a1 a2 r0 r1 f0 f1;refine (gisName_any s.name _ hnm.out).mono ?_;rintro e0 wn ⟨rfl,hbn⟩;rw[h1.out];(replace hI:=Lib.hid (hI.out.below hbn);clear hbn;(obtain⟨a0,a1,a2⟩:=hI.out.a.c3;obtain⟨r0,r1⟩:=hI.out.r.c2;obtain⟨f0,f1⟩:=hI.out.r.fr2)))
    |(go_at_call 50;clear a0 a1 a2 r0 r1 f0 f1;refine (CheckPolygon_any s.V s.d s.ps _ (hS.out.pts.below hI.out.bel)).mono ?_;rintro e0 wn ⟨rfl,hbn⟩;rw[h2.out];(replace hI:=Lib.hid (hI.out.below hbn);clear hbn;(obtain⟨a0,a1,a2⟩:=hI.out.a.c3;obtain⟨r0,r1⟩:=hI.out.r.c2;obtain⟨f0,f1⟩:=hI.out.r.fr2))))
   refine bodyPost_ret (results_mid2 rfl _ _ (w.heap.size+1) [.int .i64 (0),.int .i64 (0)] _ rfl ((hI.out.r.set 0 (.int .i64 (0)) (by simp)).set 1 (.int .i64 (0)) (by simp)).range Tryz.underlying75 rfl arr2Size) rfl ⟨by rw[hR.out];rfl,?_⟩
   exact (hI.out.bel.setCell (p:=⟨w.heap.size+1,0,none⟩) (Nat.le_succ _) _).setCell (p:=⟨w.heap.size+1,1,none⟩) (Nat.le_succ _) _
  replace hR:Hid (R=sectL s.ps [] s.l):=by show _=_;rw[hR.out,if_pos rfl,if_pos rfl,if_neg h60]
  have h61:¬60<(s.l.length:Int):=by omega
  have hC:Hid (Plg w s.V s.ps):=hS.out.pts.plg h2 (few_ok hS.out.few h2)
  replace h2:=Lib.hid h2
  have hR0:Hid (R=sectL s.ps (s.l.take 0) (s.l.drop 0)):=hR
  have hok0:Hid (∀ q∈s.l.take 0,Cal.polyE q.ps=0):=fun q hq=>by cases hq
  clear hR
  go_enter Tryz.func33,Tryz.ntmps33
  go_wp2_with (first
   |(go_at_call 21;clear a0 a1 a2 r0 r1 f0 f1;refine (gisName_any s.name _ hnm.out).mono ?_;rintro e0 wn ⟨rfl,hbn⟩;rw[h1.out];(replace hI:=Lib.hid (hI.out.below hbn);clear hbn;(obtain⟨a0,a1,a2⟩:=hI.out.a.c3;obtain⟨r0,r1⟩:=hI.out.r.c2;obtain⟨f0,f1⟩:=hI.out.r.fr2)))
   |(go_at_call 50;clear a0 a1 a2 r0 r1 f0 f1;refine (CheckPolygon_any s.V s.d s.ps _ (hS.out.pts.below hI.out.bel)).mono ?_;rintro e0 wn ⟨rfl,hbn⟩;rw[h2.out];(replace hI:=Lib.hid (hI.out.below hbn);clear hbn;(obtain⟨a0,a1,a2⟩:=hI.out.a.c3;obtain⟨r0,r1⟩:=hI.out.r.c2;obtain⟨f0,f1⟩:=hI.out.r.fr2))))
  clear a0 a1 a2 r0 r1 f0 f1
  go_loopw [28] (fun i wr=>∃ k:Nat,k≤s.l.length∧i=.int .i64 k∧Hid (R=sectL s.ps (s.l.take k) (s.l.drop k))∧Hid (∀ q∈s.l.take k,Cal.polyE q.ps=0)∧Hid (CsI w s wr)) (fun i _=>s.l.length-(intOf i).toNat)
  case atStart=>exact⟨0,Nat.zero_le _,rfl,hR0,hok0,hI⟩
  case round =>
   clear hR0 hok0 hI
   obtain⟨k,hk,rfl,hR,hok,hI⟩:=hrel
   by_cases hlt:k<s.l.length
   ·have hd:=sectL_drop (sec:=s.ps) hlt
    obtain⟨E,hE⟩:∃ E,plotE s.ps (s.l.take k) s.l[k]=E:=⟨_,rfl⟩
    rw[hE] at hd
    have hcall:Hid (∀ W,CsI w s W→Calls Tryz.prog 51 #[.agg #[.string s.name,.slice s.V s.ps.length s.d,.slice s.S s.l.length s.e],.int .i64 (k:Int)] W fun e w'=>e=.returned (.tuple #[.int .i64 E.1,.int .i64 E.2])∧Below W.heap.size W w'):=fun W hW=>by
     have:=checkPlot_any s k W hlt (hS.out.plots.below hW.bel) hS.out.cap (hC.out.below hW.bel) hS.out.fews hok.out
     rw[hE] at this
     exact this
    (obtain⟨a0,a1,a2⟩:=hI.out.a.c3;obtain⟨r0,r1⟩:=hI.out.r.c2;obtain⟨f0,f1⟩:=hI.out.r.fr2)
    by_cases z:E.2=0
    ·have hok2:Hid (∀ q∈s.l.take (k+1),Cal.polyE q.ps=0):=fun q hq=>by
      rw[List.take_succ_eq_append_getElem hlt] at hq
      rcases List.mem_append.1 hq with h | h
      ·exact hok.out q h
      rw[List.mem_singleton.1 h]
      exact (plotE_zero (hE ▸ z)).2.2.1
     rw[if_pos z] at hd
     have hR2:Hid (R=sectL s.ps (s.l.take (k+1)) (s.l.drop (k+1))):=hR.out.trans hd
     obtain⟨E1,E2⟩:=E
     dsimp only at z hcall
     subst z
     clear hE hd hok hR
     go_wp2_with (go_at_call 51;clear a0 a1 a2 r0 r1 f0 f1;refine (hcall.out _ hI.out).mono ?_;rintro e0 wn ⟨rfl,hbn⟩;(replace hI:=Lib.hid (hI.out.below hbn);clear hbn;(obtain⟨a0,a1,a2⟩:=hI.out.a.c3;obtain⟨r0,r1⟩:=hI.out.r.c2;obtain⟨f0,f1⟩:=hI.out.r.fr2)))
     clear a0 a1 a2 r0 r1 f0 f1
     go_roundw
     case rel=>exact⟨k+1,by omega,by go_num,hR2,hok2,hI⟩
     case measure=>simp[intOf];omega
    rw[if_neg z] at hd
    replace hR:Hid (R=(E.1,(k:Int),E.2)):=hR.out.trans hd
    obtain⟨E1,E2⟩:=E
    dsimp only at z hcall hR
    clear hE hd hok
    go_wp2_with (go_at_call 51;clear a0 a1 a2 r0 r1 f0 f1;refine (hcall.out _ hI.out).mono ?_;rintro e0 wn ⟨rfl,hbn⟩;(replace hI:=Lib.hid (hI.out.below hbn);clear hbn;(obtain⟨a0,a1,a2⟩:=hI.out.a.c3;obtain⟨r0,r1⟩:=hI.out.r.c2;obtain⟨f0,f1⟩:=hI.out.r.fr2)))
    refine bodyPost_ret (results_mid2 rfl _ _ (w.heap.size+1) [.int .i64 (E1),.int .i64 ((k:Int))] _ rfl ((hI.out.r.set 0 (.int .i64 (E1)) (by simp)).set 1 (.int .i64 ((k:Int))) (by simp)).range Tryz.underlying75 rfl arr2Size) rfl ⟨by rw[hR.out];rfl,?_⟩
    exact (hI.out.bel.setCell (p:=⟨w.heap.size+1,0,none⟩) (Nat.le_succ _) _).setCell (p:=⟨w.heap.size+1,1,none⟩) (Nat.le_succ _) _
   obtain rfl:k=s.l.length:=by omega
   replace hR:Hid (R=(0,0,0)):=by show _=_;rw[hR.out,List.drop_length];rfl
   clear hok
   (obtain⟨a0,a1,a2⟩:=hI.out.a.c3;obtain⟨r0,r1⟩:=hI.out.r.c2;obtain⟨f0,f1⟩:=hI.out.r.fr2)
   go_wp2_with fail
   refine bodyPost_ret (results_mid2 rfl _ _ (w.heap.size+1) [.int .i64 (0),.int .i64 (0)] _ rfl ((hI.out.r.set 0 (.int .i64 (0)) (by simp)).set 1 (.int .i64 (0)) (by simp)).range Tryz.underlying75 rfl arr2Size) rfl ⟨by rw[hR.out];rfl,?_⟩
   exact (hI.out.bel.setCell (p:=⟨w.heap.size+1,0,none⟩) (Nat.le_succ _) _).setCell (p:=⟨w.heap.size+1,1,none⟩) (Nat.le_succ _) _
 replace hR:Hid (R=(0,0,x2)):=by show _=_;rw[hR.out,if_pos rfl,if_neg z2]
 replace h2:=Lib.hid h2
 go_enter Tryz.func33,Tryz.ntmps33
 go_wp2_with (first
  |(go_at_call 21;clear a0 a1 a2 r0 r1 f0 f1;refine (gisName_any s.name _ hnm.out).mono ?_;rintro e0 wn ⟨rfl,hbn⟩;rw[h1.out];(replace hI:=Lib.hid (hI.out.below hbn);clear hbn;(obtain⟨a0,a1,a2⟩:=hI.out.a.c3;obtain⟨r0,r1⟩:=hI.out.r.c2;obtain⟨f0,f1⟩:=hI.out.r.fr2)))
  |(go_at_call 50;clear a0 a1 a2 r0 r1 f0 f1;refine (CheckPolygon_any s.V s.d s.ps _ (hS.out.pts.below hI.out.bel)).mono ?_;rintro e0 wn ⟨rfl,hbn⟩;rw[h2.out];(replace hI:=Lib.hid (hI.out.below hbn);clear hbn;(obtain⟨a0,a1,a2⟩:=hI.out.a.c3;obtain⟨r0,r1⟩:=hI.out.r.c2;obtain⟨f0,f1⟩:=hI.out.r.fr2))))
 refine bodyPost_ret (results_mid2 rfl _ _ (w.heap.size+1) [.int .i64 (0),.int .i64 (0)] _ rfl ((hI.out.r.set 0 (.int .i64 (0)) (by simp)).set 1 (.int .i64 (0)) (by simp)).range Tryz.underlying75 rfl arr2Size) rfl ⟨by rw[hR.out];rfl,?_⟩
 exact (hI.out.bel.setCell (p:=⟨w.heap.size+1,0,none⟩) (Nat.le_succ _) _).setCell (p:=⟨w.heap.size+1,1,none⟩) (Nat.le_succ _) _
end Go.Proofs.YtoojdkaimhlcbaaGreat
namespace Go.Proofs.YtoojdkaimhlcbaaGreat
open Go Go.RowKit Go.Shelf
theorem sectL_zero {sec:List Pt}:∀ {l bf:List Plo},(sectL sec bf l).2.2=0→∀ k (h:k<l.length),(plotE sec (bf ++ l.take k) l[k]).2=0
 | [],_,_,k,h=>by simp at h
 | p :: r,bf,hz,k,h=>by
  unfold sectL at hz
  split at hz
  ·rename_i h0
   cases k with
   | zero=>simpa using h0
   | succ k =>
    have:=sectL_zero (l:=r) (bf:=bf ++ [p]) hz k (by simpa using h)
    simpa using this
  rename_i h0;exact absurd hz h0
theorem sectE_zero {name:ByteArray} {ps:List Pt} {l:List Plo} (h:(sectE name ps l).2.2=0):nameB name=true∧Cal.polyE ps=0∧l.length≤60∧∀ k (h:k<l.length),(plotE ps (l.take k) l[k]).2=0:=by
 unfold sectE at h
 split at h
 ·rename_i h1
  split at h
  ·rename_i h2
   split at h
   ·cases h
   refine⟨h1,h2,by omega,fun k hk=>?_⟩
   have:=sectL_zero h k hk
   simpa using this
  rename_i h2;exact absurd h h2
 cases h
def sumA:List Plo→Int
 | []=>0
 | p :: r=>Cal.areaP p.ps+sumA r
theorem sumA_take {l:List Plo} {k:Nat} (h:k<l.length):sumA (l.take (k+1))=sumA (l.take k)+Cal.areaP l[k].ps:=by
 rw[List.take_succ_eq_append_getElem h]
 have app:∀ a b:List Plo,sumA (a ++ b)=sumA a+sumA b:=fun a b=>by
  induction a with
  | nil=>simp[sumA]
  | cons x r ih=>rw[List.cons_append,sumA,sumA,ih];omega
 rw[app]
 simp[sumA]
theorem sumA_box:∀ {l:List Plo},(∀ p∈l,-20000000000000≤Cal.areaP p.ps∧Cal.areaP p.ps≤20000000000000)→-(20000000000000*(l.length:Int))≤sumA l∧sumA l≤20000000000000*(l.length:Int)
 | [],_=>by simp[sumA]
 | p :: r,h=>by
  have ih:=sumA_box (l:=r) (fun q hq=>h q (List.mem_cons_of_mem _ hq))
  have hp:=h p (List.mem_cons_self ..)
  rw[sumA,List.length_cons]
  omega
theorem area_box {w:World} {V:Option Addr} {ps:List Pt} (h:Pts w V ps) (hl:ps.length≤10):-20000000000000≤Cal.areaP ps∧Cal.areaP ps≤20000000000000:=by
 have:=areaTo_box h ps.length (Nat.le_refl _)
 unfold Cal.areaP
 omega
def gapS (s:Sct):Int:=if (sectE s.name s.ps s.l).2.2=0 then Cal.areaP s.ps-sumA s.l else 0
structure GpI (w:World) (s:Sct) (W:World):Prop where
 a:BoxAt W w.heap.size [.string s.name,.slice s.V s.ps.length s.d,.slice s.S s.l.length s.e]
 bel:Below w.heap.size w W
theorem GpI.below {w:World} {s:Sct} {X Y:World} (h:GpI w s X) (hb:Below X.heap.size X Y):GpI w s Y:=⟨h.a.below hb,below_step h.bel hb⟩
theorem Gap_any (s:Sct) (w:World) (hS:SctR w s) :
  Calls Tryz.prog 13 #[.agg #[.string s.name,.slice s.V s.ps.length s.d,.slice s.S s.l.length s.e]] w fun e w'=>e=.returned (.tuple #[.int .i64 (gapS s),.int .i64 (sectE s.name s.ps s.l).2.2])∧Below w.heap.size w w':=by
 have hI:Hid (GpI w s (w.alloc (.cells #[.string s.name,.slice s.V s.ps.length s.d,.slice s.S s.l.length s.e] 47))):=⟨BoxAt.new w #[.string s.name,.slice s.V s.ps.length s.d,.slice s.S s.l.length s.e] 47,below_alloc _ _⟩
 have hcs:=Lib.hid (fun W (hW:GpI w s W)=>CheckSection_any s W (hS.below hW.bel))
 have hsz:=hS.plots.size
 by_cases h0:(sectE s.name s.ps s.l).2.2=0
 ·have hz:=sectE_zero h0
  have hg:gapS s=Cal.areaP s.ps-sumA s.l:=by unfold gapS;rw[if_pos h0]
  have hC:=hS.pts.plg hz.2.1 (few_ok hS.few hz.2.1)
  have hCb:=area_box hC.v.pts hC.len
  have hPl:Hid (∀ p∈s.l,Plg w p.V p.ps∧-20000000000000≤Cal.areaP p.ps∧Cal.areaP p.ps≤20000000000000):=fun p hp=>by
   obtain⟨k,hk,rfl⟩:=List.getElem_of_mem hp
   have h3:=(plotE_zero (hz.2.2.2 k hk)).2.2.1
   have hq:=(hS.plots.pts _ hp).plg h3 (few_ok (hS.fews _ hp) h3)
   exact⟨hq,area_box hq.v.pts hq.len⟩
  have hl60:=hz.2.2.1
  obtain⟨R,hR⟩:∃ R,sectE s.name s.ps s.l=R:=⟨_,rfl⟩
  rw[hR] at h0 hcs
  rw[hg,hR]
  obtain⟨R1,R2,R3⟩:=R
  dsimp only at h0 hcs ⊢
  subst h0
  obtain⟨A,hA⟩:∃ A,Cal.areaP s.ps=A:=⟨_,rfl⟩
  rw[hA] at hCb ⊢
  replace hA:=Lib.hid hA
  replace hC:=Lib.hid hC
  have hrows:=Lib.hid hS.plots.rows
  clear hz hg hR hS
  obtain⟨nm,V,d,ps,S,e,l⟩:=s
  dsimp only at *
  have hS0:Hid ((0:Int)=sumA (l.take 0)):=rfl
  (obtain⟨a0,a1,a2⟩:=hI.out.a.c3)
  go_enter Tryz.func13,Tryz.ntmps13
  go_wp2_with (first
   |(go_at_call 33;clear a0 a1 a2;refine (hcs.out _ hI.out).mono ?_;rintro e0 wn ⟨rfl,hbn⟩;replace hI:=Lib.hid (hI.out.below hbn);clear hbn;have lt0:=hI.out.a.lt;(obtain⟨a0,a1,a2⟩:=hI.out.a.c3))
   |(go_at_call 34;clear a0 a1 a2;refine (area_any V d ps _ (hC.out.below (below_step hI.out.bel (below_alloc _ _))).v.pts).mono ?_;rintro e0 wm ⟨rfl,hbn⟩;rw[hA.out];replace hI:=Lib.hid ((hI.out.below (below_alloc _ _)).below hbn);clear hbn lt0;(obtain⟨a0,a1,a2⟩:=hI.out.a.c3)))
  clear a0 a1 a2
  go_loopw [6,23] (fun v i wr=>∃ (k:Nat) (z:Int),k≤l.length∧i=.int .i64 k∧v=.int .i64 (A-z)∧Hid (z=sumA (l.take k))∧Hid (GpI w _ wr)) (fun _ i _=>l.length-(intOf i).toNat)
  case atStart=>exact⟨0,0,Nat.zero_le _,rfl,by go_num,hS0,hI⟩
  case round =>
   clear hS0 hI
   obtain⟨k,z,hk,rfl,rfl,hz,hI⟩:=hrel
   by_cases hlt:k<l.length
   ·have hk':l[k]?=some l[k]:=List.getElem?_eq_getElem hlt
    have hst:=sumA_take hlt
    have hp:=hPl.out _ (List.getElem_mem hlt)
    have hb1:∀ m,-(20000000000000*60)≤sumA (l.take m)∧sumA (l.take m)≤20000000000000*60:=fun m=>by
     have:=sumA_box (l:=l.take m) (fun p hp=>(hPl.out p (List.mem_of_mem_take hp)).2)
     rw[List.length_take] at this
     omega
    have hz1:=hb1 k
    rw[←hz.out] at hz1 hst
    clear hb1
    generalize l[k]=p at *
    obtain⟨b,o,rfl,hbl,c0,c1⟩:=plo_at (hrows.out.below hI.out.bel) hk'
    obtain⟨g,hg⟩:∃ g,Cal.areaP p.ps=g:=⟨_,rfl⟩
    have hPp:=Lib.hid hp.1
    have hgb:=hp.2
    rw[hg] at hgb hst
    replace hg:=Lib.hid hg
    have hz2:Hid (z+g=sumA (l.take (k+1))):=hst.symm
    clear hst hp hk' hz
    have lt0:=hI.out.a.lt
    go_wp2_with (go_at_call 34;refine (area_any p.V p.d p.ps _ (hPp.out.below (below_step hI.out.bel (below_alloc _ _))).v.pts).mono ?_;rintro e0 wm ⟨rfl,hbn⟩;rw[hg.out];replace hI:=Lib.hid ((hI.out.below (below_alloc _ _)).below hbn);clear hbn lt0)
    go_roundw
    case rel=>exact⟨k+1,z+g,by omega,by go_num,by go_num,hz2,hI⟩
    case measure=>simp[intOf];omega
   obtain rfl:k=l.length:=by omega
   replace hz:Hid (z=sumA l):=by show _=_;rw[hz.out,List.take_length]
   go_wp2_with fail
   go_ret2
   exact⟨by rw[←hz.out];rfl,hI.out.bel⟩
 have hg:gapS s=0:=by unfold gapS;rw[if_neg h0]
 rw[hg]
 obtain⟨R,hR⟩:∃ R,sectE s.name s.ps s.l=R:=⟨_,rfl⟩
 rw[hR] at h0 hcs
 rw[hR]
 obtain⟨R1,R2,R3⟩:=R
 dsimp only at h0 hcs ⊢
 clear hR hg hS
 (obtain⟨a0,a1,a2⟩:=hI.out.a.c3)
 go_enter Tryz.func13,Tryz.ntmps13
 go_wp2_with (go_at_call 33;clear a0 a1 a2;refine (hcs.out _ hI.out).mono ?_;rintro e0 wn ⟨rfl,hbn⟩;replace hI:=Lib.hid (hI.out.below hbn);clear hbn)
 go_ret2
 exact⟨rfl,hI.out.bel.trans (below_alloc _ _ |>.mono (by have:=hI.out.bel.size;omega))⟩
end Go.Proofs.YtoojdkaimhlcbaaGreat
namespace Go.Proofs.YtoojdkaimhlcbaaGreat
open Go Go.RowKit Go.Shelf
def fieldS (A1 A2 A3 S:Option Addr):Sct:=⟨⟨#[115]⟩,A1,4,Cal.boxP 0 0 100 100,S,2,[⟨⟨#[97]⟩,A2,4,Cal.boxP 0 0 50 100⟩,⟨⟨#[98]⟩,A3,4,Cal.boxP 50 0 100 50⟩]⟩
theorem field_zero (A1 A2 A3 S:Option Addr):(sectE (fieldS A1 A2 A3 S).name (fieldS A1 A2 A3 S).ps (fieldS A1 A2 A3 S).l).2.2=0:=by kernel_rfl
theorem field_gap (A1 A2 A3 S:Option Addr):gapS (fieldS A1 A2 A3 S)=5000:=by kernel_rfl
theorem secSize1:(Tryz.prog.info? 47).map (·.size)=some 3:=by kernel_rfl
theorem Field_any (w:World):Calls Tryz.prog 14 #[] w fun e w'=>∃ A1 A2 A3 S,e=.returned (.agg #[.string ⟨#[115]⟩,.slice A1 4 4,.slice S 2 2])∧SctR w' (fieldS A1 A2 A3 S)∧Below w.heap.size w w':=by
 have h1:=Lib.hid (BoxAt.new w #[.string ⟨#[]⟩,.slice none 0 0,.slice none 0 0] 47)
 have hb0:=Lib.hid (below_alloc w (.cells #[.string ⟨#[]⟩,.slice none 0 0,.slice none 0 0] 47))
 go_enter Tryz.func14,Tryz.ntmps14
 go_wp2_with fail
 refine (lawBox_any _ _ _ _ _).mono ?_
 rintro e w1 ⟨A1,rfl,hA1,hp1,hb1⟩
 have hx1:=Lib.hid (h1.out.below hb1)
 have hp1:=Lib.hid hp1
 have hs1:Hid (w.heap.size<A1):=by
  show w.heap.size<A1
  have:=hb0.out.size
  simp only[World.size_alloc] at hA1 this;omega
 have hb1:=Lib.hid (below_step hb0.out hb1)
 go_wp2_with fail
 refine (lawBox_any _ _ _ _ _).mono ?_
 rintro e w2 ⟨A2,rfl,hA2,hp2,hb2⟩
 have hx2:=Lib.hid (hx1.out.below hb2)
 have hp1:=Lib.hid (hp1.out.below hb2)
 have hp2:=Lib.hid hp2
 have hs2:Hid (w.heap.size<A2):=by
  show w.heap.size<A2
  have:=hx1.out.lt
  omega
 have hb2:=Lib.hid (below_step hb1.out hb2)
 go_wp2_with fail
 refine (lawBox_any _ _ _ _ _).mono ?_
 rintro e w3 ⟨A3,rfl,hA3,hp3,hb3⟩
 have hx3:=Lib.hid (hx2.out.below hb3)
 have hp1:=Lib.hid (hp1.out.below hb3)
 have hp2:=Lib.hid (hp2.out.below hb3)
 have hp3:=Lib.hid hp3
 have hs3:Hid (w.heap.size<A3):=by
  show w.heap.size<A3
  have:=hx2.out.lt
  omega
 have hb3:=Lib.hid (below_step hb2.out hb3)
 clear h1 hx1 hx2 hb1 hb2 hb0
 have hrow:=Lib.hid (fun t=>rows_new (m:=2) w3 [[.string ⟨#[97]⟩,.slice (some ⟨A2,0,none⟩) 4 4],[.string ⟨#[98]⟩,.slice (some ⟨A3,0,none⟩) 4 4]] (fun r hr=>by simp at hr;rcases hr with rfl | rfl <;> rfl) #[.string ⟨#[97]⟩,.slice (some ⟨A2,0,none⟩) 4 4,.string ⟨#[98]⟩,.slice (some ⟨A3,0,none⟩) 4 4] rfl t)
 have hx4:=Lib.hid (fun t=>hx3.out.below (below_alloc w3 (.cells #[.string ⟨#[97]⟩,.slice (some ⟨A2,0,none⟩) 4 4,.string ⟨#[98]⟩,.slice (some ⟨A3,0,none⟩) 4 4] t)))
 have hbl:=Lib.hid (fun t=>below_alloc w3 (.cells #[.string ⟨#[97]⟩,.slice (some ⟨A2,0,none⟩) 4 4,.string ⟨#[98]⟩,.slice (some ⟨A3,0,none⟩) 4 4] t))
 go_wp2_with (refine wpList_store_box rfl 47 (.tmp 0) (.tmp 7) rfl (w.heap.size) _ [.string ⟨#[115]⟩,.slice (some ⟨A1,0,none⟩) 4 4,.slice (some ⟨w3.heap.size,0,none⟩) 2 2] (by rfl) (by rfl) (hx4.out _) rfl secSize1 (by kernel_rfl) ?_;intro w5 h5 hg5)
 (try simp only[Exit.inBlock,Exit.then])
 have hal:=below_alloc w3 (.cells #[.string ⟨#[97]⟩,.slice (some ⟨A2,0,none⟩) 4 4,.string ⟨#[98]⟩,.slice (some ⟨A3,0,none⟩) 4 4] 80)
 have hb45:=below_of_grownB (below_step hb3.out hal) hg5 (Nat.le_refl _)
 have z1:=hs1.out
 have z2:=hs2.out
 have z3:=hs3.out
 have hps:∀ b ps,PtsR w3 (some ⟨b,0,none⟩) ps→b≠w.heap.size→PtsR w5 (some ⟨b,0,none⟩) ps:=fun b ps h hne=>(h.below hal).far hg5 hne
 have k1:=hps A1 _ hp1.out (by omega)
 have k2:=hps A2 _ hp2.out (by omega)
 have k3:=hps A3 _ hp3.out (by omega)
 have k4:=(hrow.out 80).farI hg5 (fun a e=>by cases e;exact fun h=>by have:=Option.some.inj h;dsimp only at this;have:=hx3.out.lt;omega)
 refine bodyPost_ret (results_mid1 rfl _ _ (w.heap.size) [.string ⟨#[115]⟩,.slice (some ⟨A1,0,none⟩) 4 4,.slice (some ⟨w3.heap.size,0,none⟩) 2 2] _ rfl h5.range Tryz.underlying47 rfl secSize1) rfl ⟨_,some ⟨A2,0,none⟩,some ⟨A3,0,none⟩,_,rfl,⟨show (1:Nat)≤maxLen by decide,k1,.inl (show (4:Nat)≤10 by decide),⟨k4,show (2:Nat)≤1000000 by decide,?_,?_⟩,Nat.le_refl _,?_⟩,hb45⟩
 ·intro p hp
  rcases List.mem_cons.1 hp with rfl | hp
  ·exact k2
  rw[List.mem_singleton.1 hp];exact k3
 ·intro p hp
  rcases List.mem_cons.1 hp with rfl | hp
  ·exact show (1:Nat)≤maxLen by decide
  rw[List.mem_singleton.1 hp];exact show (1:Nat)≤maxLen by decide
 intro p hp
 rcases List.mem_cons.1 hp with rfl | hp
 ·exact .inl (show (4:Nat)≤10 by decide)
 rw[List.mem_singleton.1 hp];exact .inl (show (4:Nat)≤10 by decide)
end Go.Proofs.YtoojdkaimhlcbaaGreat
namespace Go.Proofs.YtoojdkaimhlcbaaGreat
open Go Go.RowKit Go.Shelf
attribute [local go_sem] Oper.semAt_some
def comT (s t:Sd):Sd × Bool :=
 if Cal.trn s t.a=0∧Cal.trn s t.b=0 then
  (let t':Sd:=if 0<Cal.alongS s t.a t.b then ⟨t.b,t.a⟩ else t
   let f:=if 0<Cal.alongS s t'.a s.a then t'.a else s.a
   let e:=if Cal.alongS s t'.b s.b<0 then t'.b else s.b
   (⟨f,e⟩,decide (Cal.alongS s f e<0)))
 else (⟨Cal.pt0,Cal.pt0⟩,false)
theorem comT_eq (s t:Sd):Cal.commonS s t=if (comT s t).2=true then some (comT s t).1 else none:=by
 unfold Cal.commonS comT
 split <;> simp
structure CmI (w:World) (s t:Sd) (X:World):Prop where
 s:BoxAt X w.heap.size [.int .i64 s.a.x,.int .i64 s.a.y,.int .i64 s.b.x,.int .i64 s.b.y]
 t:BoxAt X (w.heap.size+1) [.int .i64 t.a.x,.int .i64 t.a.y,.int .i64 t.b.x,.int .i64 t.b.y]
 z:BoxAt X (w.heap.size+1+1) [.int .i64 0,.int .i64 0,.int .i64 0,.int .i64 0]
 bel:Below w.heap.size w X
theorem CmI.below {w:World} {s t:Sd} {X Y:World} (h:CmI w s t X) (hb:Below X.heap.size X Y):CmI w s t Y :=
 ⟨h.s.below hb,h.t.below hb,h.z.below hb,h.bel.trans (hb.mono h.bel.size)⟩
theorem CmI.first (w:World) (s t:Sd):CmI w s t (((w.alloc (.cells #[.int .i64 s.a.x,.int .i64 s.a.y,.int .i64 s.b.x,.int .i64 s.b.y] 105)).alloc (.cells #[.int .i64 t.a.x,.int .i64 t.a.y,.int .i64 t.b.x,.int .i64 t.b.y] 105)).alloc (.cells #[.int .i64 0,.int .i64 0,.int .i64 0,.int .i64 0] 63)):=by
 have h2:=(BoxAt.new (w.alloc (.cells #[.int .i64 s.a.x,.int .i64 s.a.y,.int .i64 s.b.x,.int .i64 s.b.y] 105)) #[.int .i64 t.a.x,.int .i64 t.a.y,.int .i64 t.b.x,.int .i64 t.b.y] 105).alloc (.cells #[.int .i64 0,.int .i64 0,.int .i64 0,.int .i64 0] 63)
 have h3:=BoxAt.new ((w.alloc (.cells #[.int .i64 s.a.x,.int .i64 s.a.y,.int .i64 s.b.x,.int .i64 s.b.y] 105)).alloc (.cells #[.int .i64 t.a.x,.int .i64 t.a.y,.int .i64 t.b.x,.int .i64 t.b.y] 105)) #[.int .i64 0,.int .i64 0,.int .i64 0,.int .i64 0] 63
 simp only[World.size_alloc] at h2 h3
 exact⟨((BoxAt.new w #[.int .i64 s.a.x,.int .i64 s.a.y,.int .i64 s.b.x,.int .i64 s.b.y] 105).alloc _).alloc _,h2,h3,below_step (below_step (below_alloc _ _) (below_alloc _ _)) (below_alloc _ _)⟩
theorem CmI.swap {w:World} {s t:Sd} {X:World} (h:CmI w s t X):CmI w s ⟨t.b,t.a⟩ ((((X.setCell ⟨w.heap.size+1,0,none⟩ (.int .i64 t.b.x)).setCell ⟨w.heap.size+1,1,none⟩ (.int .i64 t.b.y)).setCell ⟨w.heap.size+1,2,none⟩ (.int .i64 t.a.x)).setCell ⟨w.heap.size+1,3,none⟩ (.int .i64 t.a.y)):=by
 obtain⟨h1,h2,h3,h4⟩:=h
 refine⟨(((h1.off 0 _ (by omega)).off 1 _ (by omega)).off 2 _ (by omega)).off 3 _ (by omega),(((h2.set 0 _ (by simp)).set 1 _ (by simp)).set 2 _ (by simp)).set 3 _ (by simp),(((h3.off 0 _ (by omega)).off 1 _ (by omega)).off 2 _ (by omega)).off 3 _ (by omega),?_⟩
 exact (((h4.setCell (p:=⟨w.heap.size+1,0,none⟩) (Nat.le_succ _) _).setCell (p:=⟨w.heap.size+1,1,none⟩) (Nat.le_succ _) _).setCell (p:=⟨w.heap.size+1,2,none⟩) (Nat.le_succ _) _).setCell (p:=⟨w.heap.size+1,3,none⟩) (Nat.le_succ _) _
structure CmJ (w:World) (s t:Sd) (Bf Be:Nat) (f e:Pt) (X:World):Prop where
 base:CmI w s t X
 f:BoxAt X Bf [.int .i64 f.x,.int .i64 f.y]
 e:BoxAt X Be [.int .i64 e.x,.int .i64 e.y]
 ne:Bf≠Be
 hf:w.heap.size+1+1<Bf
 he:w.heap.size+1+1<Be
theorem CmJ.below {w:World} {s t:Sd} {Bf Be:Nat} {f e:Pt} {X Y:World} (h:CmJ w s t Bf Be f e X) (hb:Below X.heap.size X Y):CmJ w s t Bf Be f e Y :=
 ⟨h.base.below hb,h.f.below hb,h.e.below hb,h.ne,h.hf,h.he⟩
theorem CmJ.new {w:World} {s t:Sd} {X:World} (h:CmI w s t X) (f e:Pt):CmJ w s t X.heap.size (X.heap.size+1) f e ((X.alloc (.cells #[.int .i64 f.x,.int .i64 f.y] 61)).alloc (.cells #[.int .i64 e.x,.int .i64 e.y] 61)).drew:=by
 have hz:=h.z.lt
 have hb:Below X.heap.size X ((X.alloc (.cells #[.int .i64 f.x,.int .i64 f.y] 61)).alloc (.cells #[.int .i64 e.x,.int .i64 e.y] 61)).drew:=((Below.refl _ _).alloc (Nat.le_refl _) _ |>.alloc (by simp) _).drew
 have he:=BoxAt.new (X.alloc (.cells #[.int .i64 f.x,.int .i64 f.y] 61)) #[.int .i64 e.x,.int .i64 e.y] 61
 simp only[World.size_alloc] at he
 exact⟨h.below hb,((BoxAt.new X #[.int .i64 f.x,.int .i64 f.y] 61).alloc _).below ((Below.refl _ _).drew),he.below ((Below.refl _ _).drew),by omega,by omega,by omega⟩
theorem CmJ.flip {w:World} {s t:Sd} {Bf Be:Nat} {f e:Pt} {X:World} (h:CmJ w s t Bf Be f e X):CmJ w s t Be Bf e f X:=⟨h.base,h.e,h.f,h.ne.symm,h.he,h.hf⟩
theorem CmI.off {w:World} {s t:Sd} {X:World} (h:CmI w s t X) {B:Nat} (hB:w.heap.size+1+1<B) (o:Nat) (v:Value):CmI w s t (X.setCell ⟨B,o,none⟩ v) :=
 ⟨h.s.off o v (by omega),h.t.off o v (by omega),h.z.off o v (by omega),h.bel.setCell (p:=⟨B,o,none⟩) (show w.heap.size≤B by omega) v⟩
theorem CmJ.setF {w:World} {s t:Sd} {Bf Be:Nat} {f e:Pt} {X:World} (h:CmJ w s t Bf Be f e X) (p:Pt):CmJ w s t Bf Be p e ((X.setCell ⟨Bf,0,none⟩ (.int .i64 p.x)).setCell ⟨Bf,1,none⟩ (.int .i64 p.y)):=by
 obtain⟨h1,h2,h3,h4,h5,h6⟩:=h
 exact⟨(h1.off h5 0 _).off h5 1 _,(h2.set 0 _ (by simp)).set 1 _ (by simp),(h3.off 0 _ (by omega)).off 1 _ (by omega),h4,h5,h6⟩
theorem CmJ.setE {w:World} {s t:Sd} {Bf Be:Nat} {f e:Pt} {X:World} (h:CmJ w s t Bf Be f e X) (p:Pt):CmJ w s t Bf Be f p ((X.setCell ⟨Be,0,none⟩ (.int .i64 p.x)).setCell ⟨Be,1,none⟩ (.int .i64 p.y)):=(h.flip.setF p).flip
structure CmK (w:World) (s:Sd) (Bf Be:Nat) (f e:Pt) (X:World):Prop where
 s:BoxAt X w.heap.size [.int .i64 s.a.x,.int .i64 s.a.y,.int .i64 s.b.x,.int .i64 s.b.y]
 z:∃ z0 z1 z2 z3,BoxAt X (w.heap.size+1+1) [z0,z1,z2,z3]
 f:BoxAt X Bf [.int .i64 f.x,.int .i64 f.y]
 e:BoxAt X Be [.int .i64 e.x,.int .i64 e.y]
 bel:Below w.heap.size w X
 hf:w.heap.size+1+1<Bf
 he:w.heap.size+1+1<Be
theorem CmJ.k {w:World} {s t:Sd} {Bf Be:Nat} {f e:Pt} {X:World} (h:CmJ w s t Bf Be f e X):CmK w s Bf Be f e X:=⟨h.base.s,⟨_,_,_,_,h.base.z⟩,h.f,h.e,h.base.bel,h.hf,h.he⟩
theorem CmK.below {w:World} {s:Sd} {Bf Be:Nat} {f e:Pt} {X Y:World} (h:CmK w s Bf Be f e X) (hb:Below X.heap.size X Y):CmK w s Bf Be f e Y:=by
 obtain⟨h1,⟨_,_,_,_,h2⟩,h3,h4,h5,h6,h7⟩:=h
 exact⟨h1.below hb,⟨_,_,_,_,h2.below hb⟩,h3.below hb,h4.below hb,h5.trans (hb.mono h5.size),h6,h7⟩
theorem CmK.store {w:World} {s:Sd} {Bf Be:Nat} {f e:Pt} {X:World} (h:CmK w s Bf Be f e X) (o:Nat) (ho:o<4) (v:Value):CmK w s Bf Be f e (X.setCell ⟨w.heap.size+1+1,o,none⟩ v):=by
 obtain⟨h1,⟨z0,z1,z2,z3,h2⟩,h3,h4,h5,h6,h7⟩:=h
 refine⟨h1.off o v (by omega),?_,h3.off o v (by omega),h4.off o v (by omega),h5.setCell (p:=⟨w.heap.size+1+1,o,none⟩) (show w.heap.size≤w.heap.size+1+1 by omega) v,h6,h7⟩
 have h:=h2.set o v (by simpa using ho)
 match o,ho,h with
 | 0,_,h=>exact⟨_,_,_,_,h⟩
 | 1,_,h=>exact⟨_,_,_,_,h⟩
 | 2,_,h=>exact⟨_,_,_,_,h⟩
 | 3,_,h=>exact⟨_,_,_,_,h⟩
theorem tkCx {P:Program} {ops:Array Oper} {Q:Exit→Act→World→Prop} {md:Region.Mode} {S:World→Prop} (i:Nat) (d:Nat) {oi:Oper} {v:Value} {fuel:Nat} {listed l':Array Bool} {a a':Act} {w:World}
  (h:wpAnyH P md ops Q S fuel l' a' w) (hi:ops[i]?=some oi:=by exact rfl)
  (hy:∀ w,S w→(execOp a.eval oi).run P w=.ok (.value v) w:=by (intro w' hSw;obtain⟨a0,a1,a2,a3⟩:=hSw.s.c4;obtain⟨f0,f1⟩:=hSw.f.c2;obtain⟨e0,e1⟩:=hSw.e.c2;go_simp;(try with_reducible rfl)))
  (ha:a.put (some d) v=a':=by ((try simp only[Act.put,List.setIfInBounds_toArray,List.set_cons_zero,List.set_cons_succ]);exact rfl))
  (hl:listed.setIfInBounds i true=l':=by ((try simp only[List.setIfInBounds_toArray,List.set_cons_zero,List.set_cons_succ]);exact rfl))
  (hdd:oi.dst=some d:=by kernel_rfl) (hs:Region.noSelect ops=true:=by kernel_rfl) (hf:Region.free md ops listed i=true:=by decide +kernel) (hr:(Region.ready md ops listed).contains i=true:=by decide +kernel)
  (hQ:∀ c a w,Q (.panic c) (a.put oi.dst v) w→Q (.panic c) a w:=by exact fun _ _ _ h=>h) (hw:Region.wanted oi (yielded ops a.tmps)=true:=by kernel_rfl) (hS:S w:=by assumption):wpAnyH P md ops Q S (fuel+1) listed a w :=
 tkH2 i d hy (by rw[ha,hl];exact h) hi hdd hs hf hr hQ hw hS
theorem sgSize:(Tryz.prog.info? 63).map (·.size)=some 4:=by kernel_rfl
theorem common_t (s t:Sd) (w:World) (hs:SmS s) (ht:SmS t) (h1:Cal.trn s t.a=0) (h2:Cal.trn s t.b=0) (h3:¬0<Cal.alongS s t.a t.b) :
  Calls Tryz.prog 58 #[.agg #[.int .i64 s.a.x,.int .i64 s.a.y,.int .i64 s.b.x,.int .i64 s.b.y],.agg #[.int .i64 t.a.x,.int .i64 t.a.y,.int .i64 t.b.x,.int .i64 t.b.y]] w fun e w'=>e=.returned (.tuple #[.agg #[.int .i64 (comT s t).1.a.x,.int .i64 (comT s t).1.a.y,.int .i64 (comT s t).1.b.x,.int .i64 (comT s t).1.b.y],.bool (comT s t).2])∧Below w.heap.size w w':=by
 have hmo:(Tryz.prog).follows Departure.mixedOrders=true:=by kernel_rfl
 obtain⟨u,hut⟩:∃ u,u=t:=⟨_,rfl⟩
 have hu:SmS u:=hut ▸ ht
 have hR:Hid (comT s t=(⟨if 0<Cal.alongS s u.a s.a then u.a else s.a,if Cal.alongS s u.b s.b<0 then u.b else s.b⟩,decide (Cal.alongS s (if 0<Cal.alongS s u.a s.a then u.a else s.a) (if Cal.alongS s u.b s.b<0 then u.b else s.b)<0))):=by show _=_;unfold comT;rw[if_pos ⟨h1,h2⟩,if_neg h3,hut]
 replace hut:=Lib.hid hut
 have d3:decide (0<Cal.alongS s t.a t.b)=false:=decide_eq_false h3
 replace h1:=Lib.hid h1
 replace h2:=Lib.hid h2
 replace h3:=Lib.hid h3
 have hI:=Lib.hid (CmI.first w s t)
 have m1:Hid True:=trivial
 go_enter Tryz.func58,Tryz.ntmps58
 go_wp2_with (first
  |(go_at_call 79;clear m1;refine (turn_any s t.a _ hs ht.a).mono ?_;rintro e wn ⟨rfl,hbn⟩;rw[h1.out];replace hI:=Lib.hid (hI.out.below hbn);clear hbn;obtain⟨a0,a1,a2,a3⟩:=hI.out.s.c4;obtain⟨b0,b1,b2,b3⟩:=hI.out.t.c4;obtain⟨f0,f1,f2,f3⟩:=hI.out.t.fr4)
  |(go_at_call 79;refine (turn_any s t.b _ hs ht.b).mono ?_;clear a0 a1 a2 a3 b0 b1 b2 b3 f0 f1 f2 f3;rintro e wn ⟨rfl,hbn⟩;rw[h2.out];replace hI:=Lib.hid (hI.out.below hbn);clear hbn;obtain⟨a0,a1,a2,a3⟩:=hI.out.s.c4;obtain⟨b0,b1,b2,b3⟩:=hI.out.t.c4;obtain⟨f0,f1,f2,f3⟩:=hI.out.t.fr4)
  |(go_at_call 80;refine (along_any s t.a t.b _ hs ht.a ht.b).mono ?_;clear a0 a1 a2 a3 b0 b1 b2 b3 f0 f1 f2 f3;rintro e wn ⟨rfl,hbn⟩;replace hI:=Lib.hid (hI.out.below hbn);clear hbn;obtain⟨a0,a1,a2,a3⟩:=hI.out.s.c4;obtain⟨b0,b1,b2,b3⟩:=hI.out.t.c4;obtain⟨f0,f1,f2,f3⟩:=hI.out.t.fr4))
 have l0:=hI.out.s.lt
 have l1:=hI.out.t.lt
 have l2:=hI.out.z.lt
 have n0:¬w.heap.size=wn.heap.size:=by omega
 have n1:¬w.heap.size+1=wn.heap.size:=by omega
 have n2:¬w.heap.size+1+1=wn.heap.size:=by omega
 have hJ1:=Lib.hid (CmJ.new hI.out s.a s.b)
 have hJ2:=Lib.hid (CmJ.new hI.out s.b s.a).flip
 clear d3
 go_region_o
 ·clear n0 n1 n2 hJ2 l0 l1 l2
  clear a0 a1 a2 a3 b0 b1 b2 b3 f0 f1 f2 f3
  obtain⟨Bf,hn⟩:∃ n,wn.heap.size=n:=⟨_,rfl⟩
  generalize ((wn.alloc (.cells #[.int .i64 s.a.x,.int .i64 s.a.y] 61)).alloc (.cells #[.int .i64 s.b.x,.int .i64 s.b.y] 61)).drew=X at hJ1 ⊢
  rw[hn] at hJ1 ⊢
  clear hI hn
  obtain⟨Be,hBe⟩:∃ B,Bf+1=B:=⟨_,rfl⟩
  rw[hBe] at hJ1 ⊢
  clear hBe
  rw[←hut.out] at hJ1
  have hJ:=hJ1
  clear hJ1
  have k0:=hJ.out.hf
  have k1:=hJ.out.he
  have k2:=hJ.out.ne
  have n0:¬Bf=Be:=k2
  have n1:¬Be=Bf:=fun e=>k2 e.symm
  have n2:¬Bf=w.heap.size:=by omega
  have n3:¬Bf=w.heap.size+1:=by omega
  have n4:¬Be=w.heap.size:=by omega
  have n5:¬Be=w.heap.size+1:=by omega
  clear k2
  (obtain⟨a0,a1,a2,a3⟩:=hJ.out.base.s.c4;obtain⟨b0,b1,b2,b3⟩:=hJ.out.base.t.c4;obtain⟨f0,f1⟩:=hJ.out.f.c2;obtain⟨e0,e1⟩:=hJ.out.e.c2;obtain⟨f2,f3⟩:=hJ.out.f.fr2;obtain⟨e2,e3⟩:=hJ.out.e.fr2)
  by_cases c1:0<Cal.alongS s u.a s.a
  ·have d1:decide (0<Cal.alongS s u.a s.a)=true:=decide_eq_true c1
   have hF:Hid ((if 0<Cal.alongS s u.a s.a then u.a else s.a)=u.a):=if_pos c1
   replace c1:=Lib.hid c1
   have m2:Hid True:=trivial
   go_wp2_with (go_at_call 80;clear m2;refine (along_any s u.a s.a _ hs hu.a hs.a).mono ?_;clear a0 a1 a2 a3 b0 b1 b2 b3 f0 f1 f2 f3 e0 e1 e2 e3;rintro e X2 ⟨rfl,hbn⟩;replace hJ:=Lib.hid (hJ.out.below hbn);clear hbn;(obtain⟨a0,a1,a2,a3⟩:=hJ.out.base.s.c4;obtain⟨b0,b1,b2,b3⟩:=hJ.out.base.t.c4;obtain⟨f0,f1⟩:=hJ.out.f.c2;obtain⟨e0,e1⟩:=hJ.out.e.c2;obtain⟨f2,f3⟩:=hJ.out.f.fr2;obtain⟨e2,e3⟩:=hJ.out.e.fr2))
   replace hJ:=Lib.hid (hJ.out.setF u.a)
   clear a0 a1 a2 a3 b0 b1 b2 b3 f0 f1 f2 f3 e0 e1 e2 e3
   refine (along_any s u.b s.b _ hs hu.b hs.b).mono ?_
   rintro e X3 ⟨rfl,hbn⟩
   replace hJ:=Lib.hid (hJ.out.below hbn)
   clear hbn
   (obtain⟨a0,a1,a2,a3⟩:=hJ.out.base.s.c4;obtain⟨b0,b1,b2,b3⟩:=hJ.out.base.t.c4;obtain⟨f0,f1⟩:=hJ.out.f.c2;obtain⟨e0,e1⟩:=hJ.out.e.c2;obtain⟨f2,f3⟩:=hJ.out.f.fr2;obtain⟨e2,e3⟩:=hJ.out.e.fr2)
   by_cases c2:Cal.alongS s u.b s.b<0
   ·have d2:decide (Cal.alongS s u.b s.b<0)=true:=decide_eq_true c2
    have hE:Hid (comT s t=(⟨u.a,u.b⟩,decide (Cal.alongS s u.a u.b<0))):=by show _=_;rw[hR.out,hF.out,if_pos c2]
    replace c2:=Lib.hid c2
    go_wp2_with fail
    replace hJ:=Lib.hid (hJ.out.setE u.b)
    obtain⟨Y,hY⟩:∃ Y,(X3.setCell ⟨Be,0,none⟩ (.int .i64 u.b.x)).setCell ⟨Be,1,none⟩ (.int .i64 u.b.y)=Y:=⟨_,rfl⟩
    rw[hY] at hJ ⊢
    clear hY
    clear a0 a1 a2 a3 b0 b1 b2 b3 f0 f1 f2 f3 e0 e1 e2 e3
    refine wp_region_held_drew (S:=CmK w s Bf Be u.a u.b) (by kernel_rfl) (hJ.out.k.below ((Below.refl _ _).drew)) (fun hHeld=>?_)
    refine tkCx 0 54 ?_
    refine tkCx 1 55 ?_
    refine tkCx 2 56 ?_
    refine tkCx 3 57 ?_
    refine tkCx 4 58 ?_
    refine tkCx 5 59 ?_
    (refine ratHx 6 (fun K hK=>?_);go_simp)
    refine (along_any s u.a u.b _ hs hu.a hu.b).mono ?_
    rintro e9 wn ⟨rfl,hbn⟩
    go_simp
    refine hK.out _ _ (hHeld.below hbn) (fun hHeld=>?_)
    clear hK K hbn
    (try simp only[apS,apN,siA,scZ,scS])
    refine tkCx 7 61 ?_
    obtain⟨z0,z1,z2,z3,hz⟩:=hHeld.z
    obtain⟨r0,r1,r2,r3⟩:=hz.c4;obtain⟨g0,g1,g2,g3⟩:=hz.fr4
    have hz9:=Lib.hid ((((hz.set 0 (.int .i64 u.a.x) (by simp)).set 1 (.int .i64 u.a.y) (by simp)).set 2 (.int .i64 u.b.x) (by simp)).set 3 (.int .i64 u.b.y) (by simp))
    (refine ratHx 8 (fun K hK=>?_);go_simp)
    refine hK.out _ _ ((((hHeld.store 0 (by omega) _).store 1 (by omega) _).store 2 (by omega) _).store 3 (by omega) _) (fun hHeld=>?_)
    clear hK K
    (try simp only[apS,apN,siA,scZ,scS])
    refine tkCx 9 5 ?_
    refine wpAnyH_done (by kernel_rfl) ?_ _
    go_wp2_with fail
    refine bodyPost_ret (results_mid2 rfl _ _ (w.heap.size+1+1) [.int .i64 u.a.x,.int .i64 u.a.y,.int .i64 u.b.x,.int .i64 u.b.y] _ rfl hz9.out.range Tryz.underlying63 rfl sgSize) rfl ⟨(by rw[hE.out];rfl),hHeld.bel⟩
   have d2:decide (Cal.alongS s u.b s.b<0)=false:=decide_eq_false c2
   have hE:Hid (comT s t=(⟨u.a,s.b⟩,decide (Cal.alongS s u.a s.b<0))):=by show _=_;rw[hR.out,hF.out,if_neg c2]
   replace c2:=Lib.hid c2
   go_wp2_with fail
   clear a0 a1 a2 a3 b0 b1 b2 b3 f0 f1 f2 f3 e0 e1 e2 e3
   refine wp_region_held_drew (S:=CmK w s Bf Be u.a s.b) (by kernel_rfl) (hJ.out.k.below ((Below.refl _ _).drew)) (fun hHeld=>?_)
   refine tkCx 0 54 ?_
   refine tkCx 1 55 ?_
   refine tkCx 2 56 ?_
   refine tkCx 3 57 ?_
   refine tkCx 4 58 ?_
   refine tkCx 5 59 ?_
   (refine ratHx 6 (fun K hK=>?_);go_simp)
   refine (along_any s u.a s.b _ hs hu.a hs.b).mono ?_
   rintro e9 wn ⟨rfl,hbn⟩
   go_simp
   refine hK.out _ _ (hHeld.below hbn) (fun hHeld=>?_)
   clear hK K hbn
   (try simp only[apS,apN,siA,scZ,scS])
   refine tkCx 7 61 ?_
   obtain⟨z0,z1,z2,z3,hz⟩:=hHeld.z
   obtain⟨r0,r1,r2,r3⟩:=hz.c4;obtain⟨g0,g1,g2,g3⟩:=hz.fr4
   have hz9:=Lib.hid ((((hz.set 0 (.int .i64 u.a.x) (by simp)).set 1 (.int .i64 u.a.y) (by simp)).set 2 (.int .i64 s.b.x) (by simp)).set 3 (.int .i64 s.b.y) (by simp))
   (refine ratHx 8 (fun K hK=>?_);go_simp)
   refine hK.out _ _ ((((hHeld.store 0 (by omega) _).store 1 (by omega) _).store 2 (by omega) _).store 3 (by omega) _) (fun hHeld=>?_)
   clear hK K
   (try simp only[apS,apN,siA,scZ,scS])
   refine tkCx 9 5 ?_
   refine wpAnyH_done (by kernel_rfl) ?_ _
   go_wp2_with fail
   refine bodyPost_ret (results_mid2 rfl _ _ (w.heap.size+1+1) [.int .i64 u.a.x,.int .i64 u.a.y,.int .i64 s.b.x,.int .i64 s.b.y] _ rfl hz9.out.range Tryz.underlying63 rfl sgSize) rfl ⟨(by rw[hE.out];rfl),hHeld.bel⟩
  have d1:decide (0<Cal.alongS s u.a s.a)=false:=decide_eq_false c1
  have hF:Hid ((if 0<Cal.alongS s u.a s.a then u.a else s.a)=s.a):=if_neg c1
  replace c1:=Lib.hid c1
  have m2:Hid True:=trivial
  go_wp2_with (go_at_call 80;clear m2;refine (along_any s u.a s.a _ hs hu.a hs.a).mono ?_;clear a0 a1 a2 a3 b0 b1 b2 b3 f0 f1 f2 f3 e0 e1 e2 e3;rintro e X2 ⟨rfl,hbn⟩;replace hJ:=Lib.hid (hJ.out.below hbn);clear hbn;(obtain⟨a0,a1,a2,a3⟩:=hJ.out.base.s.c4;obtain⟨b0,b1,b2,b3⟩:=hJ.out.base.t.c4;obtain⟨f0,f1⟩:=hJ.out.f.c2;obtain⟨e0,e1⟩:=hJ.out.e.c2;obtain⟨f2,f3⟩:=hJ.out.f.fr2;obtain⟨e2,e3⟩:=hJ.out.e.fr2))
  clear a0 a1 a2 a3 b0 b1 b2 b3 f0 f1 f2 f3 e0 e1 e2 e3
  refine (along_any s u.b s.b _ hs hu.b hs.b).mono ?_
  rintro e X3 ⟨rfl,hbn⟩
  replace hJ:=Lib.hid (hJ.out.below hbn)
  clear hbn
  (obtain⟨a0,a1,a2,a3⟩:=hJ.out.base.s.c4;obtain⟨b0,b1,b2,b3⟩:=hJ.out.base.t.c4;obtain⟨f0,f1⟩:=hJ.out.f.c2;obtain⟨e0,e1⟩:=hJ.out.e.c2;obtain⟨f2,f3⟩:=hJ.out.f.fr2;obtain⟨e2,e3⟩:=hJ.out.e.fr2)
  by_cases c2:Cal.alongS s u.b s.b<0
  ·have d2:decide (Cal.alongS s u.b s.b<0)=true:=decide_eq_true c2
   have hE:Hid (comT s t=(⟨s.a,u.b⟩,decide (Cal.alongS s s.a u.b<0))):=by show _=_;rw[hR.out,hF.out,if_pos c2]
   replace c2:=Lib.hid c2
   go_wp2_with fail
   replace hJ:=Lib.hid (hJ.out.setE u.b)
   obtain⟨Y,hY⟩:∃ Y,(X3.setCell ⟨Be,0,none⟩ (.int .i64 u.b.x)).setCell ⟨Be,1,none⟩ (.int .i64 u.b.y)=Y:=⟨_,rfl⟩
   rw[hY] at hJ ⊢
   clear hY
   clear a0 a1 a2 a3 b0 b1 b2 b3 f0 f1 f2 f3 e0 e1 e2 e3
   refine wp_region_held_drew (S:=CmK w s Bf Be s.a u.b) (by kernel_rfl) (hJ.out.k.below ((Below.refl _ _).drew)) (fun hHeld=>?_)
   refine tkCx 0 54 ?_
   refine tkCx 1 55 ?_
   refine tkCx 2 56 ?_
   refine tkCx 3 57 ?_
   refine tkCx 4 58 ?_
   refine tkCx 5 59 ?_
   (refine ratHx 6 (fun K hK=>?_);go_simp)
   refine (along_any s s.a u.b _ hs hs.a hu.b).mono ?_
   rintro e9 wn ⟨rfl,hbn⟩
   go_simp
   refine hK.out _ _ (hHeld.below hbn) (fun hHeld=>?_)
   clear hK K hbn
   (try simp only[apS,apN,siA,scZ,scS])
   refine tkCx 7 61 ?_
   obtain⟨z0,z1,z2,z3,hz⟩:=hHeld.z
   obtain⟨r0,r1,r2,r3⟩:=hz.c4;obtain⟨g0,g1,g2,g3⟩:=hz.fr4
   have hz9:=Lib.hid ((((hz.set 0 (.int .i64 s.a.x) (by simp)).set 1 (.int .i64 s.a.y) (by simp)).set 2 (.int .i64 u.b.x) (by simp)).set 3 (.int .i64 u.b.y) (by simp))
   (refine ratHx 8 (fun K hK=>?_);go_simp)
   refine hK.out _ _ ((((hHeld.store 0 (by omega) _).store 1 (by omega) _).store 2 (by omega) _).store 3 (by omega) _) (fun hHeld=>?_)
   clear hK K
   (try simp only[apS,apN,siA,scZ,scS])
   refine tkCx 9 5 ?_
   refine wpAnyH_done (by kernel_rfl) ?_ _
   go_wp2_with fail
   refine bodyPost_ret (results_mid2 rfl _ _ (w.heap.size+1+1) [.int .i64 s.a.x,.int .i64 s.a.y,.int .i64 u.b.x,.int .i64 u.b.y] _ rfl hz9.out.range Tryz.underlying63 rfl sgSize) rfl ⟨(by rw[hE.out];rfl),hHeld.bel⟩
  have d2:decide (Cal.alongS s u.b s.b<0)=false:=decide_eq_false c2
  have hE:Hid (comT s t=(⟨s.a,s.b⟩,decide (Cal.alongS s s.a s.b<0))):=by show _=_;rw[hR.out,hF.out,if_neg c2]
  replace c2:=Lib.hid c2
  go_wp2_with fail
  clear a0 a1 a2 a3 b0 b1 b2 b3 f0 f1 f2 f3 e0 e1 e2 e3
  refine wp_region_held_drew (S:=CmK w s Bf Be s.a s.b) (by kernel_rfl) (hJ.out.k.below ((Below.refl _ _).drew)) (fun hHeld=>?_)
  refine tkCx 0 54 ?_
  refine tkCx 1 55 ?_
  refine tkCx 2 56 ?_
  refine tkCx 3 57 ?_
  refine tkCx 4 58 ?_
  refine tkCx 5 59 ?_
  (refine ratHx 6 (fun K hK=>?_);go_simp)
  refine (along_any s s.a s.b _ hs hs.a hs.b).mono ?_
  rintro e9 wn ⟨rfl,hbn⟩
  go_simp
  refine hK.out _ _ (hHeld.below hbn) (fun hHeld=>?_)
  clear hK K hbn
  (try simp only[apS,apN,siA,scZ,scS])
  refine tkCx 7 61 ?_
  obtain⟨z0,z1,z2,z3,hz⟩:=hHeld.z
  obtain⟨r0,r1,r2,r3⟩:=hz.c4;obtain⟨g0,g1,g2,g3⟩:=hz.fr4
  have hz9:=Lib.hid ((((hz.set 0 (.int .i64 s.a.x) (by simp)).set 1 (.int .i64 s.a.y) (by simp)).set 2 (.int .i64 s.b.x) (by simp)).set 3 (.int .i64 s.b.y) (by simp))
  (refine ratHx 8 (fun K hK=>?_);go_simp)
  refine hK.out _ _ ((((hHeld.store 0 (by omega) _).store 1 (by omega) _).store 2 (by omega) _).store 3 (by omega) _) (fun hHeld=>?_)
  clear hK K
  (try simp only[apS,apN,siA,scZ,scS])
  refine tkCx 9 5 ?_
  refine wpAnyH_done (by kernel_rfl) ?_ _
  go_wp2_with fail
  refine bodyPost_ret (results_mid2 rfl _ _ (w.heap.size+1+1) [.int .i64 s.a.x,.int .i64 s.a.y,.int .i64 s.b.x,.int .i64 s.b.y] _ rfl hz9.out.range Tryz.underlying63 rfl sgSize) rfl ⟨(by rw[hE.out];rfl),hHeld.bel⟩
 clear n0 n1 n2 hJ1 l0 l1 l2
 clear a0 a1 a2 a3 b0 b1 b2 b3 f0 f1 f2 f3
 obtain⟨Be,hn⟩:∃ n,wn.heap.size=n:=⟨_,rfl⟩
 generalize ((wn.alloc (.cells #[.int .i64 s.b.x,.int .i64 s.b.y] 61)).alloc (.cells #[.int .i64 s.a.x,.int .i64 s.a.y] 61)).drew=X at hJ2 ⊢
 rw[hn] at hJ2 ⊢
 clear hI hn
 obtain⟨Bf,hBf⟩:∃ B,Be+1=B:=⟨_,rfl⟩
 rw[hBf] at hJ2 ⊢
 clear hBf
 rw[←hut.out] at hJ2
 have hJ:=hJ2
 clear hJ2
 have k0:=hJ.out.hf
 have k1:=hJ.out.he
 have k2:=hJ.out.ne
 have n0:¬Bf=Be:=k2
 have n1:¬Be=Bf:=fun e=>k2 e.symm
 have n2:¬Bf=w.heap.size:=by omega
 have n3:¬Bf=w.heap.size+1:=by omega
 have n4:¬Be=w.heap.size:=by omega
 have n5:¬Be=w.heap.size+1:=by omega
 clear k2
 (obtain⟨a0,a1,a2,a3⟩:=hJ.out.base.s.c4;obtain⟨b0,b1,b2,b3⟩:=hJ.out.base.t.c4;obtain⟨f0,f1⟩:=hJ.out.f.c2;obtain⟨e0,e1⟩:=hJ.out.e.c2;obtain⟨f2,f3⟩:=hJ.out.f.fr2;obtain⟨e2,e3⟩:=hJ.out.e.fr2)
 by_cases c1:0<Cal.alongS s u.a s.a
 ·have d1:decide (0<Cal.alongS s u.a s.a)=true:=decide_eq_true c1
  have hF:Hid ((if 0<Cal.alongS s u.a s.a then u.a else s.a)=u.a):=if_pos c1
  replace c1:=Lib.hid c1
  have m2:Hid True:=trivial
  go_wp2_with (go_at_call 80;clear m2;refine (along_any s u.a s.a _ hs hu.a hs.a).mono ?_;clear a0 a1 a2 a3 b0 b1 b2 b3 f0 f1 f2 f3 e0 e1 e2 e3;rintro e X2 ⟨rfl,hbn⟩;replace hJ:=Lib.hid (hJ.out.below hbn);clear hbn;(obtain⟨a0,a1,a2,a3⟩:=hJ.out.base.s.c4;obtain⟨b0,b1,b2,b3⟩:=hJ.out.base.t.c4;obtain⟨f0,f1⟩:=hJ.out.f.c2;obtain⟨e0,e1⟩:=hJ.out.e.c2;obtain⟨f2,f3⟩:=hJ.out.f.fr2;obtain⟨e2,e3⟩:=hJ.out.e.fr2))
  replace hJ:=Lib.hid (hJ.out.setF u.a)
  clear a0 a1 a2 a3 b0 b1 b2 b3 f0 f1 f2 f3 e0 e1 e2 e3
  refine (along_any s u.b s.b _ hs hu.b hs.b).mono ?_
  rintro e X3 ⟨rfl,hbn⟩
  replace hJ:=Lib.hid (hJ.out.below hbn)
  clear hbn
  (obtain⟨a0,a1,a2,a3⟩:=hJ.out.base.s.c4;obtain⟨b0,b1,b2,b3⟩:=hJ.out.base.t.c4;obtain⟨f0,f1⟩:=hJ.out.f.c2;obtain⟨e0,e1⟩:=hJ.out.e.c2;obtain⟨f2,f3⟩:=hJ.out.f.fr2;obtain⟨e2,e3⟩:=hJ.out.e.fr2)
  by_cases c2:Cal.alongS s u.b s.b<0
  ·have d2:decide (Cal.alongS s u.b s.b<0)=true:=decide_eq_true c2
   have hE:Hid (comT s t=(⟨u.a,u.b⟩,decide (Cal.alongS s u.a u.b<0))):=by show _=_;rw[hR.out,hF.out,if_pos c2]
   replace c2:=Lib.hid c2
   go_wp2_with fail
   replace hJ:=Lib.hid (hJ.out.setE u.b)
   obtain⟨Y,hY⟩:∃ Y,(X3.setCell ⟨Be,0,none⟩ (.int .i64 u.b.x)).setCell ⟨Be,1,none⟩ (.int .i64 u.b.y)=Y:=⟨_,rfl⟩
   rw[hY] at hJ ⊢
   clear hY
   clear a0 a1 a2 a3 b0 b1 b2 b3 f0 f1 f2 f3 e0 e1 e2 e3
   refine wp_region_held_drew (S:=CmK w s Bf Be u.a u.b) (by kernel_rfl) (hJ.out.k.below ((Below.refl _ _).drew)) (fun hHeld=>?_)
   refine tkCx 0 54 ?_
   refine tkCx 1 55 ?_
   refine tkCx 2 56 ?_
   refine tkCx 3 57 ?_
   refine tkCx 4 58 ?_
   refine tkCx 5 59 ?_
   (refine ratHx 6 (fun K hK=>?_);go_simp)
   refine (along_any s u.a u.b _ hs hu.a hu.b).mono ?_
   rintro e9 wn ⟨rfl,hbn⟩
   go_simp
   refine hK.out _ _ (hHeld.below hbn) (fun hHeld=>?_)
   clear hK K hbn
   (try simp only[apS,apN,siA,scZ,scS])
   refine tkCx 7 61 ?_
   obtain⟨z0,z1,z2,z3,hz⟩:=hHeld.z
   obtain⟨r0,r1,r2,r3⟩:=hz.c4;obtain⟨g0,g1,g2,g3⟩:=hz.fr4
   have hz9:=Lib.hid ((((hz.set 0 (.int .i64 u.a.x) (by simp)).set 1 (.int .i64 u.a.y) (by simp)).set 2 (.int .i64 u.b.x) (by simp)).set 3 (.int .i64 u.b.y) (by simp))
   (refine ratHx 8 (fun K hK=>?_);go_simp)
   refine hK.out _ _ ((((hHeld.store 0 (by omega) _).store 1 (by omega) _).store 2 (by omega) _).store 3 (by omega) _) (fun hHeld=>?_)
   clear hK K
   (try simp only[apS,apN,siA,scZ,scS])
   refine tkCx 9 5 ?_
   refine wpAnyH_done (by kernel_rfl) ?_ _
   go_wp2_with fail
   refine bodyPost_ret (results_mid2 rfl _ _ (w.heap.size+1+1) [.int .i64 u.a.x,.int .i64 u.a.y,.int .i64 u.b.x,.int .i64 u.b.y] _ rfl hz9.out.range Tryz.underlying63 rfl sgSize) rfl ⟨(by rw[hE.out];rfl),hHeld.bel⟩
  have d2:decide (Cal.alongS s u.b s.b<0)=false:=decide_eq_false c2
  have hE:Hid (comT s t=(⟨u.a,s.b⟩,decide (Cal.alongS s u.a s.b<0))):=by show _=_;rw[hR.out,hF.out,if_neg c2]
  replace c2:=Lib.hid c2
  go_wp2_with fail
  clear a0 a1 a2 a3 b0 b1 b2 b3 f0 f1 f2 f3 e0 e1 e2 e3
  refine wp_region_held_drew (S:=CmK w s Bf Be u.a s.b) (by kernel_rfl) (hJ.out.k.below ((Below.refl _ _).drew)) (fun hHeld=>?_)
  refine tkCx 0 54 ?_
  refine tkCx 1 55 ?_
  refine tkCx 2 56 ?_
  refine tkCx 3 57 ?_
  refine tkCx 4 58 ?_
  refine tkCx 5 59 ?_
  (refine ratHx 6 (fun K hK=>?_);go_simp)
  refine (along_any s u.a s.b _ hs hu.a hs.b).mono ?_
  rintro e9 wn ⟨rfl,hbn⟩
  go_simp
  refine hK.out _ _ (hHeld.below hbn) (fun hHeld=>?_)
  clear hK K hbn
  (try simp only[apS,apN,siA,scZ,scS])
  refine tkCx 7 61 ?_
  obtain⟨z0,z1,z2,z3,hz⟩:=hHeld.z
  obtain⟨r0,r1,r2,r3⟩:=hz.c4;obtain⟨g0,g1,g2,g3⟩:=hz.fr4
  have hz9:=Lib.hid ((((hz.set 0 (.int .i64 u.a.x) (by simp)).set 1 (.int .i64 u.a.y) (by simp)).set 2 (.int .i64 s.b.x) (by simp)).set 3 (.int .i64 s.b.y) (by simp))
  (refine ratHx 8 (fun K hK=>?_);go_simp)
  refine hK.out _ _ ((((hHeld.store 0 (by omega) _).store 1 (by omega) _).store 2 (by omega) _).store 3 (by omega) _) (fun hHeld=>?_)
  clear hK K
  (try simp only[apS,apN,siA,scZ,scS])
  refine tkCx 9 5 ?_
  refine wpAnyH_done (by kernel_rfl) ?_ _
  go_wp2_with fail
  refine bodyPost_ret (results_mid2 rfl _ _ (w.heap.size+1+1) [.int .i64 u.a.x,.int .i64 u.a.y,.int .i64 s.b.x,.int .i64 s.b.y] _ rfl hz9.out.range Tryz.underlying63 rfl sgSize) rfl ⟨(by rw[hE.out];rfl),hHeld.bel⟩
 have d1:decide (0<Cal.alongS s u.a s.a)=false:=decide_eq_false c1
 have hF:Hid ((if 0<Cal.alongS s u.a s.a then u.a else s.a)=s.a):=if_neg c1
 replace c1:=Lib.hid c1
 have m2:Hid True:=trivial
 go_wp2_with (go_at_call 80;clear m2;refine (along_any s u.a s.a _ hs hu.a hs.a).mono ?_;clear a0 a1 a2 a3 b0 b1 b2 b3 f0 f1 f2 f3 e0 e1 e2 e3;rintro e X2 ⟨rfl,hbn⟩;replace hJ:=Lib.hid (hJ.out.below hbn);clear hbn;(obtain⟨a0,a1,a2,a3⟩:=hJ.out.base.s.c4;obtain⟨b0,b1,b2,b3⟩:=hJ.out.base.t.c4;obtain⟨f0,f1⟩:=hJ.out.f.c2;obtain⟨e0,e1⟩:=hJ.out.e.c2;obtain⟨f2,f3⟩:=hJ.out.f.fr2;obtain⟨e2,e3⟩:=hJ.out.e.fr2))
 clear a0 a1 a2 a3 b0 b1 b2 b3 f0 f1 f2 f3 e0 e1 e2 e3
 refine (along_any s u.b s.b _ hs hu.b hs.b).mono ?_
 rintro e X3 ⟨rfl,hbn⟩
 replace hJ:=Lib.hid (hJ.out.below hbn)
 clear hbn
 (obtain⟨a0,a1,a2,a3⟩:=hJ.out.base.s.c4;obtain⟨b0,b1,b2,b3⟩:=hJ.out.base.t.c4;obtain⟨f0,f1⟩:=hJ.out.f.c2;obtain⟨e0,e1⟩:=hJ.out.e.c2;obtain⟨f2,f3⟩:=hJ.out.f.fr2;obtain⟨e2,e3⟩:=hJ.out.e.fr2)
 by_cases c2:Cal.alongS s u.b s.b<0
 ·have d2:decide (Cal.alongS s u.b s.b<0)=true:=decide_eq_true c2
  have hE:Hid (comT s t=(⟨s.a,u.b⟩,decide (Cal.alongS s s.a u.b<0))):=by show _=_;rw[hR.out,hF.out,if_pos c2]
  replace c2:=Lib.hid c2
  go_wp2_with fail
  replace hJ:=Lib.hid (hJ.out.setE u.b)
  obtain⟨Y,hY⟩:∃ Y,(X3.setCell ⟨Be,0,none⟩ (.int .i64 u.b.x)).setCell ⟨Be,1,none⟩ (.int .i64 u.b.y)=Y:=⟨_,rfl⟩
  rw[hY] at hJ ⊢
  clear hY
  clear a0 a1 a2 a3 b0 b1 b2 b3 f0 f1 f2 f3 e0 e1 e2 e3
  refine wp_region_held_drew (S:=CmK w s Bf Be s.a u.b) (by kernel_rfl) (hJ.out.k.below ((Below.refl _ _).drew)) (fun hHeld=>?_)
  refine tkCx 0 54 ?_
  refine tkCx 1 55 ?_
  refine tkCx 2 56 ?_
  refine tkCx 3 57 ?_
  refine tkCx 4 58 ?_
  refine tkCx 5 59 ?_
  (refine ratHx 6 (fun K hK=>?_);go_simp)
  refine (along_any s s.a u.b _ hs hs.a hu.b).mono ?_
  rintro e9 wn ⟨rfl,hbn⟩
  go_simp
  refine hK.out _ _ (hHeld.below hbn) (fun hHeld=>?_)
  clear hK K hbn
  (try simp only[apS,apN,siA,scZ,scS])
  refine tkCx 7 61 ?_
  obtain⟨z0,z1,z2,z3,hz⟩:=hHeld.z
  obtain⟨r0,r1,r2,r3⟩:=hz.c4;obtain⟨g0,g1,g2,g3⟩:=hz.fr4
  have hz9:=Lib.hid ((((hz.set 0 (.int .i64 s.a.x) (by simp)).set 1 (.int .i64 s.a.y) (by simp)).set 2 (.int .i64 u.b.x) (by simp)).set 3 (.int .i64 u.b.y) (by simp))
  (refine ratHx 8 (fun K hK=>?_);go_simp)
  refine hK.out _ _ ((((hHeld.store 0 (by omega) _).store 1 (by omega) _).store 2 (by omega) _).store 3 (by omega) _) (fun hHeld=>?_)
  clear hK K
  (try simp only[apS,apN,siA,scZ,scS])
  refine tkCx 9 5 ?_
  refine wpAnyH_done (by kernel_rfl) ?_ _
  go_wp2_with fail
  refine bodyPost_ret (results_mid2 rfl _ _ (w.heap.size+1+1) [.int .i64 s.a.x,.int .i64 s.a.y,.int .i64 u.b.x,.int .i64 u.b.y] _ rfl hz9.out.range Tryz.underlying63 rfl sgSize) rfl ⟨(by rw[hE.out];rfl),hHeld.bel⟩
 have d2:decide (Cal.alongS s u.b s.b<0)=false:=decide_eq_false c2
 have hE:Hid (comT s t=(⟨s.a,s.b⟩,decide (Cal.alongS s s.a s.b<0))):=by show _=_;rw[hR.out,hF.out,if_neg c2]
 replace c2:=Lib.hid c2
 go_wp2_with fail
 clear a0 a1 a2 a3 b0 b1 b2 b3 f0 f1 f2 f3 e0 e1 e2 e3
 refine wp_region_held_drew (S:=CmK w s Bf Be s.a s.b) (by kernel_rfl) (hJ.out.k.below ((Below.refl _ _).drew)) (fun hHeld=>?_)
 refine tkCx 0 54 ?_
 refine tkCx 1 55 ?_
 refine tkCx 2 56 ?_
 refine tkCx 3 57 ?_
 refine tkCx 4 58 ?_
 refine tkCx 5 59 ?_
 (refine ratHx 6 (fun K hK=>?_);go_simp)
 refine (along_any s s.a s.b _ hs hs.a hs.b).mono ?_
 rintro e9 wn ⟨rfl,hbn⟩
 go_simp
 refine hK.out _ _ (hHeld.below hbn) (fun hHeld=>?_)
 clear hK K hbn
 (try simp only[apS,apN,siA,scZ,scS])
 refine tkCx 7 61 ?_
 obtain⟨z0,z1,z2,z3,hz⟩:=hHeld.z
 obtain⟨r0,r1,r2,r3⟩:=hz.c4;obtain⟨g0,g1,g2,g3⟩:=hz.fr4
 have hz9:=Lib.hid ((((hz.set 0 (.int .i64 s.a.x) (by simp)).set 1 (.int .i64 s.a.y) (by simp)).set 2 (.int .i64 s.b.x) (by simp)).set 3 (.int .i64 s.b.y) (by simp))
 (refine ratHx 8 (fun K hK=>?_);go_simp)
 refine hK.out _ _ ((((hHeld.store 0 (by omega) _).store 1 (by omega) _).store 2 (by omega) _).store 3 (by omega) _) (fun hHeld=>?_)
 clear hK K
 (try simp only[apS,apN,siA,scZ,scS])
 refine tkCx 9 5 ?_
 refine wpAnyH_done (by kernel_rfl) ?_ _
 go_wp2_with fail
 refine bodyPost_ret (results_mid2 rfl _ _ (w.heap.size+1+1) [.int .i64 s.a.x,.int .i64 s.a.y,.int .i64 s.b.x,.int .i64 s.b.y] _ rfl hz9.out.range Tryz.underlying63 rfl sgSize) rfl ⟨(by rw[hE.out];rfl),hHeld.bel⟩
end Go.Proofs.YtoojdkaimhlcbaaGreat
