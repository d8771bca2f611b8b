/- What the statements rest on: definitions and walks, part 30. -/
import Derived.Test.YtfcjeejhdklkdaaJ29
set_option maxRecDepth 100000
set_option maxHeartbeats 16000000
set_option linter.unusedSimpArgs false
set_option linter.unusedVariables false
namespace Go.Proofs.Ytfcjeejhdklkdaa
open Go Go.RowKit Go.Shelf
structure SctO (w : World) (s : Sct) : Prop where
 nm : s.name.size ≤ maxLen
 rows : RowsAt w s.V 2 (s.ps.map ptR)
 capp : s.ps.length ≤ s.d
 prow : RowsAt w s.S 2 (s.l.map Plo.cells)
 cap : s.l.length ≤ s.e
 each : ∀ p ∈ s.l,RowsAt w p.V 2 (p.ps.map ptR) ∧ p.ps.length ≤ p.d ∧ p.name.size ≤ maxLen
theorem few_of {ps : List Pt} (h : fewL ps.length = true) : few ps:=by
 unfold fewL at h
 unfold few
 simp at h
 omega
theorem SctO.sct {w : World} {s : Sct} (h : SctO w s) (hf : SmallF s) : SctR w s :=
 ⟨h.nm,ptsR_of h.rows (by have:=fewL_le hf.few;omega),few_of hf.few,⟨h.prow,by have:=hf.plots;omega,fun p hp=>ptsR_of (h.each p hp).1 (by have:=fewL_le (hf.each p hp).2;omega),fun p hp=>(h.each p hp).2.2⟩,h.cap,fun p hp=>few_of (hf.each p hp).2⟩
theorem arr_same (a b : Int) (w : World) : (Op.equalIn 10000 64 (.agg #[.int .i64 a,.int .i64 b]) (.agg #[.int .i64 a,.int .i64 b])).run Try.prog w = .ok true w:=by
 have u3:=Try.underlying3
 rw [show (10000 : Nat) = 9999 + 1 from rfl,Op.equalIn]
 simp only [Sem.run_bind,run_underlying Try.underlying64,Result.andThen_ok]
 simp only [Std.Legacy.Range.forIn_eq_forIn_range',Std.Legacy.Range.size,Nat.sub_zero,Nat.add_sub_cancel,Nat.div_one,List.range'_succ,List.range'_zero,List.forIn_cons,List.forIn_nil]
 go_simp
theorem areas_sum : ∀ l : List Plo,Cal.areas (l.map Plo.ps) = sumA l
 | []=>rfl
 | p :: r=>by
  rw [List.map_cons,sumA]
  show Cal.areaP p.ps + Cal.areas (r.map Plo.ps) = _
  rw [areas_sum r]
theorem idxP_neg {g : Plo → Bool} {l : List Plo} (h : l.any g = false) : ∀ q ∈ l,g q = false:=fun q hq=>by
 cases hg : g q
 ·rfl
 ·rw [List.any_eq_true.2 ⟨q,hq,hg⟩] at h;cases h
theorem gap_nn {name : ByteArray} {ps : List Pt} {l : List Plo} (h : (sectE name ps l).2.2 = 0) : sumA l ≤ Cal.areaP ps:=by
 obtain ⟨_,hs,_,hk⟩:=sectE_zero h
 have key : ∀ k (h : k < l.length),Cal.polyE l[k].ps = 0 ∧ Cal.withinP l[k].ps ps = true ∧ ∀ q ∈ l.take k,Cal.overlapP q.ps l[k].ps = false:=fun k h=>by
  obtain ⟨_,_,h3,h4,h5⟩:=plotE_zero (hk k h)
  exact ⟨h3,h4,idxP_neg h5⟩
 rw [← areas_sum]
 refine Cal.gap_nonneg hs (fun p hp=>?_) ?_
 ·obtain ⟨q,hq,rfl⟩:=List.mem_map.1 hp
  obtain ⟨k,hk',rfl⟩:=List.getElem_of_mem hq
  exact ⟨(key k hk').1,(Cal.within_in (key k hk').1 hs).1 (key k hk').2.1⟩
 ·rw [List.pairwise_map,List.pairwise_iff_getElem]
  intro i j hi hj hij hov
  have h1:=(key j hj).2.2 l[i] (List.mem_of_getElem? (i:=i) (by rw [List.getElem?_take_of_lt hij];exact List.getElem?_eq_getElem hi))
  rw [(Cal.overlap_over (key i hi).1 (key j hj).1).2 hov] at h1
  cases h1
theorem GroundSections_any (s : Sct) (w : World) (hO : SctO w s) :
  Calls Try.prog 9 #[.agg #[.string s.name,.slice s.V s.ps.length s.d,.slice s.S s.l.length s.e]] w fun e w'=>e = .returned (.bool true) ∧ Below w.heap.size w w':=by
 have hI : Hid (GpI w s (w.alloc (.cells #[.string s.name,.slice s.V s.ps.length s.d,.slice s.S s.l.length s.e] 62))):=⟨BoxAt.new w #[.string s.name,.slice s.V s.ps.length s.d,.slice s.S s.l.length s.e] 62,below_alloc _ _⟩
 have hsm:=Lib.hid (fun W (hb : Below w.heap.size w W)=>Small_any s W (hO.prow.below hb))
 replace hO:=Lib.hid hO
 (have a0:=hI.out.a.c 0 _ rfl;have a1:=hI.out.a.c 1 _ rfl;have a2:=hI.out.a.c 2 _ rfl)
 go_enter Try.func9,Try.ntmps9
 go_wp2_with (go_at_call 20;clear a0 a1 a2;refine (lawAwake_any _).mono ?_;rintro e0 wn ⟨rfl,hbn⟩;replace hI:=Lib.hid (hI.out.below hbn);clear hbn;(have a0:=hI.out.a.c 0 _ rfl;have a1:=hI.out.a.c 1 _ rfl;have a2:=hI.out.a.c 2 _ rfl))
 clear a0 a1 a2
 refine (hsm.out _ hI.out.bel).mono ?_
 clear hsm
 rintro e0 wm ⟨bs,rfl,hf,hbn⟩
 replace hI:=Lib.hid (hI.out.below hbn)
 clear hbn
 (have a0:=hI.out.a.c 0 _ rfl;have a1:=hI.out.a.c 1 _ rfl;have a2:=hI.out.a.c 2 _ rfl)
 cases bs
 ·clear hO hf
  go_wp2_with fail
  go_ret
  exact ⟨rfl,hI.out.bel⟩
 ·have hS:=hO.out.sct (hf rfl)
  have hcap : ∀ p ∈ s.l,p.ps.length ≤ p.d:=fun p hp=>(hO.out.each p hp).2.1
  clear hf hO
  have hcs:=Lib.hid (fun W (hb : Below w.heap.size w W)=>CheckSection_any s W (hS.below hb))
  have hrs:=Lib.hid (fun W (hb : Below w.heap.size w W)=>CheckSectionR_any s W (hS.below hb) hcap)
  have hgp:=Lib.hid (fun W (hb : Below w.heap.size w W)=>Gap_any s W (hS.below hb))
  have hrg:=Lib.hid (fun (h0 : (sectE s.name s.ps s.l).2.2 = 0) W (hb : Below w.heap.size w W)=>GapR_any s W (hS.below hb) h0)
  have hnn:=Lib.hid (fun h=>gap_nn (name:=s.name) (ps:=s.ps) (l:=s.l) h)
  have hz:=Lib.hid (fun h=>sectE_zero (name:=s.name) (ps:=s.ps) (l:=s.l) h)
  have hg0 : (sectE s.name s.ps s.l).2.2 ≠ 0 → gapS s = 0:=fun h=>by unfold gapS;rw [if_neg h]
  have hg1 : (sectE s.name s.ps s.l).2.2 = 0 → gapS s = Cal.areaP s.ps - sumA s.l:=fun h=>by unfold gapS;rw [if_pos h]
  clear hcap
  generalize gapS s = G at *
  generalize sectE s.name s.ps s.l = E at *
  obtain ⟨e1,e2,c⟩:=E
  have hneq:=arr_same e1 e2
  dsimp only at *
  by_cases h0 : c = 0
  ·subst h0
   replace hrg:=Lib.hid (hrg.out rfl)
   have hz':=hz.out rfl
   have hnn':=hnn.out rfl
   have hG:=hg1 rfl
   clear hz hnn hg0 hg1
   have hS':=Lib.hid hS
   have hC:=hS.pts.plg hz'.2.1 (few_ok hS.few hz'.2.1)
   have hCb:=area_box hC.v.pts hC.len
   have hPl : Hid (∀ p ∈ s.l,Cal.polyE p.ps = 0 ∧ PtsR w p.V p.ps ∧ -20000000000000 ≤ Cal.areaP p.ps ∧ Cal.areaP p.ps ≤ 20000000000000):=fun p hp=>by
    obtain ⟨k,hk,rfl⟩:=List.getElem_of_mem hp
    have h3:=(plotE_zero (hz'.2.2.2 k hk)).2.2.1
    have hq:=(hS.plots.pts _ hp).plg h3 (few_ok (hS.fews _ hp) h3)
    exact ⟨h3,hS.plots.pts _ hp,area_box hq.v.pts hq.len⟩
   have hl60:=hz'.2.2.1
   have hAr:=Lib.hid (fun W (hb : Below w.heap.size w W)=>Area_any s.V s.d s.ps W (hS.pts.below hb))
   rw [hz'.2.1,if_pos rfl] at hAr
   have hrows:=Lib.hid hS.plots.rows
   rw [← hG] at hrg
   clear hz' hC hS'
   generalize Cal.areaP s.ps = A at *
   have hsb:=sumA_box (l:=s.l) (fun p hp=>(hPl.out p hp).2.2)
   have hG0 : 0 ≤ G:=by omega
   have hGb : G ≤ 20000000000000 + 20000000000000 * 60:=by omega
   have hGs:=Lib.hid hG
   clear hS hnn' hsb hG hCb
   obtain ⟨nm,V,d,ps,S,e,l⟩:=s
   dsimp only at *
   have hS0 : Hid ((0 : Int) = sumA (l.take 0)):=rfl
   go_wp2_with (first
    |(go_at_call 37;clear a0 a1 a2;refine (hcs.out _ hI.out.bel).mono ?_;clear hcs;rintro e0 wn ⟨rfl,hbn⟩;replace hI:=Lib.hid ((hI.out.below hbn).below (below_alloc wn (.cells #[.int .i64 e1,.int .i64 e2] 64)));have hT:=Lib.hid (BoxAt.new wn #[.int .i64 e1,.int .i64 e2] 64);clear hbn;(have a0:=hI.out.a.c 0 _ rfl;have a1:=hI.out.a.c 1 _ rfl;have a2:=hI.out.a.c 2 _ rfl))
    |(go_at_call 38;clear a0 a1 a2;refine (hgp.out _ hI.out.bel).mono ?_;clear hgp;rintro e0 wm ⟨rfl,hbn⟩;replace hT:=Lib.hid (hT.out.below hbn);replace hI:=Lib.hid (hI.out.below hbn);clear hbn;(have a0:=hI.out.a.c 0 _ rfl;have a1:=hI.out.a.c 1 _ rfl;have a2:=hI.out.a.c 2 _ rfl))
    |(go_at_call 39;clear a0 a1 a2;refine (hrs.out _ hI.out.bel).mono ?_;clear hrs;rintro e0 wk ⟨rfl,hbn⟩;replace hT:=Lib.hid ((hT.out.below hbn).alloc (.cells #[.int .i64 e1,.int .i64 e2] 64));replace hI:=Lib.hid ((hI.out.below hbn).below (below_alloc wk (.cells #[.int .i64 e1,.int .i64 e2] 64)));clear hbn;(have a0:=hI.out.a.c 0 _ rfl;have a1:=hI.out.a.c 1 _ rfl;have a2:=hI.out.a.c 2 _ rfl);(have t0:=hT.out.c 0 _ rfl;have t1:=hT.out.c 1 _ rfl))
    |(go_at_call 40;clear a0 a1 a2;refine (hrg.out _ hI.out.bel).mono ?_;clear hrg;rintro e0 wj ⟨rfl,hbn⟩;replace hI:=Lib.hid (hI.out.below hbn);clear hbn t0 t1;(have a0:=hI.out.a.c 0 _ rfl;have a1:=hI.out.a.c 1 _ rfl;have a2:=hI.out.a.c 2 _ rfl)))
   clear a0 a1 a2
   clear hT hneq
   go_loopw [5,9] (fun v i wr=>∃ (k : Nat) (z : Int),k ≤ l.length ∧ i = .int .i64 k ∧ v = .int .i64 (G + z) ∧ Hid (z = sumA (l.take k)) ∧ Hid (GpI w _ wr)) (fun _ i _=>l.length - (intOf i).toNat)
   case atStart=>exact ⟨0,0,Nat.zero_le _,rfl,by go_num,hS0,hI⟩
   case round =>
    clear hS0 hI
    obtain ⟨k,z,hk,rfl,rfl,hz,hI⟩:=hrel
    (have a0:=hI.out.a.c 0 _ rfl;have a1:=hI.out.a.c 1 _ rfl;have a2:=hI.out.a.c 2 _ rfl)
    have hb1 : ∀ m,-(20000000000000 * 60) ≤ sumA (l.take m) ∧ sumA (l.take m) ≤ 20000000000000 * 60:=fun m=>by
     have:=sumA_box (l:=l.take m) (fun p hp=>(hPl.out p (List.mem_of_mem_take hp)).2.2)
     rw [List.length_take] at this
     omega
    have hz1:=hb1 k
    rw [← hz.out] at hz1
    by_cases hlt : k < l.length
    ·have hk' : l[k]? = some l[k]:=List.getElem?_eq_getElem hlt
     have hst:=sumA_take hlt
     have hp:=hPl.out _ (List.getElem_mem hlt)
     rw [← hz.out] at hst
     clear hb1
     generalize l[k] = p at *
     obtain ⟨b,o,rfl,hbl,c0,c1⟩:=plo_at (hrows.out.below hI.out.bel) hk'
     have hPp:=Lib.hid (fun W (hb : Below w.heap.size w W)=>Area_any p.V p.d p.ps W (hp.2.1.below hb))
     rw [hp.1,if_pos rfl] at hPp
     have hgb:=hp.2.2
     generalize Cal.areaP p.ps = g at *
     have hz2 : Hid (z + g = sumA (l.take (k + 1))):=hst.symm
     clear hst hp hk' hz
     go_wp2_with (go_at_call 41;clear a0 a1 a2;refine (hPp.out _ hI.out.bel).mono ?_;rintro e0 wm ⟨rfl,hbn⟩;replace hI:=Lib.hid (hI.out.below hbn);clear hbn)
     go_roundw
     case rel=>exact ⟨k + 1,z + g,by omega,by go_num,by go_num,hz2,hI⟩
     case measure=>simp [intOf];omega
    ·obtain rfl : k = l.length:=by omega
     clear hb1
     have hzz : G + z = A:=by
      have:=hz.out
      rw [List.take_length] at this
      have:=hGs.out
      omega
     rw [hzz]
     clear hz hz1 hzz
     go_wp2_with (go_at_call 41;clear a0 a1 a2;refine (hAr.out _ hI.out.bel).mono ?_;rintro e0 wm ⟨rfl,hbn⟩;replace hI:=Lib.hid (hI.out.below hbn);clear hbn)
     go_ret
     exact ⟨by first | rfl | simp,hI.out.bel⟩
  ·obtain rfl:=hg0 h0
   have hc1 : (c == 0) = false:=by simpa using h0
   have hc2 : (c != 0) = true:=by simpa using h0
   clear hrg hnn hz hg0 hg1 hS
   go_wp2_with (first
    |(go_at_call 37;clear a0 a1 a2;refine (hcs.out _ hI.out.bel).mono ?_;clear hcs;rintro e0 wn ⟨rfl,hbn⟩;replace hI:=Lib.hid ((hI.out.below hbn).below (below_alloc wn (.cells #[.int .i64 e1,.int .i64 e2] 64)));have hT:=Lib.hid (BoxAt.new wn #[.int .i64 e1,.int .i64 e2] 64);clear hbn;(have a0:=hI.out.a.c 0 _ rfl;have a1:=hI.out.a.c 1 _ rfl;have a2:=hI.out.a.c 2 _ rfl))
    |(go_at_call 38;clear a0 a1 a2;refine (hgp.out _ hI.out.bel).mono ?_;clear hgp;rintro e0 wm ⟨rfl,hbn⟩;replace hT:=Lib.hid (hT.out.below hbn);replace hI:=Lib.hid (hI.out.below hbn);clear hbn;(have a0:=hI.out.a.c 0 _ rfl;have a1:=hI.out.a.c 1 _ rfl;have a2:=hI.out.a.c 2 _ rfl))
    |(go_at_call 39;clear a0 a1 a2;refine (hrs.out _ hI.out.bel).mono ?_;clear hrs;rintro e0 wk ⟨rfl,hbn⟩;replace hT:=Lib.hid ((hT.out.below hbn).alloc (.cells #[.int .i64 e1,.int .i64 e2] 64));replace hI:=Lib.hid ((hI.out.below hbn).below (below_alloc wk (.cells #[.int .i64 e1,.int .i64 e2] 64)));clear hbn;(have a0:=hI.out.a.c 0 _ rfl;have a1:=hI.out.a.c 1 _ rfl;have a2:=hI.out.a.c 2 _ rfl);(have t0:=hT.out.c 0 _ rfl;have t1:=hT.out.c 1 _ rfl))
    |(go_at_call 40;clear a0 a1 a2;refine (hrg.out _ hI.out.bel).mono ?_;clear hrg;rintro e0 wj ⟨rfl,hbn⟩;replace hI:=Lib.hid (hI.out.below hbn);clear hbn t0 t1;(have a0:=hI.out.a.c 0 _ rfl;have a1:=hI.out.a.c 1 _ rfl;have a2:=hI.out.a.c 2 _ rfl)))
   go_ret
   exact ⟨by first | rfl | simp,hI.out.bel⟩
end Go.Proofs.Ytfcjeejhdklkdaa
namespace Go.Proofs.Ytfcjeejhdklkdaa
open Go Go.RowKit Go.ChangeShapes Go.WideShapes Go.Deep
section
variable {H : Type} {enc : TypeId × Value → H} {w : World} {spare : Nat → Bool} {held : Bool} {r : Reach} {b0 : Nat} {v : Value} {d : DataW H} {ps : List MemPlace}
theorem pts_of_trod {fuel : Nat} {x : DataW H × List MemPlace} (hf : DataW.trod enc Try.prog w 0 spare held fuel 48 [v] = some x) :
  ∃ (A : Option Addr) (l : List Pt) (c : Nat),v = .slice A l.length c ∧ RowsAt w A 2 (l.map ptR) ∧ l.length ≤ c:=by
 obtain ⟨A,len,cap,hcs,hlen,hq⟩:=rows_of_open Try.underlying48 Try.underlying75 (by kernel_rfl) (by kernel_rfl) (by decide) hf
 have he : v = .slice A len cap:=by simpa using hcs
 subst he
 have h1 : ∀ i,i < len → ∃ p : Pt,∃ b o,A = some ⟨b,o,none⟩ ∧ b < w.heap.size ∧ ∀ j v,(ptR p)[j]? = some v → w.cell? ⟨b,o + (i * 2 + j),none⟩ = some v:=fun i hi=>by
  obtain ⟨b,o,n,hA,hb,hf⟩:=hq i hi
  obtain ⟨v0,y0,c0,t0⟩:=hf 0 _ rfl
  obtain ⟨v1,y1,c1,t1⟩:=hf 1 _ rfl
  obtain ⟨s0,e0,_,_⟩:=DataW.trod_int Try.underlying3 t0
  obtain ⟨s1,e1,_,_⟩:=DataW.trod_int Try.underlying3 t1
  cases e0;cases e1
  refine ⟨⟨s0,s1⟩,b,o,hA,hb,fun j v hv=>?_⟩
  match j,hv with
  | 0,hv=>cases hv;exact c0
  | 1,hv=>cases hv;exact c1
  | j + 2,hv=>simp [ptR] at hv
 obtain ⟨l,hl,hq'⟩:=list_of len h1
 subst hl
 refine ⟨A,l,cap,rfl,fun k r hr=>?_,hlen⟩
 rw [List.getElem?_map] at hr
 cases hk : l[k]? with
 | none=>rw [hk] at hr;cases hr
 | some p=>rw [hk] at hr;cases hr;exact hq' k p hk
theorem plots_of_trod {fuel : Nat} {x : DataW H × List MemPlace} (hf : DataW.trod enc Try.prog w 0 spare held fuel 60 [v] = some x) :
  ∃ (A : Option Addr) (l : List Plo) (c : Nat),v = .slice A l.length c ∧ RowsAt w A 2 (l.map Plo.cells) ∧ l.length ≤ c ∧ ∀ p ∈ l,RowsAt w p.V 2 (p.ps.map ptR) ∧ p.ps.length ≤ p.d ∧ p.name.size ≤ maxLen:=by
 obtain ⟨A,len,cap,hcs,hlen,hq⟩:=rows_of_open Try.underlying60 Try.underlying73 (by kernel_rfl) (by kernel_rfl) (by decide) hf
 have he : v = .slice A len cap:=by simpa using hcs
 subst he
 have h1 : ∀ i,i < len → ∃ p : Plo,(RowsAt w p.V 2 (p.ps.map ptR) ∧ p.ps.length ≤ p.d ∧ p.name.size ≤ maxLen) ∧ ∃ b o,A = some ⟨b,o,none⟩ ∧ b < w.heap.size ∧ ∀ j v,(Plo.cells p)[j]? = some v → w.cell? ⟨b,o + (i * 2 + j),none⟩ = some v:=fun i hi=>by
  obtain ⟨b,o,n,hA,hb,hf⟩:=hq i hi
  obtain ⟨v0,y0,c0,t0⟩:=hf 0 _ rfl
  obtain ⟨v1,y1,c1,t1⟩:=hf 1 _ rfl
  obtain ⟨s0,e0,_,g0⟩:=DataW.trod_string Try.underlying9 t0
  obtain ⟨V,l,k,e1,ha,hk⟩:=pts_of_trod t1
  cases e0
  subst e1
  refine ⟨⟨s0,V,k,l⟩,⟨ha,hk,g0⟩,b,o,hA,hb,fun j v hv=>?_⟩
  match j,hv with
  | 0,hv=>cases hv;exact c0
  | 1,hv=>cases hv;exact c1
  | j + 2,hv=>simp [Plo.cells] at hv
 obtain ⟨l,hl,hq'⟩:=list_of len h1
 subst hl
 refine ⟨A,l,cap,rfl,fun k r hr=>?_,hlen,fun p hp=>?_⟩
 ·rw [List.getElem?_map] at hr
  cases hk : l[k]? with
  | none=>rw [hk] at hr;cases hr
  | some p=>rw [hk] at hr;cases hr;exact (hq' k p hk).2
 ·obtain ⟨k,hk,rfl⟩:=List.getElem_of_mem hp
  exact (hq' k _ (List.getElem?_eq_getElem hk)).1
theorem sec_of_open (hval : Value.okWide Try.prog w r b0 62 v) (h : DataW.Trod enc Try.prog w 0 spare held 62 v d ps) :
  ∃ s : Sct,v = .agg #[.string s.name,.slice s.V s.ps.length s.d,.slice s.S s.l.length s.e] ∧ SctO w s:=by
 have hu:=Try.underlying62
 unfold Value.okWide at hval
 rw [hu] at hval
 obtain ⟨cs,rfl,hcs,_⟩:=hval
 obtain ⟨fuel,hf⟩:=h
 obtain ⟨m,xs,hlen,hxl,hi⟩:=trod_cells hu (by kernel_rfl) hf
 have h0:=hi 0 _ rfl
 have h1:=hi 1 _ rfl
 have h2:=hi 2 _ rfl
 rw [show Try.prog.cellsOf 62 = 3 by kernel_rfl] at hcs
 obtain ⟨l⟩:=cs
 match l,hcs with
 | [a,b,c],_ =>
  match xs,hxl with
  | [y0,y1,y2],_ =>
   simp [Value.cells] at h0 h1 h2
   obtain ⟨s0,e0,_,g0⟩:=DataW.trod_string Try.underlying9 h0
   obtain ⟨V,l1,k1,e1,ha,hk⟩:=pts_of_trod h1
   obtain ⟨S,l2,k2,e2,hb,hk2,hall⟩:=plots_of_trod h2
   cases e0
   subst e1
   subst e2
   exact ⟨⟨s0,V,k1,l1,S,k2,l2⟩,rfl,⟨g0,ha,hk,hb,hk2,hall⟩⟩
end
end Go.Proofs.Ytfcjeejhdklkdaa
