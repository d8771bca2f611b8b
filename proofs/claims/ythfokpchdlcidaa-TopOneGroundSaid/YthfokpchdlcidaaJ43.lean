/- What the statements rest on: definitions and walks, part 43. -/
import Derived.Test.YthfokpchdlcidaaJ42
set_option maxRecDepth 100000
set_option maxHeartbeats 16000000
set_option linter.unusedSimpArgs false
set_option linter.unusedVariables false
namespace Go.Proofs.Ythfokpchdlcidaa
open Go Go.RowKit Go.Shelf
theorem SctO.below {w w' : World} {s : Sct} (h : SctO w s) (hb : Below w.heap.size w w') : SctO w' s :=
 ⟨h.nm,h.rows.below hb,h.capp,h.prow.below hb,h.cap,fun p hp=>⟨(h.each p hp).1.below hb,(h.each p hp).2⟩⟩
theorem PtsR.poly {w : World} {V : Option Addr} {ps : List Pt} (h : PtsR w V ps) (h0 : Cal.polyE ps = 0) : Pts w V ps :=
 ⟨h.rows,h.size,fun p hp=>ptErr_sm ((Cal.polyE_poly h0).2.1 p hp),h.own⟩
theorem CheckPolyR2_any (V : Option Addr) (d : Nat) (ps : List Pt) (w : World) (hP : RowsAt w V 2 (ps.map ptR)) : Calls Try.prog 42 #[.slice V ps.length d] w fun e w'=>e = .returned (.int .i64 (Cal.polyR ps)) ∧ Below w.heap.size w w':=by
 by_cases hl : ps.length ≤ 1000000
 ·exact CheckPolyR_any V d ps w (ptsR_of hP hl)
 ·have hb0 : Hid (Below w.heap.size w w):=Below.refl _ _
  have hW:=Lib.hid (fun W=>Within_any (ps.length : Int) 3 40 W)
  rw [show decide ((ps.length : Int) ≤ 40) = false from by simp;omega] at hW
  rw [Bool.and_false] at hW
  have hE : Cal.polyR ps = 10:=by unfold Cal.polyR;rw [if_pos (by omega)]
  rw [hE]
  clear hE hP
  go_enter Try.func42,Try.ntmps42
  go_wp2_with (go_at_call 30;refine (hW.out _).mono ?_;rintro e _ ⟨rfl,rfl⟩)
  go_ret
  exact ⟨rfl,hb0.out⟩
theorem CheckSectionO_any (s : Sct) (w : World) (hS : SctO w s) :
  Calls Try.prog 14 #[.agg #[.string s.name,.slice s.V s.ps.length s.d,.slice s.S s.l.length s.e]] w fun e w'=>e = .returned (.tuple #[.agg #[.int .i64 (sectE s.name s.ps s.l).1,.int .i64 (sectE s.name s.ps s.l).2.1],.int .i64 (sectE s.name s.ps s.l).2.2]) ∧ Below w.heap.size w w':=by
 obtain ⟨R,hRR⟩ : ∃ R,sectE s.name s.ps s.l = R:=⟨_,rfl⟩
 rw [hRR]
 have hnm:=Lib.hid hS.nm
 replace hS:=Lib.hid hS
 obtain ⟨x1,h1⟩ : ∃ x,nameB s.name = x:=⟨_,rfl⟩
 obtain ⟨x2,h2⟩ : ∃ x,Cal.polyE s.ps = x:=⟨_,rfl⟩
 have hR : Hid (R = if x1 = true then (if x2 = 0 then (if 60 < s.l.length then (0,0,8) else sectL s.ps [] s.l) else (0,0,x2)) else (0,0,4)):=by
  show _ = _
  rw [← hRR]
  unfold sectE
  rw [h1,h2]
 clear hRR
 have hI : Hid (CsI w s ((w.alloc (.cells #[.string s.name,.slice s.V s.ps.length s.d,.slice s.S s.l.length s.e] 38)).alloc (.cells #[.int .i64 0,.int .i64 0] 41))):=by
  have b2:=BoxAt.new (w.alloc (.cells #[.string s.name,.slice s.V s.ps.length s.d,.slice s.S s.l.length s.e] 38)) #[.int .i64 0,.int .i64 0] 41
  rw [World.size_alloc] at b2
  exact ⟨(BoxAt.new w #[.string s.name,.slice s.V s.ps.length s.d,.slice s.S s.l.length s.e] 38).alloc _,b2,below_step (below_alloc _ _) (below_alloc _ _)⟩
 replace h1:=Lib.hid h1
 have hpz : Cal.polyR s.ps = x2:=(Cal.polyR_eq _).trans h2
 (have a0:=hI.out.a.c 0 _ rfl;have a1:=hI.out.a.c 1 _ rfl;have a2:=hI.out.a.c 2 _ rfl;have r0:=hI.out.r.c 0 _ rfl;have r1:=hI.out.r.c 1 _ rfl;have f0:=hI.out.r.free 0 (by simp);have f1:=hI.out.r.free 1 (by simp))
 cases x1
 ·replace h2:=Lib.hid hpz
  clear hpz
  go_enter Try.func14,Try.ntmps14
  go_wp2_with (first
   |(go_at_call 41;refine (IsName_any s.name _ hnm.out).mono ?_;rintro e0 wn ⟨rfl,rfl⟩;rw [h1.out])
   |(go_at_call 42;clear a0 a1 a2 r0 r1 f0 f1;refine (CheckPolyR2_any s.V s.d s.ps _ (hS.out.rows.below hI.out.bel)).mono ?_;rintro e0 wn ⟨rfl,hbn⟩;rw [h2.out];(replace hI:=Lib.hid (hI.out.below hbn);clear hbn;(have a0:=hI.out.a.c 0 _ rfl;have a1:=hI.out.a.c 1 _ rfl;have a2:=hI.out.a.c 2 _ rfl;have r0:=hI.out.r.c 0 _ rfl;have r1:=hI.out.r.c 1 _ rfl;have f0:=hI.out.r.free 0 (by simp);have f1:=hI.out.r.free 1 (by simp)))))
  refine bodyPost_ret (results_mid2 rfl _ _ (w.heap.size + 1) [.int .i64 0,.int .i64 0] _ rfl hI.out.r.range Try.underlying41 rfl arr2Size) rfl ⟨by rw [hR.out];rfl,?_⟩
  exact hI.out.bel
 ·by_cases z2 : x2 = 0
  ·subst z2
   by_cases h60 : 60 < s.l.length
   ·replace hR : Hid (R = (0,0,8)):=by show _ = _;rw [hR.out,if_pos rfl,if_pos rfl,if_pos h60]
    have h61 : 60 < (s.l.length : Int):=by omega
    replace h2:=Lib.hid hpz
    clear hpz
    go_enter Try.func14,Try.ntmps14
    go_wp2_with (first
     |(go_at_call 41;refine (IsName_any s.name _ hnm.out).mono ?_;rintro e0 wn ⟨rfl,rfl⟩;rw [h1.out])
     |(go_at_call 42;clear a0 a1 a2 r0 r1 f0 f1;refine (CheckPolyR2_any s.V s.d s.ps _ (hS.out.rows.below hI.out.bel)).mono ?_;rintro e0 wn ⟨rfl,hbn⟩;rw [h2.out];(replace hI:=Lib.hid (hI.out.below hbn);clear hbn;(have a0:=hI.out.a.c 0 _ rfl;have a1:=hI.out.a.c 1 _ rfl;have a2:=hI.out.a.c 2 _ rfl;have r0:=hI.out.r.c 0 _ rfl;have r1:=hI.out.r.c 1 _ rfl;have f0:=hI.out.r.free 0 (by simp);have f1:=hI.out.r.free 1 (by simp)))))
    refine bodyPost_ret (results_mid2 rfl _ _ (w.heap.size + 1) [.int .i64 (0),.int .i64 (0)] _ rfl ((hI.out.r.set 0 (.int .i64 (0)) (by simp)).set 1 (.int .i64 (0)) (by simp)).range Try.underlying41 rfl arr2Size) rfl ⟨by rw [hR.out];rfl,?_⟩
    exact (hI.out.bel.setCell (p:=⟨w.heap.size + 1,0,none⟩) (Nat.le_succ _) _).setCell (p:=⟨w.heap.size + 1,1,none⟩) (Nat.le_succ _) _
   ·replace hR : Hid (R = sectL s.ps [] s.l):=by show _ = _;rw [hR.out,if_pos rfl,if_pos rfl,if_neg h60]
    have h61 : ¬ 60 < (s.l.length : Int):=by omega
    have hz0:=Lib.hid h2
    replace h2:=Lib.hid hpz
    clear hpz
    have hR0 : Hid (R = sectL s.ps (s.l.take 0) (s.l.drop 0)):=hR
    have hok0 : Hid (∀ q ∈ s.l.take 0,Cal.polyE q.ps = 0):=fun q hq=>by cases hq
    clear hR
    go_enter Try.func14,Try.ntmps14
    go_wp2_with (first
     |(go_at_call 41;refine (IsName_any s.name _ hnm.out).mono ?_;rintro e0 wn ⟨rfl,rfl⟩;rw [h1.out])
     |(go_at_call 42;clear a0 a1 a2 r0 r1 f0 f1;refine (CheckPolyR2_any s.V s.d s.ps _ (hS.out.rows.below hI.out.bel)).mono ?_;rintro e0 wn ⟨rfl,hbn⟩;rw [h2.out];(replace hI:=Lib.hid (hI.out.below hbn);clear hbn;(have a0:=hI.out.a.c 0 _ rfl;have a1:=hI.out.a.c 1 _ rfl;have a2:=hI.out.a.c 2 _ rfl;have r0:=hI.out.r.c 0 _ rfl;have r1:=hI.out.r.c 1 _ rfl;have f0:=hI.out.r.free 0 (by simp);have f1:=hI.out.r.free 1 (by simp)))))
    clear a0 a1 a2 r0 r1 f0 f1
    go_loopw [5] (fun i wr=>∃ k : Nat,k ≤ s.l.length ∧ i = .int .i64 k ∧ Hid (R = sectL s.ps (s.l.take k) (s.l.drop k)) ∧ Hid (∀ q ∈ s.l.take k,Cal.polyE q.ps = 0) ∧ Hid (CsI w s wr)) (fun i _=>s.l.length - (intOf i).toNat)
    case atStart=>exact ⟨0,Nat.zero_le _,rfl,hR0,hok0,hI⟩
    case round =>
     clear hR0 hok0 hI
     obtain ⟨k,hk,rfl,hR,hok,hI⟩:=hrel
     by_cases hlt : k < s.l.length
     ·have hd:=sectL_drop (sec:=s.ps) hlt
      have hkk : (k : Int) < (s.l.length : Int):=by omega
      have hk' : s.l[k]? = some s.l[k]:=List.getElem?_eq_getElem hlt
      have hmem:=List.getElem_mem hlt
      have hok2:=Lib.hid (fun (h : Cal.polyE s.l[k].ps = 0) q (hq : q ∈ s.l.take (k + 1))=>show Cal.polyE q.ps = 0 by
       rw [List.take_succ_eq_append_getElem hlt] at hq
       rcases List.mem_append.1 hq with h' | h'
       ·exact hok.out q h'
       ·rw [List.mem_singleton.1 h']
        exact h)
      generalize s.l[k] = p at *
      have hlen : (s.l.take k).length = k:=by rw [List.length_take];omega
      have hR':=hR.out.trans hd
      have hE4 : Hid (nameB p.name = false → R = ((k : Int),(k : Int),4)):=fun h1=>hR'.trans (by rw [plotE_4 h1,hlen];rfl)
      have hE5 : Hid (nameB p.name = true → ((s.l.take k).any fun q=>sameN q p) = true → R = ((k : Int),(k : Int),5)):=fun h1 h2=>hR'.trans (by rw [plotE_5 h1 h2,hlen];rfl)
      have hE6 : Hid (nameB p.name = true → ((s.l.take k).any fun q=>sameN q p) = false → Cal.polyE p.ps ≠ 0 → R = ((k : Int),(k : Int),Cal.polyE p.ps)):=fun h1 h2 h3=>hR'.trans (by rw [plotE_6 h1 h2 h3,hlen,if_neg h3])
      have hE7 : Hid (nameB p.name = true → ((s.l.take k).any fun q=>sameN q p) = false → Cal.polyE p.ps = 0 → Cal.withinP p.ps s.ps = false → R = ((k : Int),(k : Int),2)):=fun h1 h2 h3 h4=>hR'.trans (by rw [plotE_7 h1 h2 h3 h4,hlen];rfl)
      have hE13 : Hid (nameB p.name = true → ((s.l.take k).any fun q=>sameN q p) = false → Cal.polyE p.ps = 0 → Cal.withinP p.ps s.ps = true → ∀ (j : Nat) (q : Plo),j < k → s.l[j]? = some q → ((s.l.take j).any (ovB p)) = false → ovB p q = true → R = ((j : Int),(k : Int),13)):=fun h1 h2 h3 h4 j q hjk hj h5 h6=>hR'.trans (by rw [plotE_13 (sec:=s.ps) (bf:=s.l.take k) h1 h2 h3 h4 (j:=j) (q:=q) (by rw [List.getElem?_take_of_lt hjk];exact hj) (by rw [List.take_take,Nat.min_eq_left (by omega)];exact h5) h6];rfl)
      have hE0 : Hid (nameB p.name = true → ((s.l.take k).any fun q=>sameN q p) = false → Cal.polyE p.ps = 0 → Cal.withinP p.ps s.ps = true → (s.l.take k).any (ovB p) = false → R = sectL s.ps (s.l.take (k + 1)) (s.l.drop (k + 1))):=fun h1 h2 h3 h4 h5=>hR'.trans (by rw [plotE_0 h1 h2 h3 h4 h5];rfl)
      have hpn:=Lib.hid ((hS.out.each _ hmem).2.2)
      have hpp:=Lib.hid ((hS.out.each _ hmem).1)
      have hpc:=Lib.hid ((hS.out.each _ hmem).2.1)
      have hpR:=Cal.polyR_eq p.ps
      obtain ⟨b,o,hSS,hbl,c0,c1⟩:=plo_at (hS.out.prow.below hI.out.bel) hk'
      have hrows:=Lib.hid (fun W (hW : Below w.heap.size w W)=>hS.out.prow.below hW)
      have hgone:=Lib.hid (fun j (hj : j < k)=>List.getElem?_eq_getElem (l:=s.l) (Nat.lt_trans hj hlt))
      clear hd hR' hR hmem hk' hlen
      have hI2:=Lib.hid (show CdI w s p k wr.heap.size ((wr.alloc (.cells #[.string p.name,.slice p.V p.ps.length p.d] 48)).alloc (.cells #[.int .i64 (k : Int),.int .i64 (k : Int)] 41)) by
       have b2:=BoxAt.new (wr.alloc (.cells #[.string p.name,.slice p.V p.ps.length p.d] 48)) #[.int .i64 (k : Int),.int .i64 (k : Int)] 41
       rw [World.size_alloc] at b2
       exact ⟨(hI.out.below (below_alloc _ _)).below (below_alloc _ _),(BoxAt.new wr #[.string p.name,.slice p.V p.ps.length p.d] 48).alloc _,b2⟩)
      have hwi:=Lib.hid (fun (h0 : Cal.polyE p.ps = 0) W (hW : Below w.heap.size w W)=>WithinR_any p.V p.d p.ps s.V s.d s.ps W (ptsR_of (hpp.out.below hW) (by have:=polyE_401 h0;omega)) hpc.out (ptsR_of (hS.out.rows.below hW) (by have:=polyE_401 hz0.out;omega)) h0 hz0.out)
      replace hwi:=Lib.hid (fun (h0 : Cal.polyE p.ps = 0) W (hW : Below w.heap.size w W)=>(within_same h0 hz0.out) ▸ hwi.out h0 W hW)
      have hov:=Lib.hid (fun (h0 : Cal.polyE p.ps = 0) (j : Nat) (q : Plo) (hjk : j < k) (hj : s.l[j]? = some q) W (hW : Below w.heap.size w W)=>by
       have hq : q ∈ s.l.take k:=by
        have : (s.l.take k)[j]? = some q:=by rw [List.getElem?_take_of_lt hjk];exact hj
        exact List.mem_of_getElem? this
       have hq0:=hok.out q hq
       have hqm:=List.mem_of_mem_take hq
       have hqP:=(ptsR_of ((hS.out.each q hqm).1.below hW) (by have:=polyE_401 hq0;omega)).poly hq0
       have hpP:=(ptsR_of (hpp.out.below hW) (by have:=polyE_401 h0;omega)).poly h0
       have:=OverlapR_any q.V q.d q.ps p.V p.d p.ps W hqP (hS.out.each q hqm).2.1 hpP hpc.out
       rw [over_same hq0 h0] at this
       exact this : ∀ (h0 : Cal.polyE p.ps = 0) (j : Nat) (q : Plo) (hjk : j < k) (hj : s.l[j]? = some q) W (hW : Below w.heap.size w W),Calls Try.prog 44 #[.slice q.V q.ps.length q.d,.slice p.V p.ps.length p.d] W fun e w'=>e = .returned (.bool (ovB p q)) ∧ Below W.heap.size W w')
      obtain ⟨y1,g1⟩ : ∃ x,nameB p.name = x:=⟨_,rfl⟩
      have hch:=Lib.hid (fun W (hW : Below w.heap.size w W)=>CheckPolyR2_any p.V p.d p.ps W (hpp.out.below hW))
      rw [hpR] at hch
      rw [g1] at hE4 hE5 hE6 hE7 hE13 hE0
      replace g1:=Lib.hid g1
      generalize Cal.polyE p.ps = y3 at *
      generalize Cal.withinP p.ps s.ps = y4 at *
      clear hz0 hS hpR hok hpc hpp
      obtain ⟨nm,V,d,ps,S,e,l⟩:=s
      dsimp only at *
      obtain rfl:=hSS
      (have a0:=hI.out.a.c 0 _ rfl;have a1:=hI.out.a.c 1 _ rfl;have a2:=hI.out.a.c 2 _ rfl;have r0:=hI.out.r.c 0 _ rfl;have r1:=hI.out.r.c 1 _ rfl;have f0:=hI.out.r.free 0 (by simp);have f1:=hI.out.r.free 1 (by simp))
      cases y1
      ·have hR:=Lib.hid (hE4.out rfl)
       clear hE4 hE5 hE6 hE7 hE13 hE0 hwi hov hch
       go_wp2_with (go_at_call 41;clear a0 a1 a2 r0 r1 f0 f1;replace hI:=hI2;clear hI2;(have a0:=hI.out.cs.a.c 0 _ rfl;have a1:=hI.out.cs.a.c 1 _ rfl;have a2:=hI.out.cs.a.c 2 _ rfl;have r0:=hI.out.cs.r.c 0 _ rfl;have r1:=hI.out.cs.r.c 1 _ rfl;have f0:=hI.out.cs.r.free 0 (by simp);have f1:=hI.out.cs.r.free 1 (by simp);have p0:=hI.out.b6.c 0 _ rfl;have p1:=hI.out.b6.c 1 _ rfl;have k0:=hI.out.b7.c 0 _ rfl;have k1:=hI.out.b7.c 1 _ rfl);refine (IsName_any p.name _ hpn.out).mono ?_;rintro e0 wn ⟨rfl,rfl⟩;rw [g1.out])
       refine bodyPost_ret (results_mid2 rfl _ _ (w.heap.size + 1) [.int .i64 ((k : Int)),.int .i64 ((k : Int))] _ rfl ((hI.out.cs.r.set 0 (.int .i64 ((k : Int))) (by simp)).set 1 (.int .i64 ((k : Int))) (by simp)).range Try.underlying41 rfl arr2Size) rfl ⟨by rw [hR.out];rfl,?_⟩
       exact (hI.out.cs.bel.setCell (p:=⟨w.heap.size + 1,0,none⟩) (Nat.le_succ _) _).setCell (p:=⟨w.heap.size + 1,1,none⟩) (Nat.le_succ _) _
      ·replace hE5:=Lib.hid (hE5.out rfl)
       replace hE6:=Lib.hid (hE6.out rfl)
       replace hE7:=Lib.hid (hE7.out rfl)
       replace hE13:=Lib.hid (hE13.out rfl)
       replace hE0:=Lib.hid (hE0.out rfl)
       clear hE4
       go_wp2_with (go_at_call 41;clear a0 a1 a2 r0 r1 f0 f1;replace hI:=hI2;clear hI2 c0 c1 hbl;refine (IsName_any p.name _ hpn.out).mono ?_;rintro e0 wn ⟨rfl,rfl⟩;rw [g1.out])
       have hno0 : Hid (((l.take 0).any fun q=>sameN q p) = false):=rfl
       generalize hwx : (wr.alloc (.cells #[.string p.name,.slice p.V p.ps.length p.d] 48)).alloc (.cells #[.int .i64 (k : Int),.int .i64 (k : Int)] 41) = wx at *
       generalize wr.heap.size = B at *
       clear hwx wr
       go_loopw [8] (fun jv wr=>∃ j : Nat,j ≤ k ∧ jv = .int .i64 j ∧ Hid (((l.take j).any fun q=>sameN q p) = false) ∧ Hid (CdI w _ p k B wr)) (fun jv _=>k - (intOf jv).toNat)
       case atStart=>exact ⟨0,Nat.zero_le _,rfl,hno0,hI⟩
       case round =>
        clear hno0 hI
        obtain ⟨j,hj,rfl,hno,hI⟩:=hrel
        by_cases hlj : j < k
        ·have hjl : (j : Int) < (l.length : Int):=by omega
         have hjk : (j : Int) < (k : Int):=by omega
         have hq:=hgone.out j hlj
         generalize l[j] = q at *
         obtain ⟨b',o',hSS,_,d0,d1⟩:=plo_at (hrows.out _ hI.out.cs.bel) hq
         cases hSS
         (have a0:=hI.out.cs.a.c 0 _ rfl;have a1:=hI.out.cs.a.c 1 _ rfl;have a2:=hI.out.cs.a.c 2 _ rfl;have r0:=hI.out.cs.r.c 0 _ rfl;have r1:=hI.out.cs.r.c 1 _ rfl;have f0:=hI.out.cs.r.free 0 (by simp);have f1:=hI.out.cs.r.free 1 (by simp);have p0:=hI.out.b6.c 0 _ rfl;have p1:=hI.out.b6.c 1 _ rfl;have k0:=hI.out.b7.c 0 _ rfl;have k1:=hI.out.b7.c 1 _ rfl)
         cases hs : sameN q p
         ·have hnx : Hid (((l.take (j + 1)).any fun q=>sameN q p) = false):=any_take_succ hq hno.out hs
          unfold sameN at hs
          clear hq d1
          go_wp2_with fail
          refine wp_region_held_drew (S:=Sx wr [(w.heap.size,2,.slice (some ⟨b,o,none⟩) l.length e),(b,o + j * 2,.string q.name),(B,0,.string p.name)]) (by kernel_rfl) (Sx.mk (by simp only [cs_iff_cons];exact ⟨a2,d0,p0,cs_nil _⟩) (Below.refl _ _)).drew (fun hHeld=>?_)
          clear a0 a1 a2 r0 r1 f0 f1 p0 p1 k0 k1
          clear d0
          refine tkHx 0 53 ?_
          refine tkHx 1 54 ?_
          refine tkHx 2 55 ?_
          refine tkHx 3 56 ?_
          refine tkHx 4 57 ?_
          refine tkHx 5 58 ?_
          refine tkHx 6 59 ?_
          refine tkHx 7 60 ?_
          refine tkHx 8 61 ?_
          refine wpAnyH_done (by kernel_rfl) ?_ _
          (try simp only [apS,apN,siA,scZ,scS])
          replace hI:=Lib.hid (hI.out.below hHeld.bel)
          clear hHeld
          go_wp2_with fail
          go_roundw
          case rel=>exact ⟨j + 1,by omega,by go_num,hnx,hI⟩
          case measure=>simp [intOf];omega
         ·have hR:=Lib.hid (hE5.out (any_take_hit hq hlj hs))
          unfold sameN at hs
          clear hq d1 hE5 hE6 hE7 hE13 hE0 hwi hov hch
          go_wp2_with fail
          refine wp_region_held_drew (S:=Sx wr [(w.heap.size,2,.slice (some ⟨b,o,none⟩) l.length e),(b,o + j * 2,.string q.name),(B,0,.string p.name)]) (by kernel_rfl) (Sx.mk (by simp only [cs_iff_cons];exact ⟨a2,d0,p0,cs_nil _⟩) (Below.refl _ _)).drew (fun hHeld=>?_)
          clear a0 a1 a2 r0 r1 f0 f1 p0 p1 k0 k1
          clear d0
          refine tkHx 0 53 ?_
          refine tkHx 1 54 ?_
          refine tkHx 2 55 ?_
          refine tkHx 3 56 ?_
          refine tkHx 4 57 ?_
          refine tkHx 5 58 ?_
          refine tkHx 6 59 ?_
          refine tkHx 7 60 ?_
          refine tkHx 8 61 ?_
          refine wpAnyH_done (by kernel_rfl) ?_ _
          (try simp only [apS,apN,siA,scZ,scS])
          replace hI:=Lib.hid (hI.out.below hHeld.bel)
          clear hHeld
          generalize hwd : wr.drew = wd at *
          clear hwd
          (have a0:=hI.out.cs.a.c 0 _ rfl;have a1:=hI.out.cs.a.c 1 _ rfl;have a2:=hI.out.cs.a.c 2 _ rfl;have r0:=hI.out.cs.r.c 0 _ rfl;have r1:=hI.out.cs.r.c 1 _ rfl;have f0:=hI.out.cs.r.free 0 (by simp);have f1:=hI.out.cs.r.free 1 (by simp);have p0:=hI.out.b6.c 0 _ rfl;have p1:=hI.out.b6.c 1 _ rfl;have k0:=hI.out.b7.c 0 _ rfl;have k1:=hI.out.b7.c 1 _ rfl)
          go_wp2_with fail
          refine bodyPost_ret (results_mid2 rfl _ _ (w.heap.size + 1) [.int .i64 ((k : Int)),.int .i64 ((k : Int))] _ rfl ((hI.out.cs.r.set 0 (.int .i64 ((k : Int))) (by simp)).set 1 (.int .i64 ((k : Int))) (by simp)).range Try.underlying41 rfl arr2Size) rfl ⟨by rw [hR.out];rfl,?_⟩
          exact (hI.out.cs.bel.setCell (p:=⟨w.heap.size + 1,0,none⟩) (Nat.le_succ _) _).setCell (p:=⟨w.heap.size + 1,1,none⟩) (Nat.le_succ _) _
        ·obtain rfl : j = k:=by omega
         replace hE6:=Lib.hid (hE6.out hno.out)
         replace hE7:=Lib.hid (hE7.out hno.out)
         replace hE13:=Lib.hid (hE13.out hno.out)
         replace hE0:=Lib.hid (hE0.out hno.out)
         clear hno hE5
         (have a0:=hI.out.cs.a.c 0 _ rfl;have a1:=hI.out.cs.a.c 1 _ rfl;have a2:=hI.out.cs.a.c 2 _ rfl;have r0:=hI.out.cs.r.c 0 _ rfl;have r1:=hI.out.cs.r.c 1 _ rfl;have f0:=hI.out.cs.r.free 0 (by simp);have f1:=hI.out.cs.r.free 1 (by simp);have p0:=hI.out.b6.c 0 _ rfl;have p1:=hI.out.b6.c 1 _ rfl;have k0:=hI.out.b7.c 0 _ rfl;have k1:=hI.out.b7.c 1 _ rfl)
         by_cases z3 : y3 = 0
         ·subst z3
          replace hE7:=Lib.hid (hE7.out rfl)
          replace hE13:=Lib.hid (hE13.out rfl)
          replace hE0:=Lib.hid (hE0.out rfl)
          replace hwi:=Lib.hid (hwi.out rfl)
          replace hov:=Lib.hid (hov.out rfl)
          replace hok2:=Lib.hid (hok2.out rfl)
          clear hE6
          cases y4
          ·have hR:=Lib.hid (hE7.out rfl)
           clear hE7 hE13 hE0 hov
           go_wp2_with (first
            |(go_at_call 42;clear a0 a1 a2 r0 r1 f0 f1 p0 p1 k0 k1;refine (hch.out _ hI.out.cs.bel).mono ?_;clear hch;rintro e0 wn ⟨rfl,hbn⟩;(replace hI:=Lib.hid (hI.out.below hbn);clear hbn;(have a0:=hI.out.cs.a.c 0 _ rfl;have a1:=hI.out.cs.a.c 1 _ rfl;have a2:=hI.out.cs.a.c 2 _ rfl;have r0:=hI.out.cs.r.c 0 _ rfl;have r1:=hI.out.cs.r.c 1 _ rfl;have f0:=hI.out.cs.r.free 0 (by simp);have f1:=hI.out.cs.r.free 1 (by simp);have p0:=hI.out.b6.c 0 _ rfl;have p1:=hI.out.b6.c 1 _ rfl;have k0:=hI.out.b7.c 0 _ rfl;have k1:=hI.out.b7.c 1 _ rfl)))
            |(go_at_call 43;clear a0 a1 a2 r0 r1 f0 f1 p0 p1 k0 k1;refine (hwi.out _ hI.out.cs.bel).mono ?_;clear hwi;rintro e0 wn ⟨rfl,hbn⟩;(replace hI:=Lib.hid (hI.out.below hbn);clear hbn;(have a0:=hI.out.cs.a.c 0 _ rfl;have a1:=hI.out.cs.a.c 1 _ rfl;have a2:=hI.out.cs.a.c 2 _ rfl;have r0:=hI.out.cs.r.c 0 _ rfl;have r1:=hI.out.cs.r.c 1 _ rfl;have f0:=hI.out.cs.r.free 0 (by simp);have f1:=hI.out.cs.r.free 1 (by simp);have p0:=hI.out.b6.c 0 _ rfl;have p1:=hI.out.b6.c 1 _ rfl;have k0:=hI.out.b7.c 0 _ rfl;have k1:=hI.out.b7.c 1 _ rfl))))
           refine bodyPost_ret (results_mid2 rfl _ _ (w.heap.size + 1) [.int .i64 ((j : Int)),.int .i64 ((j : Int))] _ rfl ((hI.out.cs.r.set 0 (.int .i64 ((j : Int))) (by simp)).set 1 (.int .i64 ((j : Int))) (by simp)).range Try.underlying41 rfl arr2Size) rfl ⟨by rw [hR.out];rfl,?_⟩
           exact (hI.out.cs.bel.setCell (p:=⟨w.heap.size + 1,0,none⟩) (Nat.le_succ _) _).setCell (p:=⟨w.heap.size + 1,1,none⟩) (Nat.le_succ _) _
          ·replace hE13:=Lib.hid (hE13.out rfl)
           replace hE0:=Lib.hid (hE0.out rfl)
           clear hE7
           have hno0 : Hid ((l.take 0).any (ovB p) = false):=rfl
           go_wp2_with (first
            |(go_at_call 42;clear a0 a1 a2 r0 r1 f0 f1 p0 p1 k0 k1;refine (hch.out _ hI.out.cs.bel).mono ?_;clear hch;rintro e0 wn ⟨rfl,hbn⟩;(replace hI:=Lib.hid (hI.out.below hbn);clear hbn;(have a0:=hI.out.cs.a.c 0 _ rfl;have a1:=hI.out.cs.a.c 1 _ rfl;have a2:=hI.out.cs.a.c 2 _ rfl;have r0:=hI.out.cs.r.c 0 _ rfl;have r1:=hI.out.cs.r.c 1 _ rfl;have f0:=hI.out.cs.r.free 0 (by simp);have f1:=hI.out.cs.r.free 1 (by simp);have p0:=hI.out.b6.c 0 _ rfl;have p1:=hI.out.b6.c 1 _ rfl;have k0:=hI.out.b7.c 0 _ rfl;have k1:=hI.out.b7.c 1 _ rfl)))
            |(go_at_call 43;clear a0 a1 a2 r0 r1 f0 f1 p0 p1 k0 k1;refine (hwi.out _ hI.out.cs.bel).mono ?_;clear hwi;rintro e0 wn ⟨rfl,hbn⟩;replace hI:=Lib.hid (hI.out.below hbn);clear hbn))
           go_loopw [10] (fun jv wr=>∃ i : Nat,i ≤ j ∧ jv = .int .i64 i ∧ Hid ((l.take i).any (ovB p) = false) ∧ Hid (CdI w _ p j B wr)) (fun jv _=>j - (intOf jv).toNat)
           case atStart=>exact ⟨0,Nat.zero_le _,rfl,hno0,hI⟩
           case round =>
            clear hno0 hI
            obtain ⟨i,hi,rfl,hno,hI⟩:=hrel
            by_cases hli : i < j
            ·have hil : (i : Int) < (l.length : Int):=by omega
             have hij : (i : Int) < (j : Int):=by omega
             have hq:=hgone.out i hli
             generalize l[i] = q at *
             obtain ⟨b',o',hSS,_,d0,d1⟩:=plo_at (hrows.out _ hI.out.cs.bel) hq
             cases hSS
             have hbT:=Lib.hid hI.out.cs.bel
             have hovq:=Lib.hid (hov.out i q hli hq)
             have hhit:=Lib.hid (hE13.out i q hli hq hno.out)
             (have a0:=hI.out.cs.a.c 0 _ rfl;have a1:=hI.out.cs.a.c 1 _ rfl;have a2:=hI.out.cs.a.c 2 _ rfl;have r0:=hI.out.cs.r.c 0 _ rfl;have r1:=hI.out.cs.r.c 1 _ rfl;have f0:=hI.out.cs.r.free 0 (by simp);have f1:=hI.out.cs.r.free 1 (by simp);have p0:=hI.out.b6.c 0 _ rfl;have p1:=hI.out.b6.c 1 _ rfl;have k0:=hI.out.b7.c 0 _ rfl;have k1:=hI.out.b7.c 1 _ rfl)
             cases hs : ovB p q
             ·have hnx : Hid ((l.take (i + 1)).any (ovB p) = false):=any_take_succ hq hno.out hs
              rw [hs] at hovq
              clear hq d0 hhit hs
              go_wp2_with fail
              refine wp_region_held_drew (S:=Sx wr [(w.heap.size,2,.slice (some ⟨b,o,none⟩) l.length e),(b,o + i * 2 + 1,.slice q.V q.ps.length q.d),(B,1,.slice p.V p.ps.length p.d)]) (by kernel_rfl) (Sx.mk (by simp only [cs_iff_cons];exact ⟨a2,d1,p1,cs_nil _⟩) (Below.refl _ _)).drew (fun hHeld=>?_)
              clear a0 a1 a2 r0 r1 f0 f1 p0 p1 k0 k1
              clear d1
              refine tkHx 0 82 ?_
              refine tkHx 1 83 ?_
              refine tkHx 2 84 ?_
              refine tkHx 3 85 ?_
              refine tkHx 4 86 ?_
              refine tkHx 5 87 ?_
              refine tkHx 6 88 ?_
              refine tkHx 7 89 ?_
              (refine ratHx 8 (fun K hK=>?_);go_simp)
              refine (hovq.out _ (hbT.out.trans (hHeld.bel.mono hbT.out.size))).mono ?_
              rintro e wn ⟨rfl,hbn⟩
              go_simp
              (refine hK.out _ _ (hHeld.step hbn) (fun hHeld=>?_);clear hK K;(try simp only [apS,apN,siA,scZ,scS]))
              refine wpAnyH_done (by kernel_rfl) ?_ _
              (try simp only [apS,apN,siA,scZ,scS])
              replace hI:=Lib.hid (hI.out.below hHeld.bel)
              clear hHeld
              go_wp2_with fail
              go_roundw
              case rel=>exact ⟨i + 1,by omega,by go_num,hnx,hI⟩
              case measure=>simp [intOf];omega
             ·have hR:=Lib.hid (hhit.out hs)
              rw [hs] at hovq
              clear hq d0 hhit hs
              go_wp2_with fail
              refine wp_region_held_drew (S:=Sx wr [(w.heap.size,2,.slice (some ⟨b,o,none⟩) l.length e),(b,o + i * 2 + 1,.slice q.V q.ps.length q.d),(B,1,.slice p.V p.ps.length p.d)]) (by kernel_rfl) (Sx.mk (by simp only [cs_iff_cons];exact ⟨a2,d1,p1,cs_nil _⟩) (Below.refl _ _)).drew (fun hHeld=>?_)
              clear a0 a1 a2 r0 r1 f0 f1 p0 p1 k0 k1
              clear d1
              refine tkHx 0 82 ?_
              refine tkHx 1 83 ?_
              refine tkHx 2 84 ?_
              refine tkHx 3 85 ?_
              refine tkHx 4 86 ?_
              refine tkHx 5 87 ?_
              refine tkHx 6 88 ?_
              refine tkHx 7 89 ?_
              (refine ratHx 8 (fun K hK=>?_);go_simp)
              refine (hovq.out _ (hbT.out.trans (hHeld.bel.mono hbT.out.size))).mono ?_
              rintro e wn ⟨rfl,hbn⟩
              go_simp
              (refine hK.out _ _ (hHeld.step hbn) (fun hHeld=>?_);clear hK K;(try simp only [apS,apN,siA,scZ,scS]))
              refine wpAnyH_done (by kernel_rfl) ?_ _
              (try simp only [apS,apN,siA,scZ,scS])
              replace hI:=Lib.hid (hI.out.below hHeld.bel)
              clear hHeld
              (have a0:=hI.out.cs.a.c 0 _ rfl;have a1:=hI.out.cs.a.c 1 _ rfl;have a2:=hI.out.cs.a.c 2 _ rfl;have r0:=hI.out.cs.r.c 0 _ rfl;have r1:=hI.out.cs.r.c 1 _ rfl;have f0:=hI.out.cs.r.free 0 (by simp);have f1:=hI.out.cs.r.free 1 (by simp);have p0:=hI.out.b6.c 0 _ rfl;have p1:=hI.out.b6.c 1 _ rfl;have k0:=hI.out.b7.c 0 _ rfl;have k1:=hI.out.b7.c 1 _ rfl)
              go_wp2_with fail
              refine bodyPost_ret (results_mid2 rfl _ _ (w.heap.size + 1) [.int .i64 ((i : Int)),.int .i64 ((j : Int))] _ rfl ((hI.out.cs.r.set 0 (.int .i64 ((i : Int))) (by simp)).set 1 (.int .i64 ((j : Int))) (by simp)).range Try.underlying41 rfl arr2Size) rfl ⟨by rw [hR.out];rfl,?_⟩
              exact (hI.out.cs.bel.setCell (p:=⟨w.heap.size + 1,0,none⟩) (Nat.le_succ _) _).setCell (p:=⟨w.heap.size + 1,1,none⟩) (Nat.le_succ _) _
            ·obtain rfl : i = j:=by omega
             have hR2:=Lib.hid (hE0.out hno.out)
             go_wp2_with fail
             go_roundw
             case rel=>exact ⟨i + 1,by omega,by go_num,hR2,hok2,Lib.hid hI.out.cs⟩
             case measure=>simp [intOf];omega
         ·have hR:=Lib.hid (hE6.out z3)
          clear hE6 hE7 hE13 hE0 hwi hov hok2
          go_wp2_with (go_at_call 42;clear a0 a1 a2 r0 r1 f0 f1 p0 p1 k0 k1;refine (hch.out _ hI.out.cs.bel).mono ?_;clear hch;rintro e0 wn ⟨rfl,hbn⟩;(replace hI:=Lib.hid (hI.out.below hbn);clear hbn;(have a0:=hI.out.cs.a.c 0 _ rfl;have a1:=hI.out.cs.a.c 1 _ rfl;have a2:=hI.out.cs.a.c 2 _ rfl;have r0:=hI.out.cs.r.c 0 _ rfl;have r1:=hI.out.cs.r.c 1 _ rfl;have f0:=hI.out.cs.r.free 0 (by simp);have f1:=hI.out.cs.r.free 1 (by simp);have p0:=hI.out.b6.c 0 _ rfl;have p1:=hI.out.b6.c 1 _ rfl;have k0:=hI.out.b7.c 0 _ rfl;have k1:=hI.out.b7.c 1 _ rfl)))
          refine bodyPost_ret (results_mid2 rfl _ _ (w.heap.size + 1) [.int .i64 ((j : Int)),.int .i64 ((j : Int))] _ rfl ((hI.out.cs.r.set 0 (.int .i64 ((j : Int))) (by simp)).set 1 (.int .i64 ((j : Int))) (by simp)).range Try.underlying41 rfl arr2Size) rfl ⟨by rw [hR.out];rfl,?_⟩
          exact (hI.out.cs.bel.setCell (p:=⟨w.heap.size + 1,0,none⟩) (Nat.le_succ _) _).setCell (p:=⟨w.heap.size + 1,1,none⟩) (Nat.le_succ _) _
     ·obtain rfl : k = s.l.length:=by omega
      replace hR : Hid (R = (0,0,0)):=by show _ = _;rw [hR.out,List.drop_length];rfl
      clear hok
      (have a0:=hI.out.a.c 0 _ rfl;have a1:=hI.out.a.c 1 _ rfl;have a2:=hI.out.a.c 2 _ rfl;have r0:=hI.out.r.c 0 _ rfl;have r1:=hI.out.r.c 1 _ rfl;have f0:=hI.out.r.free 0 (by simp);have f1:=hI.out.r.free 1 (by simp))
      go_wp2_with fail
      refine bodyPost_ret (results_mid2 rfl _ _ (w.heap.size + 1) [.int .i64 (0),.int .i64 (0)] _ rfl ((hI.out.r.set 0 (.int .i64 (0)) (by simp)).set 1 (.int .i64 (0)) (by simp)).range Try.underlying41 rfl arr2Size) rfl ⟨by rw [hR.out];rfl,?_⟩
      exact (hI.out.bel.setCell (p:=⟨w.heap.size + 1,0,none⟩) (Nat.le_succ _) _).setCell (p:=⟨w.heap.size + 1,1,none⟩) (Nat.le_succ _) _
  ·replace hR : Hid (R = (0,0,x2)):=by show _ = _;rw [hR.out,if_pos rfl,if_neg z2]
   replace h2:=Lib.hid hpz
   clear hpz
   go_enter Try.func14,Try.ntmps14
   go_wp2_with (first
    |(go_at_call 41;refine (IsName_any s.name _ hnm.out).mono ?_;rintro e0 wn ⟨rfl,rfl⟩;rw [h1.out])
    |(go_at_call 42;clear a0 a1 a2 r0 r1 f0 f1;refine (CheckPolyR2_any s.V s.d s.ps _ (hS.out.rows.below hI.out.bel)).mono ?_;rintro e0 wn ⟨rfl,hbn⟩;rw [h2.out];(replace hI:=Lib.hid (hI.out.below hbn);clear hbn;(have a0:=hI.out.a.c 0 _ rfl;have a1:=hI.out.a.c 1 _ rfl;have a2:=hI.out.a.c 2 _ rfl;have r0:=hI.out.r.c 0 _ rfl;have r1:=hI.out.r.c 1 _ rfl;have f0:=hI.out.r.free 0 (by simp);have f1:=hI.out.r.free 1 (by simp)))))
   refine bodyPost_ret (results_mid2 rfl _ _ (w.heap.size + 1) [.int .i64 (0),.int .i64 (0)] _ rfl ((hI.out.r.set 0 (.int .i64 (0)) (by simp)).set 1 (.int .i64 (0)) (by simp)).range Try.underlying41 rfl arr2Size) rfl ⟨by rw [hR.out];rfl,?_⟩
   exact (hI.out.bel.setCell (p:=⟨w.heap.size + 1,0,none⟩) (Nat.le_succ _) _).setCell (p:=⟨w.heap.size + 1,1,none⟩) (Nat.le_succ _) _
end Go.Proofs.Ythfokpchdlcidaa
namespace Go.Proofs.Ythfokpchdlcidaa
open Go Go.RowKit Go.Shelf
theorem smP_of {q : Pt} (h : Cal.ptErr q = 0) : SmP q:=by
 unfold Cal.ptErr at h
 split at h
 ·cases h
 ·refine ⟨?_,?_,?_,?_⟩ <;> omega
def whE (ps : List Pt) (q : Pt) : Int:=if Cal.polyE ps = 0 then Cal.ptErr q else Cal.polyE ps
theorem Where_any (V : Option Addr) (d : Nat) (ps : List Pt) (q : Pt) (w : World) (hP : PtsR w V ps) :
  Calls Try.prog 17 #[.slice V ps.length d,.agg #[.int .i64 q.x,.int .i64 q.y]] w fun e w'=>e = .returned (.tuple #[.int .i64 (if whE ps q = 0 then Cal.whereP ps q else 0),.int .i64 (whE ps q)]) ∧ Below w.heap.size w w':=by
 have hb0:=Lib.hid (below_alloc w (.cells #[.int .i64 q.x,.int .i64 q.y] 40))
 have hQ0:=Lib.hid (BoxAt.new w #[.int .i64 q.x,.int .i64 q.y] 40)
 have hck:=Lib.hid (fun W (hb : Below w.heap.size w W)=>CheckPolygon_any V d ps W (hP.below hb))
 have hpt:=Lib.hid (fun W=>checkPoint_any q W)
 unfold whE
 by_cases h0 : Cal.polyE ps = 0
 ·rw [if_pos h0]
  have hV:=hP.ptsV h0
  rw [h0] at hck
  by_cases h1 : Cal.ptErr q = 0
  ·have hwh:=Lib.hid (fun W (hb : Below w.heap.size w W)=>where_any V d ps q W (hV.pts.below hb) (smP_of h1))
   rw [if_pos h1,h1]
   rw [h1] at hpt
   clear hV hP h0 h1
   generalize Cal.whereP ps q = R at *
   have d0:=hQ0.out.c 0 _ rfl
   have d1:=hQ0.out.c 1 _ rfl
   go_enter Try.func17,Try.ntmps17
   go_wp2_with (first
    |(go_at_call 46;refine (hck.out _ hb0.out).mono ?_;rintro e w1 ⟨rfl,hb1⟩;replace hQ0:=Lib.hid (hQ0.out.below hb1);replace hb0:=Lib.hid (below_step hb0.out hb1);clear hb1 hck d0 d1;have d0:=hQ0.out.c 0 _ rfl;have d1:=hQ0.out.c 1 _ rfl)
    |(go_at_call 47;refine (hpt.out _).mono ?_;rintro e w2 ⟨rfl,hb2⟩;replace hQ0:=Lib.hid (hQ0.out.below hb2);replace hb0:=Lib.hid (below_step hb0.out hb2);clear hb2 hpt d0 d1;have d0:=hQ0.out.c 0 _ rfl;have d1:=hQ0.out.c 1 _ rfl)
    |(go_at_call 48;refine (hwh.out _ hb0.out).mono ?_;rintro e w3 ⟨rfl,hb3⟩;replace hb0:=Lib.hid (below_step hb0.out hb3);clear hb3 hwh))
   go_ret2
   exact ⟨rfl,hb0.out⟩
  ·have he1 : (Cal.ptErr q == 0) = false:=by simpa using h1
   have he2 : (Cal.ptErr q != 0) = true:=by simpa using h1
   rw [if_neg h1]
   clear hV hP h0
   generalize Cal.ptErr q = E at *
   have d0:=hQ0.out.c 0 _ rfl
   have d1:=hQ0.out.c 1 _ rfl
   go_enter Try.func17,Try.ntmps17
   go_wp2_with (first
    |(go_at_call 46;refine (hck.out _ hb0.out).mono ?_;rintro e w1 ⟨rfl,hb1⟩;replace hQ0:=Lib.hid (hQ0.out.below hb1);replace hb0:=Lib.hid (below_step hb0.out hb1);clear hb1 hck d0 d1;have d0:=hQ0.out.c 0 _ rfl;have d1:=hQ0.out.c 1 _ rfl)
    |(go_at_call 47;refine (hpt.out _).mono ?_;rintro e w2 ⟨rfl,hb2⟩;replace hb0:=Lib.hid (below_step hb0.out hb2);clear hb2 hpt d0 d1))
   go_ret2
   exact ⟨rfl,hb0.out⟩
 ·have he1 : (Cal.polyE ps == 0) = false:=by simpa using h0
  have he2 : (Cal.polyE ps != 0) = true:=by simpa using h0
  rw [if_neg h0,if_neg h0]
  clear hP
  generalize Cal.polyE ps = E at *
  go_enter Try.func17,Try.ntmps17
  go_wp2_with (go_at_call 46;refine (hck.out _ hb0.out).mono ?_;rintro e w1 ⟨rfl,hb1⟩;replace hb0:=Lib.hid (below_step hb0.out hb1);clear hb1 hck)
  go_ret2
  exact ⟨rfl,hb0.out⟩
end Go.Proofs.Ythfokpchdlcidaa
namespace Go.Proofs.Ythfokpchdlcidaa
open Go Go.RowKit Go.Shelf
theorem IndexPl3_any (g : Plo → Bool) (S : Option Addr) (e : Nat) (l : List Plo) (B : Nat) (w : World) (h : RowsAt w S 2 (l.map Plo.cells)) (hs : l.length ≤ 1000000)
  (hf : ∀ (q : Plo) (W : World),q ∈ l → Below w.heap.size w W → Calls Try.prog 52 #[.agg #[.string q.name,.slice q.V q.ps.length q.d],.pointer (some ⟨B,0,none⟩)] W fun e w'=>e = .returned (.bool (g q)) ∧ Below W.heap.size W w') :
  Calls Try.prog 51 #[.slice S l.length e,.func (.func 52) #[] #[.pointer (some ⟨B,0,none⟩)]] w fun en w'=>en = .returned (.int .i64 (idxP g l)) ∧ Below w.heap.size w w':=by
 have h':=Lib.hid h
 replace hf:=Lib.hid hf
 have hinit : Hid ((l.take 0).any g = false):=rfl
 have hb0:=Lib.hid (Below.refl w.heap.size w)
 clear h
 go_enter Try.func51,Try.ntmps51
 go_wp2_with fail
 go_loopw [8] (fun i wr=>∃ k : Nat,k ≤ l.length ∧ i = .int .i64 k ∧ Hid ((l.take k).any g = false) ∧ Hid (Below w.heap.size w wr)) (fun i _=>l.length - (intOf i).toNat)
 case atStart=>exact ⟨0,Nat.zero_le _,rfl,hinit,hb0⟩
 case round =>
  clear hb0
  obtain ⟨k,hk,rfl,hall,hb⟩:=hrel
  clear hinit
  by_cases hlt : k < l.length
  ·have hk' : l[k]? = some l[k]:=List.getElem?_eq_getElem hlt
   obtain ⟨b,o,rfl,hbl,e0,e1⟩:=plo_at (h'.out.below hb.out) hk'
   have htk:=Lib.hid (List.take_succ_eq_append_getElem hlt)
   have hmem : Hid (l[k] ∈ l):=List.getElem_mem hlt
   have hkk:=Lib.hid hk'
   clear hk'
   generalize l[k] = s at *
   cases hin : g s
   ·have hnx : Hid ((l.take (k + 1)).any g = false):=by show _ = _;rw [htk.out,List.any_append,hall.out];simpa using hin
    have hin:=Lib.hid hin
    go_wp2_with (go_at_call 52;refine (hf.out s _ hmem.out hb.out).mono ?_;rintro e w' ⟨rfl,hbn⟩;rw [hin.out];have hb:=Lib.hid (below_step hb.out hbn);clear hbn)
    go_roundw
    case rel=>exact ⟨k + 1,by omega,by go_num,hnx,hb⟩
    case measure=>simp [intOf];omega
   ·have hfin : Hid (idxP g l = k):=idxP_at hkk.out hall.out hin
    have hin:=Lib.hid hin
    go_wp2_with (go_at_call 52;refine (hf.out s _ hmem.out hb.out).mono ?_;rintro e w' ⟨rfl,hbn⟩;rw [hin.out];have hb:=Lib.hid (below_step hb.out hbn);clear hbn)
    go_ret
    exact ⟨ret_int hfin.out.symm,hb.out⟩
  ·have hfin : Hid (idxP g l = -1):=by
    have h:=hall.out
    rw [List.take_of_length_le (by omega)] at h
    exact idxP_no h
   have hge : l.length = k:=by omega
   clear hall
   go_wp2_with fail
   go_ret
   exact ⟨ret_int hfin.out.symm,hb.out⟩
def atB (q : Pt) (p : Plo) : Bool:=decide (0 ≤ Cal.whereP p.ps q)
theorem PlotAt1_any (p : Plo) (q : Pt) (B : Nat) (w : World) (h : BoxAt w B [.int .i64 q.x,.int .i64 q.y]) (hp : Pts w p.V p.ps) (hq : SmP q) :
  Calls Try.prog 52 #[.agg #[.string p.name,.slice p.V p.ps.length p.d],.pointer (some ⟨B,0,none⟩)] w fun e w'=>e = .returned (.bool (atB q p)) ∧ Below w.heap.size w w':=by
 have hb:=Lib.hid (below_alloc w (.cells #[.string p.name,.slice p.V p.ps.length p.d] 48))
 have c0:=(h.alloc (.cells #[.string p.name,.slice p.V p.ps.length p.d] 48)).c 0 _ rfl
 have c1:=(h.alloc (.cells #[.string p.name,.slice p.V p.ps.length p.d] 48)).c 1 _ rfl
 have l0:=h.lt
 have hwh:=Lib.hid (fun W (hb : Below w.heap.size w W)=>where_any p.V p.d p.ps q W (hp.below hb) hq)
 have hR : atB q p = decide (0 ≤ Cal.whereP p.ps q):=rfl
 rw [hR]
 clear hR hp hq
 generalize Cal.whereP p.ps q = z at *
 by_cases hz : 0 ≤ z
 ·go_enter Try.func52,Try.ntmps52
  go_wp2_with (go_at_call 48;refine (hwh.out _ hb.out).mono ?_;rintro e wn ⟨rfl,hbn⟩;have hb2:=Lib.hid (below_step hb.out hbn);clear hbn)
  go_ret
  exact ⟨by first | rfl | simp [hz],hb2.out⟩
 ·go_enter Try.func52,Try.ntmps52
  go_wp2_with (go_at_call 48;refine (hwh.out _ hb.out).mono ?_;rintro e wn ⟨rfl,hbn⟩;have hb2:=Lib.hid (below_step hb.out hbn);clear hbn)
  go_ret
  exact ⟨by first | rfl | simp [hz],hb2.out⟩
structure PaI (w : World) (s : Sct) (q : Pt) (W : World) : Prop where
 a : BoxAt W w.heap.size [.string s.name,.slice s.V s.ps.length s.d,.slice s.S s.l.length s.e]
 b : BoxAt W (w.heap.size + 1) [.int .i64 q.x,.int .i64 q.y]
 bel : Below w.heap.size w W
theorem PaI.below {w : World} {s : Sct} {q : Pt} {X Y : World} (h : PaI w s q X) (hb : Below X.heap.size X Y) : PaI w s q Y:=⟨h.a.below hb,h.b.below hb,below_step h.bel hb⟩
theorem PlotAt_any (s : Sct) (q : Pt) (w : World) (hS : SctR w s) (h0 : (sectE s.name s.ps s.l).2.2 = 0) (hq : Cal.ptErr q = 0) :
  Calls Try.prog 19 #[.agg #[.string s.name,.slice s.V s.ps.length s.d,.slice s.S s.l.length s.e],.agg #[.int .i64 q.x,.int .i64 q.y]] w fun e w'=>e = .returned (.tuple #[.int .i64 (if 0 ≤ idxP (atB q) s.l then idxP (atB q) s.l else 0),.int .i64 (if 0 ≤ idxP (atB q) s.l then 0 else 12)]) ∧ Below w.heap.size w w':=by
 have hI : Hid (PaI w s q ((w.alloc (.cells #[.string s.name,.slice s.V s.ps.length s.d,.slice s.S s.l.length s.e] 38)).alloc (.cells #[.int .i64 q.x,.int .i64 q.y] 40))):=by
  have b2:=BoxAt.new (w.alloc (.cells #[.string s.name,.slice s.V s.ps.length s.d,.slice s.S s.l.length s.e] 38)) #[.int .i64 q.x,.int .i64 q.y] 40
  rw [World.size_alloc] at b2
  exact ⟨(BoxAt.new w #[.string s.name,.slice s.V s.ps.length s.d,.slice s.S s.l.length s.e] 38).alloc _,b2,below_step (below_alloc _ _) (below_alloc _ _)⟩
 have hcs:=Lib.hid (fun W (hb : Below w.heap.size w W)=>CheckSection_any s W (hS.below hb))
 have hpt:=Lib.hid (fun W=>checkPoint_any q W)
 rw [hq] at hpt
 have hz:=sectE_zero h0
 have hix:=Lib.hid (fun W (hW : PaI w s q W)=>IndexPl3_any (atB q) s.S s.e s.l (w.heap.size + 1) W ((hS.below hW.bel).plots.rows) hS.plots.size (fun p X hp hX=>PlotAt1_any p q _ X (hW.b.below hX) (by
  obtain ⟨k,hk,rfl⟩:=List.getElem_of_mem hp
  have h3:=(plotE_zero (hz.2.2.2 k hk)).2.2.1
  exact ((((hS.plots.pts _ hp).plg h3 (few_ok (hS.fews _ hp) h3)).below hW.bel).below hX).v.pts) (smP_of hq)))
 clear hS hz hq
 generalize sectE s.name s.ps s.l = E at *
 obtain ⟨e1,e2,c⟩:=E
 dsimp only at h0 hcs
 subst h0
 generalize idxP (atB q) s.l = z at *
 obtain ⟨nm,V,d,ps,S,e,l⟩:=s
 dsimp only at *
 (have a0:=hI.out.a.c 0 _ rfl;have a1:=hI.out.a.c 1 _ rfl;have a2:=hI.out.a.c 2 _ rfl;have b0:=hI.out.b.c 0 _ rfl;have b1:=hI.out.b.c 1 _ rfl)
 by_cases hz : 0 ≤ z
 ·rw [if_pos hz,if_pos hz]
  have hz2 : ¬ z < 0:=by omega
  go_enter Try.func19,Try.ntmps19
  go_wp2_with (first
   |(go_at_call 50;clear a0 a1 a2 b0 b1;refine (hcs.out _ hI.out.bel).mono ?_;clear hcs;rintro e0 wn ⟨rfl,hbn⟩;replace hI:=Lib.hid ((hI.out.below hbn).below (below_alloc wn (.cells #[.int .i64 e1,.int .i64 e2] 41)));clear hbn;(have a0:=hI.out.a.c 0 _ rfl;have a1:=hI.out.a.c 1 _ rfl;have a2:=hI.out.a.c 2 _ rfl;have b0:=hI.out.b.c 0 _ rfl;have b1:=hI.out.b.c 1 _ rfl))
   |(go_at_call 47;clear a0 a1 a2 b0 b1;refine (hpt.out _).mono ?_;clear hpt;rintro e0 wm ⟨rfl,hbn⟩;replace hI:=Lib.hid (hI.out.below hbn);clear hbn;(have a0:=hI.out.a.c 0 _ rfl;have a1:=hI.out.a.c 1 _ rfl;have a2:=hI.out.a.c 2 _ rfl;have b0:=hI.out.b.c 0 _ rfl;have b1:=hI.out.b.c 1 _ rfl))
   |(go_at_call 51;clear a0 a1 a2 b0 b1;refine (hix.out _ hI.out).mono ?_;clear hix;rintro e0 wk ⟨rfl,hbn⟩;replace hI:=Lib.hid (hI.out.below hbn);clear hbn))
  go_ret2
  exact ⟨rfl,hI.out.bel⟩
 ·rw [if_neg hz,if_neg hz]
  have hz2 : z < 0:=by omega
  go_enter Try.func19,Try.ntmps19
  go_wp2_with (first
   |(go_at_call 50;clear a0 a1 a2 b0 b1;refine (hcs.out _ hI.out.bel).mono ?_;clear hcs;rintro e0 wn ⟨rfl,hbn⟩;replace hI:=Lib.hid ((hI.out.below hbn).below (below_alloc wn (.cells #[.int .i64 e1,.int .i64 e2] 41)));clear hbn;(have a0:=hI.out.a.c 0 _ rfl;have a1:=hI.out.a.c 1 _ rfl;have a2:=hI.out.a.c 2 _ rfl;have b0:=hI.out.b.c 0 _ rfl;have b1:=hI.out.b.c 1 _ rfl))
   |(go_at_call 47;clear a0 a1 a2 b0 b1;refine (hpt.out _).mono ?_;clear hpt;rintro e0 wm ⟨rfl,hbn⟩;replace hI:=Lib.hid (hI.out.below hbn);clear hbn;(have a0:=hI.out.a.c 0 _ rfl;have a1:=hI.out.a.c 1 _ rfl;have a2:=hI.out.a.c 2 _ rfl;have b0:=hI.out.b.c 0 _ rfl;have b1:=hI.out.b.c 1 _ rfl))
   |(go_at_call 51;clear a0 a1 a2 b0 b1;refine (hix.out _ hI.out).mono ?_;clear hix;rintro e0 wk ⟨rfl,hbn⟩;replace hI:=Lib.hid (hI.out.below hbn);clear hbn))
  go_ret2
  exact ⟨rfl,hI.out.bel⟩
end Go.Proofs.Ythfokpchdlcidaa
namespace Go.Proofs.Ythfokpchdlcidaa
open Go Go.RowKit Go.Shelf
structure FitL (l : List Lev) (fr : List (Int × Int)) (p : Int) : Prop where
 p1 : 1 ≤ p
 p2 : p ≤ 4000000000
 all : ∀ h ∈ fr,1 ≤ h.2 ∧ Cal.bigH h = false
 at_ : ∀ x ∈ l,(0 ≤ x.f ∧ x.f < fr.length) ∧ (0 ≤ x.t ∧ x.t < fr.length) ∧ -100000 ≤ x.d ∧ x.d ≤ 100000 ∧ 1 ≤ x.w ∧ x.w ≤ 10
 box : ∀ x ∈ l,-16400000000000000 ≤ Cal.resV p fr x ∧ Cal.resV p fr x ≤ 16400000000000000
theorem FitL.of {n : Int} {l : List Lev} {fr : List (Int × Int)} (hz : Cal.netE n l = 0) (he : Cal.sclE n fr = 0) : FitL l fr (Cal.sclP n fr):=by
 obtain ⟨hlen,_,p1,p2,hall⟩:=Cal.sclE_zero he
 refine ⟨p1,p2,fun h hh=>⟨(hall h hh).1,(hall h hh).2.2.1⟩,fun x hx=>?_,Cal.resV_box hz he⟩
 have:=Cal.levE_zero ((Cal.netE_zero hz).2.2.2.1 x hx)
 omega
end Go.Proofs.Ythfokpchdlcidaa
namespace Go.Proofs.Ythfokpchdlcidaa
open Go Go.RowKit Go.Shelf
theorem ex_mis : Cal.misEN 3 (triLevs 1) [1,2,-3] = 0 ∧ Cal.misSN 3 (triLevs 1) [1,2,-3] = -6:=by decide +kernel
theorem surveyed_any (w : World) : Calls Try.prog 13 #[] w fun e w'=>e = .returned (.bool true) ∧ Below w.heap.size w w':=by
 have hgap:=Lib.hid (fun A1 A2 A3 S W (h : SctR W (fieldS A1 A2 A3 S))=>by
  have:=Gap_any (fieldS A1 A2 A3 S) W h
  rw [field_zero,field_gap] at this
  exact this)
 have hmis:=Lib.hid (fun A c O c2 W (h : Levs W A (triLevs 1)) (hI : RowsAt W O 1 (intRows [1,2,-3]))=>by
  have:=Misclosure_any 3 A c (triLevs 1) O c2 [1,2,-3] W h hI (by decide) (by decide)
  rw [ex_mis.1,ex_mis.2] at this
  exact this)
 have hnew:=Lib.hid (fun (W : World) (t : TypeId)=>rows_new (m:=1) W (intRows [1,2,-3]) (intRows_wid _) #[.int .i64 1,.int .i64 2,.int .i64 (-3)] rfl t)
 go_enter Try.func13,Try.ntmps13
 go_wp2_with fail
 refine (lawTri_any _ _).mono ?_
 rintro e w1 ⟨A1,rfl,hL,hb1⟩
 have hL:=Lib.hid hL
 have hb1:=Lib.hid hb1
 go_wp2_with fail
 refine (hmis.out A1 3 _ 3 _ (hL.out.below (below_alloc _ _)) (hnew.out _ _)).mono ?_
 rintro e w2 ⟨rfl,hb2⟩
 have hb2:=Lib.hid (below_step (below_step hb1.out (below_alloc _ _)) hb2)
 clear hL hb1 hmis hnew
 go_wp2_with fail
 refine (Field_any _).mono ?_
 rintro e w3 ⟨B1,B2,B3,S,rfl,hS1,hb3⟩
 have hS1:=Lib.hid hS1
 have hb3:=Lib.hid (below_step hb2.out hb3)
 go_wp2_with fail
 refine (hgap.out B1 B2 B3 S _ hS1.out).mono ?_
 rintro e w4 ⟨rfl,hb4⟩
 have hb4:=Lib.hid (below_step hb3.out hb4)
 clear hS1 hgap hb2 hb3
 go_wp2_with fail
 go_ret
 exact ⟨rfl,hb4.out⟩
end Go.Proofs.Ythfokpchdlcidaa
