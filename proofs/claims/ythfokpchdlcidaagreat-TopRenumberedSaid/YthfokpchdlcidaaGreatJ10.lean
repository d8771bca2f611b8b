/- What the statements rest on: definitions and walks, part 10. -/
import Derived.Test.YthfokpchdlcidaaGreatJ09
set_option maxRecDepth 100000
set_option maxHeartbeats 16000000
set_option linter.unusedSimpArgs false
set_option linter.unusedVariables false
namespace Go.Proofs.YthfokpchdlcidaaGreat
open Go Go.RowKit Go.Shelf
structure Sct where
 name:ByteArray
 V:Option Addr
 d:Nat
 ps:List Pt
 S:Option Addr
 e:Nat
 l:List Plo
def plotE (sec:List Pt) (before:List Plo) (p:Plo):Int × Int :=
 if nameB p.name=true then
  (if before.any (fun q=>sameN q p)=true then (before.length,5)
   else if Cal.polyE p.ps=0 then
    (if Cal.withinP p.ps sec=true then (if idxP (fun q=>Cal.overlapP q.ps p.ps) before<0 then (0,0) else (idxP (fun q=>Cal.overlapP q.ps p.ps) before,13)) else (before.length,2))
   else (before.length,Cal.polyE p.ps))
 else (before.length,4)
def few (ps:List Pt):Prop:=ps.length≤10∨40<ps.length
theorem few_ok {ps:List Pt} (h:few ps) (h0:Cal.polyE ps=0):ps.length≤10:=by
 have:=(polyE_zero h0).2.1
 unfold few at h;omega
theorem undPl:Tryz.prog.underlying 23=some (.slice (Tryz.prog.elem 23)):=by kernel_rfl
theorem sizePl (w:World):(sizeOf (Tryz.prog.elem 23)).run Tryz.prog w=.ok 2 w:=by kernel_rfl
structure ChkI (w:World) (s:Sct) (p:Plo) (W:World):Prop where
 a:BoxAt W w.heap.size [.string s.name,.slice s.V s.ps.length s.d,.slice s.S s.l.length s.e]
 b:BoxAt W (w.heap.size+1) [.string p.name,.slice p.V p.ps.length p.d]
 bel:Below w.heap.size w W
theorem ChkI.below {w:World} {s:Sct} {p:Plo} {X Y:World} (h:ChkI w s p X) (hb:Below X.heap.size X Y):ChkI w s p Y:=⟨h.a.below hb,h.b.below hb,below_step h.bel hb⟩
theorem checkPlot_any (s:Sct) (i:Nat) (w:World) (hi:i<s.l.length) (hP:Plos w s.S s.l) (hcap:s.l.length≤s.e) (hC:Plg w s.V s.ps) (hfew:∀ p∈s.l,few p.ps) (hok:∀ q∈s.l.take i,Cal.polyE q.ps=0) :
  Calls Tryz.prog 77 #[.agg #[.string s.name,.slice s.V s.ps.length s.d,.slice s.S s.l.length s.e],.int .i64 (i:Int)] w fun e w'=>e=.returned (.tuple #[.int .i64 (plotE s.ps (s.l.take i) s.l[i]).1,.int .i64 (plotE s.ps (s.l.take i) s.l[i]).2])∧Below w.heap.size w w':=by
 have hk':s.l[i]?=some s.l[i]:=List.getElem?_eq_getElem hi
 have hmem:=List.getElem_mem hi
 have hpf:=Lib.hid (hfew _ hmem)
 have hpp:=Lib.hid (hP.pts _ hmem)
 have hpn:=Lib.hid (hP.nm _ hmem)
 have hlen:(s.l.take i).length=i:=by rw[List.length_take];omega
 have hbef:=Lib.hid (fun q (hq:q∈s.l.take i)=>(hP.pts q (List.mem_of_mem_take hq)).plg (hok q hq) (few_ok (hfew q (List.mem_of_mem_take hq)) (hok q hq)))
 obtain⟨A1,c1',hcut,hrows⟩:=cut_headI undPl sizePl (List.length_map ..).symm hP.rows hcap (k:=i) (by omega)
 rw[←List.map_take] at hrows
 replace hrows:=Lib.hid hrows
 have hl6:(s.l.take i).length≤1000000:=by have:=hP.size;omega
 generalize s.l[i]=p at *
 obtain⟨b,o,hS,hbl,c0,c1⟩:=plo_at hP.rows hk'
 have hsz:=hP.size
 generalize hbf:s.l.take i=bf at *
 obtain⟨R,hRR⟩:∃ R,plotE s.ps bf p=R:=⟨_,rfl⟩
 rw[hRR]
 have hI0:Hid (ChkI w s p ((w.alloc (.cells #[.string s.name,.slice s.V s.ps.length s.d,.slice s.S s.l.length s.e] 25)).alloc (.cells #[.string p.name,.slice p.V p.ps.length p.d] 74))):=by
  have b2:=BoxAt.new (w.alloc (.cells #[.string s.name,.slice s.V s.ps.length s.d,.slice s.S s.l.length s.e] 25)) #[.string p.name,.slice p.V p.ps.length p.d] 74
  rw[World.size_alloc] at b2
  exact⟨(BoxAt.new w #[.string s.name,.slice s.V s.ps.length s.d,.slice s.S s.l.length s.e] 25).alloc _,b2,below_step (below_alloc _ _) (below_alloc _ _)⟩
 have hcont:Hid (∀ W,ChkI w s p W→Calls Tryz.prog 111 #[.slice A1 i c1',.func (.func 112) #[] #[.pointer (some ⟨w.heap.size+1,0,none⟩)]] W fun en w'=>en=.returned (.bool (bf.any fun q=>sameN q p))∧Below W.heap.size W w'):=fun W hW=>by
  have:=ContainsPl1_any (fun q=>sameN q p) A1 c1' bf (w.heap.size+1) W (hrows.out.below hW.bel) hl6 (fun q X _ hX=>checkPlot1_any q p _ X (hW.b.below hX))
  rw[hlen] at this
  exact this
 have hidx:Hid (∀ W,ChkI w s p W→Cal.polyE p.ps=0→Calls Tryz.prog 44 #[.slice A1 i c1',.func (.func 114) #[] #[.pointer (some ⟨w.heap.size+1,0,none⟩)]] W fun en w'=>en=.returned (.int .i64 (idxP (fun q=>Cal.overlapP q.ps p.ps) bf))∧Below W.heap.size W w'):=fun W hW h0=>by
  have:=IndexPl2_any (fun q=>Cal.overlapP q.ps p.ps) A1 c1' bf (w.heap.size+1) W (hrows.out.below hW.bel) hl6 (fun q X hq hX=>checkPlot2_any q p _ X (hW.b.below hX) (((hbef.out q hq).below hW.bel).below hX) (((hpp.out.plg h0 (few_ok hpf.out h0)).below hW.bel).below hX))
  rw[hlen] at this
  exact this
 have hwi:Hid (∀ W,ChkI w s p W→Cal.polyE p.ps=0→Calls Tryz.prog 113 #[.slice p.V p.ps.length p.d,.slice s.V s.ps.length s.d] W fun e w'=>e=.returned (.bool (Cal.withinP p.ps s.ps))∧Below W.heap.size W w'):=fun W hW h0 =>
  withinG_any p.V s.V p.d s.d p.ps s.ps W ((hpp.out.plg h0 (few_ok hpf.out h0)).below hW.bel) (hC.below hW.bel)
 have hge:=idxP_ge (fun q=>Cal.overlapP q.ps p.ps) bf
 obtain⟨x1,h1⟩:∃ x,nameB p.name=x:=⟨_,rfl⟩
 obtain⟨x2,h2⟩:∃ x,(bf.any fun q=>sameN q p)=x:=⟨_,rfl⟩
 obtain⟨x3,h3⟩:∃ x,Cal.polyE p.ps=x:=⟨_,rfl⟩
 obtain⟨x4,h4⟩:∃ x,Cal.withinP p.ps s.ps=x:=⟨_,rfl⟩
 obtain⟨x5,h5⟩:∃ x,idxP (fun q=>Cal.overlapP q.ps p.ps) bf=x:=⟨_,rfl⟩
 have hR:Hid (R=if x1=true then (if x2=true then ((i:Int),5) else if x3=0 then (if x4=true then (if x5<0 then (0,0) else (x5,13)) else ((i:Int),2)) else ((i:Int),x3)) else ((i:Int),4)):=by
  show _=_
  rw[←hRR]
  unfold plotE
  rw[h1,h2,h3,h4,h5,hlen]
 clear hRR hbf hok hfew hP hk' hmem hC hbef hrows
 rw[h5] at hge
 by_cases z3:x3=0
 ·subst z3
  replace hidx:=Lib.hid (fun W hW=>hidx.out W hW h3)
  replace hwi:=Lib.hid (fun W hW=>hwi.out W hW h3)
  replace h1:=Lib.hid h1
  replace h2:=Lib.hid h2
  replace h3:=Lib.hid h3
  replace h4:=Lib.hid h4
  replace h5:=Lib.hid h5
  obtain⟨nm,V,d,ps,S,e,l⟩:=s
  dsimp only at *
  obtain rfl:=hS
  cases x1
  ·go_enter Tryz.func77,Tryz.ntmps77
   go_wp2_with (first
    |(go_at_call 55;refine (gisName_any p.name _ hpn.out).mono ?_;rintro e0 wn ⟨rfl,hbn⟩;rw[h1.out];have hI:=Lib.hid (hI0.out.below hbn);clear hbn;(have a1:=hI.out.a.c 1 _ rfl;have a2:=hI.out.a.c 2 _ rfl;obtain⟨b0,b1⟩:=hI.out.b.c2))
    |(go_at_call 111;clear a1 a2 b0 b1;refine (hcont.out _ hI.out).mono ?_;rintro e0 wn ⟨rfl,hbn⟩;rw[h2.out];(replace hI:=Lib.hid (hI.out.below hbn);clear hbn;(have a1:=hI.out.a.c 1 _ rfl;have a2:=hI.out.a.c 2 _ rfl;obtain⟨b0,b1⟩:=hI.out.b.c2)))
    |(go_at_call 76;clear a1 a2 b0 b1;refine (CheckPolygon_any p.V p.d p.ps _ (hpp.out.below hI.out.bel)).mono ?_;rintro e0 wn ⟨rfl,hbn⟩;rw[h3.out];(replace hI:=Lib.hid (hI.out.below hbn);clear hbn;(have a1:=hI.out.a.c 1 _ rfl;have a2:=hI.out.a.c 2 _ rfl;obtain⟨b0,b1⟩:=hI.out.b.c2)))
    |(go_at_call 113;clear a1 a2 b0 b1;refine (hwi.out _ hI.out).mono ?_;rintro e0 wn ⟨rfl,hbn⟩;rw[h4.out];(replace hI:=Lib.hid (hI.out.below hbn);clear hbn;(have a1:=hI.out.a.c 1 _ rfl;have a2:=hI.out.a.c 2 _ rfl;obtain⟨b0,b1⟩:=hI.out.b.c2)))
    |(go_at_call 44;clear a1 a2 b0 b1;refine (hidx.out _ hI.out).mono ?_;rintro e0 wn ⟨rfl,hbn⟩;rw[h5.out];(replace hI:=Lib.hid (hI.out.below hbn);clear hbn;(have a1:=hI.out.a.c 1 _ rfl;have a2:=hI.out.a.c 2 _ rfl;obtain⟨b0,b1⟩:=hI.out.b.c2))))
   go_ret2
   exact⟨by rw[hR.out];rfl,hI.out.bel⟩
  cases x2
  ·cases x4
   ·go_enter Tryz.func77,Tryz.ntmps77
    go_wp2_with (first
     |(go_at_call 55;refine (gisName_any p.name _ hpn.out).mono ?_;rintro e0 wn ⟨rfl,hbn⟩;rw[h1.out];have hI:=Lib.hid (hI0.out.below hbn);clear hbn;(have a1:=hI.out.a.c 1 _ rfl;have a2:=hI.out.a.c 2 _ rfl;obtain⟨b0,b1⟩:=hI.out.b.c2))
     |(go_at_call 111;clear a1 a2 b0 b1;refine (hcont.out _ hI.out).mono ?_;rintro e0 wn ⟨rfl,hbn⟩;rw[h2.out];(replace hI:=Lib.hid (hI.out.below hbn);clear hbn;(have a1:=hI.out.a.c 1 _ rfl;have a2:=hI.out.a.c 2 _ rfl;obtain⟨b0,b1⟩:=hI.out.b.c2)))
     |(go_at_call 76;clear a1 a2 b0 b1;refine (CheckPolygon_any p.V p.d p.ps _ (hpp.out.below hI.out.bel)).mono ?_;rintro e0 wn ⟨rfl,hbn⟩;rw[h3.out];(replace hI:=Lib.hid (hI.out.below hbn);clear hbn;(have a1:=hI.out.a.c 1 _ rfl;have a2:=hI.out.a.c 2 _ rfl;obtain⟨b0,b1⟩:=hI.out.b.c2)))
     |(go_at_call 113;clear a1 a2 b0 b1;refine (hwi.out _ hI.out).mono ?_;rintro e0 wn ⟨rfl,hbn⟩;rw[h4.out];(replace hI:=Lib.hid (hI.out.below hbn);clear hbn;(have a1:=hI.out.a.c 1 _ rfl;have a2:=hI.out.a.c 2 _ rfl;obtain⟨b0,b1⟩:=hI.out.b.c2)))
     |(go_at_call 44;clear a1 a2 b0 b1;refine (hidx.out _ hI.out).mono ?_;rintro e0 wn ⟨rfl,hbn⟩;rw[h5.out];(replace hI:=Lib.hid (hI.out.below hbn);clear hbn;(have a1:=hI.out.a.c 1 _ rfl;have a2:=hI.out.a.c 2 _ rfl;obtain⟨b0,b1⟩:=hI.out.b.c2))))
    go_ret2
    exact⟨by rw[hR.out];rfl,hI.out.bel⟩
   by_cases z5:x5<0
   ·replace hR:Hid (R=(0,0)):=by show _=_;rw[hR.out];simp[z5]
    go_enter Tryz.func77,Tryz.ntmps77
    go_wp2_with (first
     |(go_at_call 55;refine (gisName_any p.name _ hpn.out).mono ?_;rintro e0 wn ⟨rfl,hbn⟩;rw[h1.out];have hI:=Lib.hid (hI0.out.below hbn);clear hbn;(have a1:=hI.out.a.c 1 _ rfl;have a2:=hI.out.a.c 2 _ rfl;obtain⟨b0,b1⟩:=hI.out.b.c2))
     |(go_at_call 111;clear a1 a2 b0 b1;refine (hcont.out _ hI.out).mono ?_;rintro e0 wn ⟨rfl,hbn⟩;rw[h2.out];(replace hI:=Lib.hid (hI.out.below hbn);clear hbn;(have a1:=hI.out.a.c 1 _ rfl;have a2:=hI.out.a.c 2 _ rfl;obtain⟨b0,b1⟩:=hI.out.b.c2)))
     |(go_at_call 76;clear a1 a2 b0 b1;refine (CheckPolygon_any p.V p.d p.ps _ (hpp.out.below hI.out.bel)).mono ?_;rintro e0 wn ⟨rfl,hbn⟩;rw[h3.out];(replace hI:=Lib.hid (hI.out.below hbn);clear hbn;(have a1:=hI.out.a.c 1 _ rfl;have a2:=hI.out.a.c 2 _ rfl;obtain⟨b0,b1⟩:=hI.out.b.c2)))
     |(go_at_call 113;clear a1 a2 b0 b1;refine (hwi.out _ hI.out).mono ?_;rintro e0 wn ⟨rfl,hbn⟩;rw[h4.out];(replace hI:=Lib.hid (hI.out.below hbn);clear hbn;(have a1:=hI.out.a.c 1 _ rfl;have a2:=hI.out.a.c 2 _ rfl;obtain⟨b0,b1⟩:=hI.out.b.c2)))
     |(go_at_call 44;clear a1 a2 b0 b1;refine (hidx.out _ hI.out).mono ?_;rintro e0 wn ⟨rfl,hbn⟩;rw[h5.out];(replace hI:=Lib.hid (hI.out.below hbn);clear hbn;(have a1:=hI.out.a.c 1 _ rfl;have a2:=hI.out.a.c 2 _ rfl;obtain⟨b0,b1⟩:=hI.out.b.c2))))
    go_ret2
    exact⟨by rw[hR.out];rfl,hI.out.bel⟩
   have z6:0≤x5:=by omega
   replace hR:Hid (R=(x5,13)):=by show _=_;rw[hR.out];simp[z5]
   go_enter Tryz.func77,Tryz.ntmps77
   go_wp2_with (first
    |(go_at_call 55;refine (gisName_any p.name _ hpn.out).mono ?_;rintro e0 wn ⟨rfl,hbn⟩;rw[h1.out];have hI:=Lib.hid (hI0.out.below hbn);clear hbn;(have a1:=hI.out.a.c 1 _ rfl;have a2:=hI.out.a.c 2 _ rfl;obtain⟨b0,b1⟩:=hI.out.b.c2))
    |(go_at_call 111;clear a1 a2 b0 b1;refine (hcont.out _ hI.out).mono ?_;rintro e0 wn ⟨rfl,hbn⟩;rw[h2.out];(replace hI:=Lib.hid (hI.out.below hbn);clear hbn;(have a1:=hI.out.a.c 1 _ rfl;have a2:=hI.out.a.c 2 _ rfl;obtain⟨b0,b1⟩:=hI.out.b.c2)))
    |(go_at_call 76;clear a1 a2 b0 b1;refine (CheckPolygon_any p.V p.d p.ps _ (hpp.out.below hI.out.bel)).mono ?_;rintro e0 wn ⟨rfl,hbn⟩;rw[h3.out];(replace hI:=Lib.hid (hI.out.below hbn);clear hbn;(have a1:=hI.out.a.c 1 _ rfl;have a2:=hI.out.a.c 2 _ rfl;obtain⟨b0,b1⟩:=hI.out.b.c2)))
    |(go_at_call 113;clear a1 a2 b0 b1;refine (hwi.out _ hI.out).mono ?_;rintro e0 wn ⟨rfl,hbn⟩;rw[h4.out];(replace hI:=Lib.hid (hI.out.below hbn);clear hbn;(have a1:=hI.out.a.c 1 _ rfl;have a2:=hI.out.a.c 2 _ rfl;obtain⟨b0,b1⟩:=hI.out.b.c2)))
    |(go_at_call 44;clear a1 a2 b0 b1;refine (hidx.out _ hI.out).mono ?_;rintro e0 wn ⟨rfl,hbn⟩;rw[h5.out];(replace hI:=Lib.hid (hI.out.below hbn);clear hbn;(have a1:=hI.out.a.c 1 _ rfl;have a2:=hI.out.a.c 2 _ rfl;obtain⟨b0,b1⟩:=hI.out.b.c2))))
   go_ret2
   exact⟨by rw[hR.out];rfl,hI.out.bel⟩
  go_enter Tryz.func77,Tryz.ntmps77
  go_wp2_with (first
   |(go_at_call 55;refine (gisName_any p.name _ hpn.out).mono ?_;rintro e0 wn ⟨rfl,hbn⟩;rw[h1.out];have hI:=Lib.hid (hI0.out.below hbn);clear hbn;(have a1:=hI.out.a.c 1 _ rfl;have a2:=hI.out.a.c 2 _ rfl;obtain⟨b0,b1⟩:=hI.out.b.c2))
   |(go_at_call 111;clear a1 a2 b0 b1;refine (hcont.out _ hI.out).mono ?_;rintro e0 wn ⟨rfl,hbn⟩;rw[h2.out];(replace hI:=Lib.hid (hI.out.below hbn);clear hbn;(have a1:=hI.out.a.c 1 _ rfl;have a2:=hI.out.a.c 2 _ rfl;obtain⟨b0,b1⟩:=hI.out.b.c2)))
   |(go_at_call 76;clear a1 a2 b0 b1;refine (CheckPolygon_any p.V p.d p.ps _ (hpp.out.below hI.out.bel)).mono ?_;rintro e0 wn ⟨rfl,hbn⟩;rw[h3.out];(replace hI:=Lib.hid (hI.out.below hbn);clear hbn;(have a1:=hI.out.a.c 1 _ rfl;have a2:=hI.out.a.c 2 _ rfl;obtain⟨b0,b1⟩:=hI.out.b.c2)))
   |(go_at_call 113;clear a1 a2 b0 b1;refine (hwi.out _ hI.out).mono ?_;rintro e0 wn ⟨rfl,hbn⟩;rw[h4.out];(replace hI:=Lib.hid (hI.out.below hbn);clear hbn;(have a1:=hI.out.a.c 1 _ rfl;have a2:=hI.out.a.c 2 _ rfl;obtain⟨b0,b1⟩:=hI.out.b.c2)))
   |(go_at_call 44;clear a1 a2 b0 b1;refine (hidx.out _ hI.out).mono ?_;rintro e0 wn ⟨rfl,hbn⟩;rw[h5.out];(replace hI:=Lib.hid (hI.out.below hbn);clear hbn;(have a1:=hI.out.a.c 1 _ rfl;have a2:=hI.out.a.c 2 _ rfl;obtain⟨b0,b1⟩:=hI.out.b.c2))))
  go_ret2
  exact⟨by rw[hR.out];rfl,hI.out.bel⟩
 clear hidx hwi
 replace h1:=Lib.hid h1
 replace h2:=Lib.hid h2
 replace h3:=Lib.hid h3
 obtain⟨nm,V,d,ps,S,e,l⟩:=s
 dsimp only at *
 obtain rfl:=hS
 cases x1
 ·go_enter Tryz.func77,Tryz.ntmps77
  go_wp2_with (first
   |(go_at_call 55;refine (gisName_any p.name _ hpn.out).mono ?_;rintro e0 wn ⟨rfl,hbn⟩;rw[h1.out];have hI:=Lib.hid (hI0.out.below hbn);clear hbn;(have a1:=hI.out.a.c 1 _ rfl;have a2:=hI.out.a.c 2 _ rfl;obtain⟨b0,b1⟩:=hI.out.b.c2))
   |(go_at_call 111;clear a1 a2 b0 b1;refine (hcont.out _ hI.out).mono ?_;rintro e0 wn ⟨rfl,hbn⟩;rw[h2.out];(replace hI:=Lib.hid (hI.out.below hbn);clear hbn;(have a1:=hI.out.a.c 1 _ rfl;have a2:=hI.out.a.c 2 _ rfl;obtain⟨b0,b1⟩:=hI.out.b.c2)))
   |(go_at_call 76;clear a1 a2 b0 b1;refine (CheckPolygon_any p.V p.d p.ps _ (hpp.out.below hI.out.bel)).mono ?_;rintro e0 wn ⟨rfl,hbn⟩;rw[h3.out];(replace hI:=Lib.hid (hI.out.below hbn);clear hbn;(have a1:=hI.out.a.c 1 _ rfl;have a2:=hI.out.a.c 2 _ rfl;obtain⟨b0,b1⟩:=hI.out.b.c2)))
   |(go_at_call 113;clear a1 a2 b0 b1;refine (hwi.out _ hI.out).mono ?_;rintro e0 wn ⟨rfl,hbn⟩;rw[h4.out];(replace hI:=Lib.hid (hI.out.below hbn);clear hbn;(have a1:=hI.out.a.c 1 _ rfl;have a2:=hI.out.a.c 2 _ rfl;obtain⟨b0,b1⟩:=hI.out.b.c2)))
   |(go_at_call 44;clear a1 a2 b0 b1;refine (hidx.out _ hI.out).mono ?_;rintro e0 wn ⟨rfl,hbn⟩;rw[h5.out];(replace hI:=Lib.hid (hI.out.below hbn);clear hbn;(have a1:=hI.out.a.c 1 _ rfl;have a2:=hI.out.a.c 2 _ rfl;obtain⟨b0,b1⟩:=hI.out.b.c2))))
  go_ret2
  exact⟨by rw[hR.out];rfl,hI.out.bel⟩
 cases x2
 ·replace hR:Hid (R=((i:Int),x3)):=by show _=_;rw[hR.out];simp[z3]
  go_enter Tryz.func77,Tryz.ntmps77
  go_wp2_with (first
   |(go_at_call 55;refine (gisName_any p.name _ hpn.out).mono ?_;rintro e0 wn ⟨rfl,hbn⟩;rw[h1.out];have hI:=Lib.hid (hI0.out.below hbn);clear hbn;(have a1:=hI.out.a.c 1 _ rfl;have a2:=hI.out.a.c 2 _ rfl;obtain⟨b0,b1⟩:=hI.out.b.c2))
   |(go_at_call 111;clear a1 a2 b0 b1;refine (hcont.out _ hI.out).mono ?_;rintro e0 wn ⟨rfl,hbn⟩;rw[h2.out];(replace hI:=Lib.hid (hI.out.below hbn);clear hbn;(have a1:=hI.out.a.c 1 _ rfl;have a2:=hI.out.a.c 2 _ rfl;obtain⟨b0,b1⟩:=hI.out.b.c2)))
   |(go_at_call 76;clear a1 a2 b0 b1;refine (CheckPolygon_any p.V p.d p.ps _ (hpp.out.below hI.out.bel)).mono ?_;rintro e0 wn ⟨rfl,hbn⟩;rw[h3.out];(replace hI:=Lib.hid (hI.out.below hbn);clear hbn;(have a1:=hI.out.a.c 1 _ rfl;have a2:=hI.out.a.c 2 _ rfl;obtain⟨b0,b1⟩:=hI.out.b.c2)))
   |(go_at_call 113;clear a1 a2 b0 b1;refine (hwi.out _ hI.out).mono ?_;rintro e0 wn ⟨rfl,hbn⟩;rw[h4.out];(replace hI:=Lib.hid (hI.out.below hbn);clear hbn;(have a1:=hI.out.a.c 1 _ rfl;have a2:=hI.out.a.c 2 _ rfl;obtain⟨b0,b1⟩:=hI.out.b.c2)))
   |(go_at_call 44;clear a1 a2 b0 b1;refine (hidx.out _ hI.out).mono ?_;rintro e0 wn ⟨rfl,hbn⟩;rw[h5.out];(replace hI:=Lib.hid (hI.out.below hbn);clear hbn;(have a1:=hI.out.a.c 1 _ rfl;have a2:=hI.out.a.c 2 _ rfl;obtain⟨b0,b1⟩:=hI.out.b.c2))))
  go_ret2
  exact⟨by rw[hR.out];rfl,hI.out.bel⟩
 go_enter Tryz.func77,Tryz.ntmps77
 go_wp2_with (first
  |(go_at_call 55;refine (gisName_any p.name _ hpn.out).mono ?_;rintro e0 wn ⟨rfl,hbn⟩;rw[h1.out];have hI:=Lib.hid (hI0.out.below hbn);clear hbn;(have a1:=hI.out.a.c 1 _ rfl;have a2:=hI.out.a.c 2 _ rfl;obtain⟨b0,b1⟩:=hI.out.b.c2))
  |(go_at_call 111;clear a1 a2 b0 b1;refine (hcont.out _ hI.out).mono ?_;rintro e0 wn ⟨rfl,hbn⟩;rw[h2.out];(replace hI:=Lib.hid (hI.out.below hbn);clear hbn;(have a1:=hI.out.a.c 1 _ rfl;have a2:=hI.out.a.c 2 _ rfl;obtain⟨b0,b1⟩:=hI.out.b.c2)))
  |(go_at_call 76;clear a1 a2 b0 b1;refine (CheckPolygon_any p.V p.d p.ps _ (hpp.out.below hI.out.bel)).mono ?_;rintro e0 wn ⟨rfl,hbn⟩;rw[h3.out];(replace hI:=Lib.hid (hI.out.below hbn);clear hbn;(have a1:=hI.out.a.c 1 _ rfl;have a2:=hI.out.a.c 2 _ rfl;obtain⟨b0,b1⟩:=hI.out.b.c2)))
  |(go_at_call 113;clear a1 a2 b0 b1;refine (hwi.out _ hI.out).mono ?_;rintro e0 wn ⟨rfl,hbn⟩;rw[h4.out];(replace hI:=Lib.hid (hI.out.below hbn);clear hbn;(have a1:=hI.out.a.c 1 _ rfl;have a2:=hI.out.a.c 2 _ rfl;obtain⟨b0,b1⟩:=hI.out.b.c2)))
  |(go_at_call 44;clear a1 a2 b0 b1;refine (hidx.out _ hI.out).mono ?_;rintro e0 wn ⟨rfl,hbn⟩;rw[h5.out];(replace hI:=Lib.hid (hI.out.below hbn);clear hbn;(have a1:=hI.out.a.c 1 _ rfl;have a2:=hI.out.a.c 2 _ rfl;obtain⟨b0,b1⟩:=hI.out.b.c2))))
 go_ret2
 exact⟨by rw[hR.out];rfl,hI.out.bel⟩
end Go.Proofs.YthfokpchdlcidaaGreat
namespace Go.Proofs.YthfokpchdlcidaaGreat
open Go Go.RowKit Go.Shelf
theorem plotE_zero {sec:List Pt} {bf:List Plo} {p:Plo} (h:(plotE sec bf p).2=0):nameB p.name=true∧(bf.any fun q=>sameN q p)=false∧Cal.polyE p.ps=0∧Cal.withinP p.ps sec=true∧(bf.any fun q=>Cal.overlapP q.ps p.ps)=false:=by
 unfold plotE at h
 split at h
 ·rename_i h1
  split at h
  ·cases h
  rename_i h2
  split at h
  ·rename_i h3
   split at h
   ·rename_i h4
    split at h
    ·rename_i h5
     refine⟨h1,by simpa using h2,h3,h4,?_⟩
     rw[←idxP_any,decide_eq_false_iff_not]
     omega
    cases h
   cases h
  rename_i h3;exact absurd h h3
 cases h
def sectL (sec:List Pt):List Plo→List Plo→Int × Int × Int
 | _,[]=>(0,0,0)
 | bf,p :: r=>if (plotE sec bf p).2=0 then sectL sec (bf ++ [p]) r else ((plotE sec bf p).1,bf.length,(plotE sec bf p).2)
def sectE (name:ByteArray) (ps:List Pt) (l:List Plo):Int × Int × Int :=
 if nameB name=true then (if Cal.polyE ps=0 then (if 60<l.length then (0,0,8) else sectL ps [] l) else (0,0,Cal.polyE ps)) else (0,0,4)
structure CsI (w:World) (s:Sct) (W:World):Prop where
 a:BoxAt W w.heap.size [.string s.name,.slice s.V s.ps.length s.d,.slice s.S s.l.length s.e]
 r:BoxAt W (w.heap.size+1) [.int .i64 0,.int .i64 0]
 bel:Below w.heap.size w W
theorem CsI.below {w:World} {s:Sct} {X Y:World} (h:CsI w s X) (hb:Below X.heap.size X Y):CsI w s Y:=⟨h.a.below hb,h.r.below hb,below_step h.bel hb⟩
structure SctR (w:World) (s:Sct):Prop where
 nm:s.name.size≤maxLen
 pts:PtsR w s.V s.ps
 few:few s.ps
 plots:Plos w s.S s.l
 cap:s.l.length≤s.e
 fews:∀ p∈s.l,Go.Proofs.YthfokpchdlcidaaGreat.few p.ps
theorem SctR.below {w w':World} {s:Sct} (h:SctR w s) (hb:Below w.heap.size w w'):SctR w' s:=⟨h.nm,h.pts.below hb,h.few,h.plots.below hb,h.cap,h.fews⟩
theorem arr2Size:(Tryz.prog.info? 36).map (·.size)=some 2:=by kernel_rfl
theorem sectL_drop {sec:List Pt} {l:List Plo} {k:Nat} (h:k<l.length):sectL sec (l.take k) (l.drop k)=if (plotE sec (l.take k) l[k]).2=0 then sectL sec (l.take (k+1)) (l.drop (k+1)) else ((plotE sec (l.take k) l[k]).1,(k:Int),(plotE sec (l.take k) l[k]).2):=by
 rw[List.drop_eq_getElem_cons h,List.take_succ_eq_append_getElem h]
 show (if (plotE sec (l.take k) l[k]).2=0 then _ else ((plotE sec (l.take k) l[k]).1,((l.take k).length:Int),(plotE sec (l.take k) l[k]).2))=_
 rw[List.length_take,Nat.min_eq_left (by omega)]
theorem CheckSection_any (s:Sct) (w:World) (hS:SctR w s) :
  Calls Tryz.prog 41 #[.agg #[.string s.name,.slice s.V s.ps.length s.d,.slice s.S s.l.length s.e]] w fun e w'=>e=.returned (.tuple #[.agg #[.int .i64 (sectE s.name s.ps s.l).1,.int .i64 (sectE s.name s.ps s.l).2.1],.int .i64 (sectE s.name s.ps s.l).2.2])∧Below w.heap.size w w':=by
 obtain⟨R,hRR⟩:∃ R,sectE s.name s.ps s.l=R:=⟨_,rfl⟩
 rw[hRR]
 have hsz:=hS.plots.size
 have hnm:=Lib.hid hS.nm
 replace hS:=Lib.hid hS
 obtain⟨x1,h1⟩:∃ x,nameB s.name=x:=⟨_,rfl⟩
 obtain⟨x2,h2⟩:∃ x,Cal.polyE s.ps=x:=⟨_,rfl⟩
 have hR:Hid (R=if x1=true then (if x2=0 then (if 60<s.l.length then (0,0,8) else sectL s.ps [] s.l) else (0,0,x2)) else (0,0,4)):=by
  show _=_
  rw[←hRR]
  unfold sectE
  rw[h1,h2]
 clear hRR
 have hI:Hid (CsI w s ((w.alloc (.cells #[.string s.name,.slice s.V s.ps.length s.d,.slice s.S s.l.length s.e] 25)).alloc (.cells #[.int .i64 0,.int .i64 0] 36))):=by
  have b2:=BoxAt.new (w.alloc (.cells #[.string s.name,.slice s.V s.ps.length s.d,.slice s.S s.l.length s.e] 25)) #[.int .i64 0,.int .i64 0] 36
  rw[World.size_alloc] at b2
  exact⟨(BoxAt.new w #[.string s.name,.slice s.V s.ps.length s.d,.slice s.S s.l.length s.e] 25).alloc _,b2,below_step (below_alloc _ _) (below_alloc _ _)⟩
 replace h1:=Lib.hid h1
 (obtain⟨a0,a1,a2⟩:=hI.out.a.c3;obtain⟨r0,r1⟩:=hI.out.r.c2;obtain⟨f0,f1⟩:=hI.out.r.fr2)
 cases x1
 ·replace h2:=Lib.hid h2
  go_enter Tryz.func41,Tryz.ntmps41
  go_wp2_with (first
   |(go_at_call 55;clear a0 a1 a2 r0 r1 f0 f1;refine (gisName_any s.name _ hnm.out).mono ?_;rintro e0 wn ⟨rfl,hbn⟩;rw[h1.out];(replace hI:=Lib.hid (hI.out.below hbn);clear hbn;(obtain⟨a0,a1,a2⟩:=hI.out.a.c3;obtain⟨r0,r1⟩:=hI.out.r.c2;obtain⟨f0,f1⟩:=hI.out.r.fr2)))
   |(go_at_call 76;clear a0 a1 a2 r0 r1 f0 f1;refine (CheckPolygon_any s.V s.d s.ps _ (hS.out.pts.below hI.out.bel)).mono ?_;rintro e0 wn ⟨rfl,hbn⟩;rw[h2.out];(replace hI:=Lib.hid (hI.out.below hbn);clear hbn;(obtain⟨a0,a1,a2⟩:=hI.out.a.c3;obtain⟨r0,r1⟩:=hI.out.r.c2;obtain⟨f0,f1⟩:=hI.out.r.fr2))))
  refine bodyPost_ret (results_mid2 rfl _ _ (w.heap.size+1) [.int .i64 (0),.int .i64 (0)] _ rfl ((hI.out.r.set 0 (.int .i64 (0)) (by simp)).set 1 (.int .i64 (0)) (by simp)).range Tryz.underlying36 rfl arr2Size) rfl ⟨by rw[hR.out];rfl,?_⟩
  exact (hI.out.bel.setCell (p:=⟨w.heap.size+1,0,none⟩) (Nat.le_succ _) _).setCell (p:=⟨w.heap.size+1,1,none⟩) (Nat.le_succ _) _
 by_cases z2:x2=0
 ·subst z2
  by_cases h60:60<s.l.length
  ·replace hR:Hid (R=(0,0,8)):=by show _=_;rw[hR.out,if_pos rfl,if_pos rfl,if_pos h60]
   have h61:60<(s.l.length:Int):=by omega
   replace h2:=Lib.hid h2
   go_enter Tryz.func41,Tryz.ntmps41
   go_wp2_with (first
    |(go_at_call 55;clear a0 a1 a2 r0 r1 f0 f1;refine (gisName_any s.name _ hnm.out).mono ?_;rintro e0 wn ⟨rfl,hbn⟩;rw[h1.out];(replace hI:=Lib.hid (hI.out.below hbn);clear hbn;(obtain⟨a0,a1,a2⟩:=hI.out.a.c3;obtain⟨r0,r1⟩:=hI.out.r.c2;obtain⟨f0,f1⟩:=hI.out.r.fr2)))
    |(go_at_call 76;clear a0 a1 a2 r0 r1 f0 f1;refine (CheckPolygon_any s.V s.d s.ps _ (hS.out.pts.below hI.out.bel)).mono ?_;rintro e0 wn ⟨rfl,hbn⟩;rw[h2.out];(replace hI:=Lib.hid (hI.out.below hbn);clear hbn;(obtain⟨a0,a1,a2⟩:=hI.out.a.c3;obtain⟨r0,r1⟩:=hI.out.r.c2;obtain⟨f0,f1⟩:=hI.out.r.fr2))))
   refine bodyPost_ret (results_mid2 rfl _ _ (w.heap.size+1) [.int .i64 (0),.int .i64 (0)] _ rfl ((hI.out.r.set 0 (.int .i64 (0)) (by simp)).set 1 (.int .i64 (0)) (by simp)).range Tryz.underlying36 rfl arr2Size) rfl ⟨by rw[hR.out];rfl,?_⟩
   exact (hI.out.bel.setCell (p:=⟨w.heap.size+1,0,none⟩) (Nat.le_succ _) _).setCell (p:=⟨w.heap.size+1,1,none⟩) (Nat.le_succ _) _
  replace hR:Hid (R=sectL s.ps [] s.l):=by show _=_;rw[hR.out,if_pos rfl,if_pos rfl,if_neg h60]
  have h61:¬60<(s.l.length:Int):=by omega
  have hC:Hid (Plg w s.V s.ps):=hS.out.pts.plg h2 (few_ok hS.out.few h2)
  replace h2:=Lib.hid h2
  have hR0:Hid (R=sectL s.ps (s.l.take 0) (s.l.drop 0)):=hR
  have hok0:Hid (∀ q∈s.l.take 0,Cal.polyE q.ps=0):=fun q hq=>by cases hq
  clear hR
  go_enter Tryz.func41,Tryz.ntmps41
  go_wp2_with (first
   |(go_at_call 55;clear a0 a1 a2 r0 r1 f0 f1;refine (gisName_any s.name _ hnm.out).mono ?_;rintro e0 wn ⟨rfl,hbn⟩;rw[h1.out];(replace hI:=Lib.hid (hI.out.below hbn);clear hbn;(obtain⟨a0,a1,a2⟩:=hI.out.a.c3;obtain⟨r0,r1⟩:=hI.out.r.c2;obtain⟨f0,f1⟩:=hI.out.r.fr2)))
   |(go_at_call 76;clear a0 a1 a2 r0 r1 f0 f1;refine (CheckPolygon_any s.V s.d s.ps _ (hS.out.pts.below hI.out.bel)).mono ?_;rintro e0 wn ⟨rfl,hbn⟩;rw[h2.out];(replace hI:=Lib.hid (hI.out.below hbn);clear hbn;(obtain⟨a0,a1,a2⟩:=hI.out.a.c3;obtain⟨r0,r1⟩:=hI.out.r.c2;obtain⟨f0,f1⟩:=hI.out.r.fr2))))
  clear a0 a1 a2 r0 r1 f0 f1
  go_loopw [28] (fun i wr=>∃ k:Nat,k≤s.l.length∧i=.int .i64 k∧Hid (R=sectL s.ps (s.l.take k) (s.l.drop k))∧Hid (∀ q∈s.l.take k,Cal.polyE q.ps=0)∧Hid (CsI w s wr)) (fun i _=>s.l.length-(intOf i).toNat)
  case atStart=>exact⟨0,Nat.zero_le _,rfl,hR0,hok0,hI⟩
  case round =>
   clear hR0 hok0 hI
   obtain⟨k,hk,rfl,hR,hok,hI⟩:=hrel
   by_cases hlt:k<s.l.length
   ·have hd:=sectL_drop (sec:=s.ps) hlt
    obtain⟨E,hE⟩:∃ E,plotE s.ps (s.l.take k) s.l[k]=E:=⟨_,rfl⟩
    rw[hE] at hd
    have hcall:Hid (∀ W,CsI w s W→Calls Tryz.prog 77 #[.agg #[.string s.name,.slice s.V s.ps.length s.d,.slice s.S s.l.length s.e],.int .i64 (k:Int)] W fun e w'=>e=.returned (.tuple #[.int .i64 E.1,.int .i64 E.2])∧Below W.heap.size W w'):=fun W hW=>by
     have:=checkPlot_any s k W hlt (hS.out.plots.below hW.bel) hS.out.cap (hC.out.below hW.bel) hS.out.fews hok.out
     rw[hE] at this
     exact this
    (obtain⟨a0,a1,a2⟩:=hI.out.a.c3;obtain⟨r0,r1⟩:=hI.out.r.c2;obtain⟨f0,f1⟩:=hI.out.r.fr2)
    by_cases z:E.2=0
    ·have hok2:Hid (∀ q∈s.l.take (k+1),Cal.polyE q.ps=0):=fun q hq=>by
      rw[List.take_succ_eq_append_getElem hlt] at hq
      rcases List.mem_append.1 hq with h | h
      ·exact hok.out q h
      rw[List.mem_singleton.1 h]
      exact (plotE_zero (hE ▸ z)).2.2.1
     rw[if_pos z] at hd
     have hR2:Hid (R=sectL s.ps (s.l.take (k+1)) (s.l.drop (k+1))):=hR.out.trans hd
     obtain⟨E1,E2⟩:=E
     dsimp only at z hcall
     subst z
     clear hE hd hok hR
     go_wp2_with (go_at_call 77;clear a0 a1 a2 r0 r1 f0 f1;refine (hcall.out _ hI.out).mono ?_;rintro e0 wn ⟨rfl,hbn⟩;(replace hI:=Lib.hid (hI.out.below hbn);clear hbn;(obtain⟨a0,a1,a2⟩:=hI.out.a.c3;obtain⟨r0,r1⟩:=hI.out.r.c2;obtain⟨f0,f1⟩:=hI.out.r.fr2)))
     clear a0 a1 a2 r0 r1 f0 f1
     go_roundw
     case rel=>exact⟨k+1,by omega,by go_num,hR2,hok2,hI⟩
     case measure=>simp[intOf];omega
    rw[if_neg z] at hd
    replace hR:Hid (R=(E.1,(k:Int),E.2)):=hR.out.trans hd
    obtain⟨E1,E2⟩:=E
    dsimp only at z hcall hR
    clear hE hd hok
    go_wp2_with (go_at_call 77;clear a0 a1 a2 r0 r1 f0 f1;refine (hcall.out _ hI.out).mono ?_;rintro e0 wn ⟨rfl,hbn⟩;(replace hI:=Lib.hid (hI.out.below hbn);clear hbn;(obtain⟨a0,a1,a2⟩:=hI.out.a.c3;obtain⟨r0,r1⟩:=hI.out.r.c2;obtain⟨f0,f1⟩:=hI.out.r.fr2)))
    refine bodyPost_ret (results_mid2 rfl _ _ (w.heap.size+1) [.int .i64 (E1),.int .i64 ((k:Int))] _ rfl ((hI.out.r.set 0 (.int .i64 (E1)) (by simp)).set 1 (.int .i64 ((k:Int))) (by simp)).range Tryz.underlying36 rfl arr2Size) rfl ⟨by rw[hR.out];rfl,?_⟩
    exact (hI.out.bel.setCell (p:=⟨w.heap.size+1,0,none⟩) (Nat.le_succ _) _).setCell (p:=⟨w.heap.size+1,1,none⟩) (Nat.le_succ _) _
   obtain rfl:k=s.l.length:=by omega
   replace hR:Hid (R=(0,0,0)):=by show _=_;rw[hR.out,List.drop_length];rfl
   clear hok
   (obtain⟨a0,a1,a2⟩:=hI.out.a.c3;obtain⟨r0,r1⟩:=hI.out.r.c2;obtain⟨f0,f1⟩:=hI.out.r.fr2)
   go_wp2_with fail
   refine bodyPost_ret (results_mid2 rfl _ _ (w.heap.size+1) [.int .i64 (0),.int .i64 (0)] _ rfl ((hI.out.r.set 0 (.int .i64 (0)) (by simp)).set 1 (.int .i64 (0)) (by simp)).range Tryz.underlying36 rfl arr2Size) rfl ⟨by rw[hR.out];rfl,?_⟩
   exact (hI.out.bel.setCell (p:=⟨w.heap.size+1,0,none⟩) (Nat.le_succ _) _).setCell (p:=⟨w.heap.size+1,1,none⟩) (Nat.le_succ _) _
 replace hR:Hid (R=(0,0,x2)):=by show _=_;rw[hR.out,if_pos rfl,if_neg z2]
 replace h2:=Lib.hid h2
 go_enter Tryz.func41,Tryz.ntmps41
 go_wp2_with (first
  |(go_at_call 55;clear a0 a1 a2 r0 r1 f0 f1;refine (gisName_any s.name _ hnm.out).mono ?_;rintro e0 wn ⟨rfl,hbn⟩;rw[h1.out];(replace hI:=Lib.hid (hI.out.below hbn);clear hbn;(obtain⟨a0,a1,a2⟩:=hI.out.a.c3;obtain⟨r0,r1⟩:=hI.out.r.c2;obtain⟨f0,f1⟩:=hI.out.r.fr2)))
  |(go_at_call 76;clear a0 a1 a2 r0 r1 f0 f1;refine (CheckPolygon_any s.V s.d s.ps _ (hS.out.pts.below hI.out.bel)).mono ?_;rintro e0 wn ⟨rfl,hbn⟩;rw[h2.out];(replace hI:=Lib.hid (hI.out.below hbn);clear hbn;(obtain⟨a0,a1,a2⟩:=hI.out.a.c3;obtain⟨r0,r1⟩:=hI.out.r.c2;obtain⟨f0,f1⟩:=hI.out.r.fr2))))
 refine bodyPost_ret (results_mid2 rfl _ _ (w.heap.size+1) [.int .i64 (0),.int .i64 (0)] _ rfl ((hI.out.r.set 0 (.int .i64 (0)) (by simp)).set 1 (.int .i64 (0)) (by simp)).range Tryz.underlying36 rfl arr2Size) rfl ⟨by rw[hR.out];rfl,?_⟩
 exact (hI.out.bel.setCell (p:=⟨w.heap.size+1,0,none⟩) (Nat.le_succ _) _).setCell (p:=⟨w.heap.size+1,1,none⟩) (Nat.le_succ _) _
end Go.Proofs.YthfokpchdlcidaaGreat
