/- What the statements rest on: definitions and walks, part 27. -/
import Derived.Test.YthfokpchdlcidaaGreatJ26
import Derived.Test.YthfokpchdlcidaaGreatJ23
set_option maxRecDepth 100000
set_option maxHeartbeats 16000000
set_option linter.unusedSimpArgs false
set_option linter.unusedVariables false
namespace Go.Proofs.YthfokpchdlcidaaGreat
open Go Go.RowKit Go.ChangeShapes Go.WideShapes Go.Deep
theorem wf_bounds {n:Int} (h:(Lit.int .i64 n).wf=true):-9223372036854775808≤n∧n≤9223372036854775807:=by
 simp only[Lit.wf,Bool.and_eq_true,decide_eq_true_eq] at h
 exact h
section
variable {H : Type} {enc : TypeId × Value → H} {w : World} {spare : Nat → Bool} {held : Bool} {r : Reach} {b0 : Nat} {v : Value} {d : DataW H} {ps : List MemPlace}
theorem pt_of_open (hval:Value.okWide Tryz.prog w r b0 27 v) (h:DataW.Trod enc Tryz.prog w 0 spare held 27 v d ps) :
  ∃ p:Pt,v=.agg #[.int .i64 p.x,.int .i64 p.y]∧(-9223372036854775808≤p.x∧p.x≤9223372036854775807)∧(-9223372036854775808≤p.y∧p.y≤9223372036854775807):=by
 have hu:=Tryz.underlying27
 unfold Value.okWide at hval
 rw[hu] at hval
 obtain⟨cs,rfl,hcs,_⟩:=hval
 obtain⟨fuel,hf⟩:=h
 obtain⟨m,xs,hlen,hxl,hi⟩:=trod_cells hu (by kernel_rfl) hf
 have h0:=hi 0 _ rfl
 have h1:=hi 1 _ rfl
 rw[show Tryz.prog.cellsOf 27=2 by kernel_rfl] at hcs
 obtain⟨l⟩:=cs
 match l,hcs with
 | [a,b],_ =>
  match xs,hxl with
  | [y0,y1],_ =>
   simp[Value.cells] at h0 h1
   obtain⟨s0,e0,_,w0⟩:=DataW.trod_int Tryz.underlying3 h0
   obtain⟨s1,e1,_,w1⟩:=DataW.trod_int Tryz.underlying3 h1
   cases e0;cases e1
   exact⟨⟨s0,s1⟩,rfl,wf_bounds w0,wf_bounds w1⟩
end
end Go.Proofs.YthfokpchdlcidaaGreat
namespace Go.Proofs.YthfokpchdlcidaaGreat
open Go Go.RowKit Go.Shelf
theorem absG_any (n:Int) (h1:-9223372036854775807≤n) (h2:n≤9223372036854775807) (w:World):Calls Tryz.prog 133 #[.int .i64 n] w fun e w'=>e=.returned (.int .i64 (n.natAbs:Int))∧w=w':=by
 have hng:IntKind.i64.wrap (-n)=-n:=wrap_small (by omega) (by omega)
 have hf:Hid ((n.natAbs:Int)=max n (-n)):=by show _=_;omega
 go_enter Tryz.func133,Tryz.ntmps133
 go_wp2
 go_ret
 exact⟨ret_int hf.out.symm,rfl⟩
end Go.Proofs.YthfokpchdlcidaaGreat
namespace Go.Proofs.YthfokpchdlcidaaGreat
open Go Go.RowKit Go.Shelf
theorem Sx.putD {w W:World} {L:List (Nat × Nat × Value)} {b:Nat} {vs:List Value} (h:Sx w L W) (hb:w.heap.size≤b) (hL:∀ x∈L,x.1≠b∧x.1<W.heap.size):Sx w L (W.setCells b 0 vs) :=
 h.grow (grown_setCells b vs 0 W) (fun g e=>by cases e;exact hb) (fun x hx=>⟨fun e=>(hL x hx).1 (by cases e;rfl),(hL x hx).2⟩)
end Go.Proofs.YthfokpchdlcidaaGreat
namespace Go.Proofs.YthfokpchdlcidaaGreat
open Go Go.RowKit Go.Shelf
attribute [local go_sem] Oper.semAt_some
def firstE:List PA→Int
 | []=>0
 | p :: r=>if Cal.polyE p.ps=0 then firstE r else Cal.polyE p.ps
theorem firstE_cons (p:PA) (r:List PA):firstE (p :: r)=if Cal.polyE p.ps=0 then firstE r else Cal.polyE p.ps:=rfl
theorem checkAll_any (b o c:Nat) (L:List PA) (w:World) (hL:∀ k p,L[k]?=some p→w.cell? ⟨b,o+k,none⟩=some p.v) (hP:∀ p∈L,PtsR w p.V p.ps) (hl:L.length≤1000000) (hb:b<w.heap.size) :
  Calls Tryz.prog 74 #[.slice (some ⟨b,o,none⟩) L.length c] w fun e w'=>e=.returned (.int .i64 (firstE L))∧Below w.heap.size w w':=by
 replace hL:=Lib.hid hL
 replace hP:=Lib.hid hP
 have hB0:Hid (Below w.heap.size w w):=Below.refl _ _
 have hE0:Hid (firstE L=firstE (L.drop 0)):=rfl
 go_enter Tryz.func74,Tryz.ntmps74
 go_wp2_with fail
 go_loopw [8] (fun i wr=>∃ k:Nat,k≤L.length∧i=.int .i64 k∧Hid (firstE L=firstE (L.drop k))∧Hid (Below w.heap.size w wr)) (fun i _=>L.length-(intOf i).toNat)
 case atStart=>exact⟨0,Nat.zero_le _,rfl,hE0,hB0⟩
 case round =>
  clear hE0 hB0
  obtain⟨k,hk,rfl,hE,hB⟩:=hrel
  by_cases hlt:k<L.length
  ·have hk':L[k]?=some L[k]:=List.getElem?_eq_getElem hlt
   have c0:=(hB.out.cell (p:=⟨b,o+k,none⟩) hb).trans (hL.out k _ hk')
   have hp:=hP.out L[k] (List.getElem_mem hlt)
   have hd:L.drop k=L[k] :: L.drop (k+1):=List.drop_eq_getElem_cons hlt
   have hE1:=hE.out
   rw[hd,firstE_cons] at hE1
   replace hE1:=Lib.hid hE1
   clear hd hk' hE
   generalize L[k]=p at *
   obtain⟨V,d,ps⟩:=p
   unfold PA.v at c0
   dsimp only at c0 hp hE1
   have hp2:=Lib.hid (hp.below hB.out)
   clear hp
   by_cases h0:Cal.polyE ps=0
   ·have hE2:Hid (firstE L=firstE (L.drop (k+1))):=by show _=_;rw[hE1.out,if_pos h0]
    replace h0:=Lib.hid h0
    go_wp2_with (refine (CheckPolygon_any V d ps _ hp2.out).mono ?_;rintro e wn ⟨rfl,hbn⟩;rw[h0.out];have hB2:=Lib.hid (below_step hB.out hbn);clear hbn)
    go_roundw
    case rel=>exact⟨k+1,by omega,by go_num,hE2,hB2⟩
    case measure=>simp[intOf];omega
   have hE2:Hid (firstE L=Cal.polyE ps):=by show _=_;rw[hE1.out,if_neg h0]
   obtain⟨v,hv⟩:∃ v,Cal.polyE ps=v:=⟨_,rfl⟩
   rw[hv] at h0 hE2
   have hv:=Lib.hid hv
   go_wp2_with (refine (CheckPolygon_any V d ps _ hp2.out).mono ?_;rintro e wn ⟨rfl,hbn⟩;rw[hv.out];have hB2:=Lib.hid (below_step hB.out hbn);clear hbn)
   go_ret
   exact⟨by rw[hE2.out];rfl,hB2.out⟩
  obtain rfl:k=L.length:=by omega
  go_wp2_with fail
  go_ret
  exact⟨by rw[hE.out,List.drop_length];rfl,hB.out⟩
def brdE (us vs:List Pt):Int:=firstE [⟨none,0,us⟩,⟨none,0,vs⟩]
theorem brdE_eq (us vs:List Pt):brdE us vs=if Cal.polyE us=0 then Cal.polyE vs else Cal.polyE us:=by
 unfold brdE
 rw[firstE_cons,firstE_cons]
 split
 ·split
  ·rename_i h;rw[h];rfl
  rfl
 rfl
end Go.Proofs.YthfokpchdlcidaaGreat
namespace Go.Proofs.YthfokpchdlcidaaGreat
open Go Go.RowKit Go.Shelf
attribute [local go_sem] Oper.semAt_some
def bordE (us vs:List Pt):Int:=if brdE us vs=0 then (if Cal.overlapP us vs=true then 13 else 0) else brdE us vs
def bordL (E:Int) (us vs:List Pt):List Sd:=if E=0 then Cal.borderP us vs else []
theorem Border_any (Va Vb:Option Addr) (da db:Nat) (us vs:List Pt) (w:World) (hA:PtsR w Va us) (hB:PtsR w Vb vs) (hla:Cal.polyE us=0→us.length≤10) (hlb:Cal.polyE vs=0→vs.length≤10) :
  Calls Tryz.prog 38 #[.slice Va us.length da,.slice Vb vs.length db] w fun e w'=>∃ v,e=.returned (.tuple #[v,.int .i64 (bordE us vs)])∧OwnL w' w.heap.size 90 4 v ((bordL (bordE us vs) us vs).map sdR)∧Below w.heap.size w w':=by
 obtain⟨E,hE⟩:∃ E,bordE us vs=E:=⟨_,rfl⟩
 rw[hE]
 have hb1:Below w.heap.size w (w.alloc (.cells #[.slice Va us.length da,.slice Vb vs.length db] 22)):=below_alloc _ _
 have hx:=BoxAt.new w #[.slice Va us.length da,.slice Vb vs.length db] 22
 have hck:=Lib.hid (checkAll_any w.heap.size 0 2 [⟨Va,da,us⟩,⟨Vb,db,vs⟩] _ (fun k p hp=>by
  match k,hp with
  | 0,hp=>cases hp;exact hx.c 0 _ rfl
  | 1,hp=>cases hp;exact hx.c 1 _ rfl) (fun p hp=>by
  rcases List.mem_cons.1 hp with e | hp
  ·rw[e];exact hA.below hb1
  rw[List.mem_singleton.1 hp];exact hB.below hb1) (by simp) hx.lt)
 have hfe:Hid (firstE [⟨Va,da,us⟩,⟨Vb,db,vs⟩]=brdE us vs):=rfl
 replace hb1:=Lib.hid hb1
 clear hx
 replace hA:=Lib.hid hA
 replace hB:=Lib.hid hB
 by_cases h0:brdE us vs=0
 ·have hp:=brdE_eq us vs
  rw[h0] at hp
  have hu:Cal.polyE us=0:=by
   split at hp
   ·assumption
   rename_i h;exact absurd hp.symm h
  have hv:Cal.polyE vs=0:=by rw[if_pos hu] at hp;exact hp.symm
  have hPa:=Lib.hid (hA.out.plg hu (hla hu))
  have hPb:=Lib.hid (hB.out.plg hv (hlb hv))
  clear hp hu hv
  obtain⟨c,hc⟩:∃ c,Cal.overlapP us vs=c:=⟨_,rfl⟩
  have hR:Hid (E=if c=true then 13 else 0):=by show _=_;rw[←hE];unfold bordE;rw[if_pos h0,hc]
  clear hE
  replace h0:=Lib.hid h0
  replace hc:=Lib.hid hc
  cases c
  ·go_enter Tryz.func38,Tryz.ntmps38
   go_wp2_with (first
    |(go_at_call 74;refine hck.out.mono ?_;rintro e wn ⟨rfl,hbn⟩;rw[hfe.out,h0.out];have hb2:=Lib.hid (below_step hb1.out hbn);clear hbn)
    |(go_at_call 75;refine (overlap_any Va Vb da db us vs _ (hPa.out.below hb2.out) (hPb.out.below hb2.out)).mono ?_;rintro e wm ⟨rfl,hbn⟩;rw[hc.out];have hb3:=Lib.hid (below_step hb2.out hbn);clear hbn)
    |(go_at_call 42;refine (border_any Va Vb da db us vs _ (hPa.out.below hb3.out).v.pts (hPb.out.below hb3.out).v.pts (by have:=hPa.out.len;omega) (by have:=hPb.out.len;omega)).mono ?_;rintro e wk ⟨v,rfl,ho,hbn⟩;have hb4:=Lib.hid (below_step hb3.out hbn);replace ho:=Lib.hid ho;clear hbn))
   go_ret2
   exact⟨v,by rw[hR.out];rfl,by rw[hR.out];exact ho.out.less hb3.out.size,hb4.out⟩
  go_enter Tryz.func38,Tryz.ntmps38
  go_wp2_with (first
   |(go_at_call 74;refine hck.out.mono ?_;rintro e wn ⟨rfl,hbn⟩;rw[hfe.out,h0.out];have hb2:=Lib.hid (below_step hb1.out hbn);clear hbn)
   |(go_at_call 75;refine (overlap_any Va Vb da db us vs _ (hPa.out.below hb2.out) (hPb.out.below hb2.out)).mono ?_;rintro e wm ⟨rfl,hbn⟩;rw[hc.out];have hb3:=Lib.hid (below_step hb2.out hbn);clear hbn))
  go_ret2
  exact⟨_,by rw[hR.out];rfl,by rw[hR.out];exact OwnL.nil _ _ _ _,hb3.out⟩
 have hR:Hid (E=brdE us vs):=by show _=_;rw[←hE];unfold bordE;rw[if_neg h0]
 clear hE
 obtain⟨v,hv⟩:∃ v,brdE us vs=v:=⟨_,rfl⟩
 rw[hv] at h0 hR hfe
 have h1:=Lib.hid h0
 go_enter Tryz.func38,Tryz.ntmps38
 go_wp2_with (go_at_call 74;refine hck.out.mono ?_;rintro e wn ⟨rfl,hbn⟩;rw[hfe.out];have hb2:=Lib.hid (below_step hb1.out hbn);clear hbn)
 go_ret2
 exact⟨_,by rw[hR.out];rfl,by rw[hR.out];unfold bordL;rw[if_neg h1.out];exact OwnL.nil _ _ _ _,hb2.out⟩
end Go.Proofs.YthfokpchdlcidaaGreat
namespace Go.Proofs.YthfokpchdlcidaaGreat
open Go Go.RowKit Go.Shelf
theorem ex_heights:Cal.netE 3 (triLevs 2)=0∧(Cal.heightsP 2 (triLevs 2)).length=3∧(Cal.heightsP 2 (triLevs 2))[1]?=some (512,5):=by decide +kernel
theorem ex_bord:bordE (Cal.boxP 0 0 50 100) (Cal.boxP 50 0 100 50)=0:=by decide +kernel
theorem ex_bord2:(Cal.borderP (Cal.boxP 0 0 50 100) (Cal.boxP 50 0 100 50)).map sdR=[[.int .i64 50,.int .i64 0,.int .i64 50,.int .i64 50]]:=by kernel_rfl
theorem lawAwake_any (w:World):Calls Tryz.prog 7 #[] w fun e w'=>e=.returned (.bool true)∧Below w.heap.size w w':=by
 have hgap:=Lib.hid (fun A1 A2 A3 S W (h:SctR W (fieldS A1 A2 A3 S))=>by
  have:=Gap_any (fieldS A1 A2 A3 S) W h
  rw[field_zero,field_gap] at this
  exact this)
 have hhts:=Lib.hid (fun A c W (h:Levs W A (triLevs 2))=>by
  have:=Heights_any 3 A c (triLevs 2) W h
  rw[ex_heights.1,if_pos rfl] at this
  exact this)
 have hbor:=Lib.hid (fun A B c d W (h:PtsR W A (Cal.boxP 0 0 50 100)) (h2:PtsR W B (Cal.boxP 50 0 100 50))=>by
  have:=Border_any A B c d _ _ W h h2 (fun _=>by decide) (fun _=>by decide)
  rw[ex_bord] at this
  unfold bordL at this
  rw[if_pos rfl,ex_bord2] at this
  exact this)
 go_enter Tryz.func7,Tryz.ntmps7
 go_wp2_with fail
 refine (Field_any _).mono ?_
 rintro e w1 ⟨A1,A2,A3,S,rfl,hS1,hb1⟩
 have hS1:=Lib.hid hS1
 have hb1:=Lib.hid hb1
 go_wp2_with fail
 refine (hgap.out A1 A2 A3 S _ hS1.out).mono ?_
 rintro e w2 ⟨rfl,hb2⟩
 have hb2:=Lib.hid (below_step hb1.out hb2)
 clear hS1 hgap hb1
 go_wp2_with fail
 refine (lawTri_any _ _).mono ?_
 rintro e w3 ⟨A4,rfl,hL,hb3⟩
 have hL:=Lib.hid hL
 have hb3:=Lib.hid (below_step hb2.out hb3)
 go_wp2_with fail
 refine (hhts.out A4 3 _ hL.out).mono ?_
 rintro e w4 ⟨v4,rfl,ho4,hb4⟩
 obtain⟨A5,c5,rfl,hr5⟩:=ho4.form
 have hr5:=Lib.hid hr5
 have hb4:=Lib.hid (below_step hb3.out hb4)
 rw[List.length_map,show (Cal.heightsP ((3:Int).toNat-1) (triLevs 2)).length=3 from ex_heights.2.1]
 clear hL hhts hb2 hb3 ho4
 go_wp2_with fail
 refine (lawBox_any _ _ _ _ _).mono ?_
 rintro e w5 ⟨B1,rfl,_,hp1,hb5⟩
 have hp1:=Lib.hid hp1
 have hr5:=Lib.hid (hr5.out.below hb5)
 have hb5:=Lib.hid (below_step hb4.out hb5)
 go_wp2_with fail
 refine (lawBox_any _ _ _ _ _).mono ?_
 rintro e w6 ⟨B2,rfl,_,hp2,hb6⟩
 have hp2:=Lib.hid hp2
 have hp1:=Lib.hid (hp1.out.below hb6)
 have hr5:=Lib.hid (hr5.out.below hb6)
 have hb6:=Lib.hid (below_step hb5.out hb6)
 go_wp2_with fail
 refine (hbor.out _ _ _ _ _ hp1.out hp2.out).mono ?_
 rintro e w7 ⟨v7,rfl,ho7,hb7⟩
 obtain⟨A7,c7,rfl,hr7⟩:=ho7.form
 obtain⟨b7,o7,rfl,hl7,hc7⟩:=hr7 0 _ rfl
 have d0:w7.cell? ⟨b7,o7,none⟩=some (.int .i64 50):=hc7 0 _ rfl
 have d1:w7.cell? ⟨b7,o7+1,none⟩=some (.int .i64 0):=by have this:=hc7 1 _ rfl;rw[Nat.zero_mul,Nat.zero_add] at this;exact this
 have d2:w7.cell? ⟨b7,o7+2,none⟩=some (.int .i64 50):=by have this:=hc7 2 _ rfl;rw[Nat.zero_mul,Nat.zero_add] at this;exact this
 have d3:w7.cell? ⟨b7,o7+3,none⟩=some (.int .i64 50):=by have this:=hc7 3 _ rfl;rw[Nat.zero_mul,Nat.zero_add] at this;exact this
 have hr5:=hr5.out.below hb7
 obtain⟨b5,o5,rfl,hl5,hc5⟩:=hr5 1 (frR (512,5)) (by rw[List.getElem?_map,show (Cal.heightsP ((3:Int).toNat-1) (triLevs 2))[1]?=some (512,5) from ex_heights.2.2];rfl)
 have e0:w7.cell? ⟨b5,o5+2,none⟩=some (.int .i64 512):=hc5 0 _ rfl
 have e1:w7.cell? ⟨b5,o5+3,none⟩=some (.int .i64 5):=hc5 1 _ rfl
 have hb7:=Lib.hid (below_step hb6.out hb7)
 clear hp1 hp2 hbor hb4 hb5 hb6 hr5 hr7 hc7 hc5 ho7
 go_wp2_with fail
 go_ret
 exact⟨rfl,hb7.out⟩
end Go.Proofs.YthfokpchdlcidaaGreat
namespace Go.Proofs.YthfokpchdlcidaaGreat
open Go Go.RowKit Go.Shelf
theorem smP_of {q:Pt} (h:Cal.ptErr q=0):SmP q:=by
 unfold Cal.ptErr at h
 split at h
 ·cases h
 refine⟨?_,?_,?_,?_⟩ <;> omega
end Go.Proofs.YthfokpchdlcidaaGreat
namespace Go.Proofs.YthfokpchdlcidaaGreat
open Go Go.RowKit Go.Shelf
theorem IndexPl3_any (g:Plo→Bool) (S:Option Addr) (e:Nat) (l:List Plo) (B:Nat) (w:World) (h:RowsAt w S 2 (l.map Plo.cells)) (hs:l.length≤1000000)
  (hf:∀ (q:Plo) (W:World),q∈l→Below w.heap.size w W→Calls Tryz.prog 45 #[.agg #[.string q.name,.slice q.V q.ps.length q.d],.pointer (some ⟨B,0,none⟩)] W fun e w'=>e=.returned (.bool (g q))∧Below W.heap.size W w') :
  Calls Tryz.prog 44 #[.slice S l.length e,.func (.func 45) #[] #[.pointer (some ⟨B,0,none⟩)]] w fun en w'=>en=.returned (.int .i64 (idxP g l))∧Below w.heap.size w w':=by
 have h':=Lib.hid h
 replace hf:=Lib.hid hf
 have hinit:Hid ((l.take 0).any g=false):=rfl
 have hb0:=Lib.hid (Below.refl w.heap.size w)
 clear h
 go_enter Tryz.func44,Tryz.ntmps44
 go_wp2_with fail
 go_loopw [8] (fun i wr=>∃ k:Nat,k≤l.length∧i=.int .i64 k∧Hid ((l.take k).any g=false)∧Hid (Below w.heap.size w wr)) (fun i _=>l.length-(intOf i).toNat)
 case atStart=>exact⟨0,Nat.zero_le _,rfl,hinit,hb0⟩
 case round =>
  clear hb0
  obtain⟨k,hk,rfl,hall,hb⟩:=hrel
  clear hinit
  by_cases hlt:k<l.length
  ·have hk':l[k]?=some l[k]:=List.getElem?_eq_getElem hlt
   obtain⟨b,o,rfl,hbl,e0,e1⟩:=plo_at (h'.out.below hb.out) hk'
   have htk:=Lib.hid (List.take_succ_eq_append_getElem hlt)
   have hmem:Hid (l[k]∈l):=List.getElem_mem hlt
   have hkk:=Lib.hid hk'
   clear hk'
   generalize l[k]=s at *
   cases hin:g s
   ·have hnx:Hid ((l.take (k+1)).any g=false):=by show _=_;rw[htk.out,List.any_append,hall.out];simpa using hin
    have hin:=Lib.hid hin
    go_wp2_with (go_at_call 45;refine (hf.out s _ hmem.out hb.out).mono ?_;rintro e w' ⟨rfl,hbn⟩;rw[hin.out];have hb:=Lib.hid (below_step hb.out hbn);clear hbn)
    go_roundw
    case rel=>exact⟨k+1,by omega,by go_num,hnx,hb⟩
    case measure=>simp[intOf];omega
   have hfin:Hid (idxP g l=k):=idxP_at hkk.out hall.out hin
   have hin:=Lib.hid hin
   go_wp2_with (go_at_call 45;refine (hf.out s _ hmem.out hb.out).mono ?_;rintro e w' ⟨rfl,hbn⟩;rw[hin.out];have hb:=Lib.hid (below_step hb.out hbn);clear hbn)
   go_ret
   exact⟨ret_int hfin.out.symm,hb.out⟩
  have hfin:Hid (idxP g l=-1):=by
   have h:=hall.out
   rw[List.take_of_length_le (by omega)] at h
   exact idxP_no h
  have hge:l.length=k:=by omega
  clear hall
  go_wp2_with fail
  go_ret
  exact⟨ret_int hfin.out.symm,hb.out⟩
def atB (q:Pt) (p:Plo):Bool:=decide (0≤Cal.whereP p.ps q)
theorem PlotAt1_any (p:Plo) (q:Pt) (B:Nat) (w:World) (h:BoxAt w B [.int .i64 q.x,.int .i64 q.y]) (hp:Pts w p.V p.ps) (hq:SmP q) :
  Calls Tryz.prog 45 #[.agg #[.string p.name,.slice p.V p.ps.length p.d],.pointer (some ⟨B,0,none⟩)] w fun e w'=>e=.returned (.bool (atB q p))∧Below w.heap.size w w':=by
 have hb:=Lib.hid (below_alloc w (.cells #[.string p.name,.slice p.V p.ps.length p.d] 74))
 have c0:=(h.alloc (.cells #[.string p.name,.slice p.V p.ps.length p.d] 74)).c 0 _ rfl
 have c1:=(h.alloc (.cells #[.string p.name,.slice p.V p.ps.length p.d] 74)).c 1 _ rfl
 have l0:=h.lt
 have hwh:=Lib.hid (fun W (hb:Below w.heap.size w W)=>where_any p.V p.d p.ps q W (hp.below hb) hq)
 have hR:atB q p=decide (0≤Cal.whereP p.ps q):=rfl
 rw[hR]
 clear hR hp hq
 generalize Cal.whereP p.ps q=z at *
 by_cases hz:0≤z
 ·go_enter Tryz.func45,Tryz.ntmps45
  go_wp2_with (go_at_call 46;refine (hwh.out _ hb.out).mono ?_;rintro e wn ⟨rfl,hbn⟩;have hb2:=Lib.hid (below_step hb.out hbn);clear hbn)
  go_ret
  exact⟨by first | rfl | simp[hz],hb2.out⟩
 go_enter Tryz.func45,Tryz.ntmps45
 go_wp2_with (go_at_call 46;refine (hwh.out _ hb.out).mono ?_;rintro e wn ⟨rfl,hbn⟩;have hb2:=Lib.hid (below_step hb.out hbn);clear hbn)
 go_ret
 exact⟨by first | rfl | simp[hz],hb2.out⟩
structure PaI (w:World) (s:Sct) (q:Pt) (W:World):Prop where
 a:BoxAt W w.heap.size [.string s.name,.slice s.V s.ps.length s.d,.slice s.S s.l.length s.e]
 b:BoxAt W (w.heap.size+1) [.int .i64 q.x,.int .i64 q.y]
 bel:Below w.heap.size w W
theorem PaI.below {w:World} {s:Sct} {q:Pt} {X Y:World} (h:PaI w s q X) (hb:Below X.heap.size X Y):PaI w s q Y:=⟨h.a.below hb,h.b.below hb,below_step h.bel hb⟩
theorem PlotAt_any (s:Sct) (q:Pt) (w:World) (hS:SctR w s) (h0:(sectE s.name s.ps s.l).2.2=0) (hq:Cal.ptErr q=0) :
  Calls Tryz.prog 10 #[.agg #[.string s.name,.slice s.V s.ps.length s.d,.slice s.S s.l.length s.e],.agg #[.int .i64 q.x,.int .i64 q.y]] w fun e w'=>e=.returned (.tuple #[.int .i64 (if 0≤idxP (atB q) s.l then idxP (atB q) s.l else 0),.int .i64 (if 0≤idxP (atB q) s.l then 0 else 12)])∧Below w.heap.size w w':=by
 have hI:Hid (PaI w s q ((w.alloc (.cells #[.string s.name,.slice s.V s.ps.length s.d,.slice s.S s.l.length s.e] 25)).alloc (.cells #[.int .i64 q.x,.int .i64 q.y] 27))):=by
  have b2:=BoxAt.new (w.alloc (.cells #[.string s.name,.slice s.V s.ps.length s.d,.slice s.S s.l.length s.e] 25)) #[.int .i64 q.x,.int .i64 q.y] 27
  rw[World.size_alloc] at b2
  exact⟨(BoxAt.new w #[.string s.name,.slice s.V s.ps.length s.d,.slice s.S s.l.length s.e] 25).alloc _,b2,below_step (below_alloc _ _) (below_alloc _ _)⟩
 have hcs:=Lib.hid (fun W (hb:Below w.heap.size w W)=>CheckSection_any s W (hS.below hb))
 have hpt:=Lib.hid (fun W=>checkPoint_any q W)
 rw[hq] at hpt
 have hz:=sectE_zero h0
 have hix:=Lib.hid (fun W (hW:PaI w s q W)=>IndexPl3_any (atB q) s.S s.e s.l (w.heap.size+1) W ((hS.below hW.bel).plots.rows) hS.plots.size (fun p X hp hX=>PlotAt1_any p q _ X (hW.b.below hX) (by
  obtain⟨k,hk,rfl⟩:=List.getElem_of_mem hp
  have h3:=(plotE_zero (hz.2.2.2 k hk)).2.2.1
  exact ((((hS.plots.pts _ hp).plg h3 (few_ok (hS.fews _ hp) h3)).below hW.bel).below hX).v.pts) (smP_of hq)))
 clear hS hz hq
 generalize sectE s.name s.ps s.l=E at *
 obtain⟨e1,e2,c⟩:=E
 dsimp only at h0 hcs
 subst h0
 generalize idxP (atB q) s.l=z at *
 obtain⟨nm,V,d,ps,S,e,l⟩:=s
 dsimp only at *
 (obtain⟨a0,a1,a2⟩:=hI.out.a.c3;obtain⟨b0,b1⟩:=hI.out.b.c2)
 by_cases hz:0≤z
 ·rw[if_pos hz,if_pos hz]
  have hz2:¬z<0:=by omega
  go_enter Tryz.func10,Tryz.ntmps10
  go_wp2_with (first
   |(go_at_call 41;clear a0 a1 a2 b0 b1;refine (hcs.out _ hI.out.bel).mono ?_;clear hcs;rintro e0 wn ⟨rfl,hbn⟩;replace hI:=Lib.hid ((hI.out.below hbn).below (below_alloc wn (.cells #[.int .i64 e1,.int .i64 e2] 36)));clear hbn;(obtain⟨a0,a1,a2⟩:=hI.out.a.c3;obtain⟨b0,b1⟩:=hI.out.b.c2))
   |(go_at_call 43;clear a0 a1 a2 b0 b1;refine (hpt.out _).mono ?_;clear hpt;rintro e0 wm ⟨rfl,hbn⟩;replace hI:=Lib.hid (hI.out.below hbn);clear hbn;(obtain⟨a0,a1,a2⟩:=hI.out.a.c3;obtain⟨b0,b1⟩:=hI.out.b.c2))
   |(go_at_call 44;clear a0 a1 a2 b0 b1;refine (hix.out _ hI.out).mono ?_;clear hix;rintro e0 wk ⟨rfl,hbn⟩;replace hI:=Lib.hid (hI.out.below hbn);clear hbn))
  go_ret2
  exact⟨rfl,hI.out.bel⟩
 rw[if_neg hz,if_neg hz]
 have hz2:z<0:=by omega
 go_enter Tryz.func10,Tryz.ntmps10
 go_wp2_with (first
  |(go_at_call 41;clear a0 a1 a2 b0 b1;refine (hcs.out _ hI.out.bel).mono ?_;clear hcs;rintro e0 wn ⟨rfl,hbn⟩;replace hI:=Lib.hid ((hI.out.below hbn).below (below_alloc wn (.cells #[.int .i64 e1,.int .i64 e2] 36)));clear hbn;(obtain⟨a0,a1,a2⟩:=hI.out.a.c3;obtain⟨b0,b1⟩:=hI.out.b.c2))
  |(go_at_call 43;clear a0 a1 a2 b0 b1;refine (hpt.out _).mono ?_;clear hpt;rintro e0 wm ⟨rfl,hbn⟩;replace hI:=Lib.hid (hI.out.below hbn);clear hbn;(obtain⟨a0,a1,a2⟩:=hI.out.a.c3;obtain⟨b0,b1⟩:=hI.out.b.c2))
  |(go_at_call 44;clear a0 a1 a2 b0 b1;refine (hix.out _ hI.out).mono ?_;clear hix;rintro e0 wk ⟨rfl,hbn⟩;replace hI:=Lib.hid (hI.out.below hbn);clear hbn))
 go_ret2
 exact⟨rfl,hI.out.bel⟩
end Go.Proofs.YthfokpchdlcidaaGreat
namespace Go.Proofs.YthfokpchdlcidaaGreat
namespace Cal
def farR (p q:Pt):Int:=((q.x-p.x).natAbs:Int)+((q.y-p.y).natAbs:Int)
def bothP (s t:Sd) (q:Pt):Bool:=hasP s q && hasP t q
def endR (s t:Sd) (acc:List Pt) (q:Pt):List Pt:=if bothP s t q && (acc.isEmpty || !ptB q (acc[0]?.getD pt0)) && decide (acc.length<2) then acc ++ [q] else acc
def endsR (s t:Sd):List Pt:=[s.a,s.b,t.a,t.b].foldl (endR s t) []
def commonR (s t:Sd):Option Sd :=
 if crs s t.a≠0∨crs s t.b≠0 then none
 else if (endsR s t).length<2 then none
 else if farR s.a ((endsR s t)[1]?.getD pt0)<farR s.a ((endsR s t)[0]?.getD pt0) then some ⟨(endsR s t)[1]?.getD pt0,(endsR s t)[0]?.getD pt0⟩
 else some ⟨(endsR s t)[0]?.getD pt0,(endsR s t)[1]?.getD pt0⟩
def borderR (a b:List Pt):List Sd:=(sds a).flatMap fun s=>(sds b).filterMap fun t=>commonR s t
theorem ptB_no {p q:Pt} (h:p≠q):ptB p q=false:=by
 rw[←Bool.not_eq_true,ptB_iff];exact h
theorem ends_full (s t:Sd) (x y:Pt):∀ l:List Pt,l.foldl (endR s t) [x,y]=[x,y]
 | []=>rfl
 | q :: l=>by
  have:endR s t [x,y] q=[x,y]:=by unfold endR;simp
  rw[List.foldl_cons,this]
  exact ends_full s t x y l
theorem ends_second (s t:Sd) {x y:Pt} (hxy:x≠y):∀ {l:List Pt},(∀ q∈l,bothP s t q=true→q=x∨q=y)→(∃ q∈l,bothP s t q=true∧q=y)→l.foldl (endR s t) [x]=[x,y]
 | [],_,⟨q,hq,_⟩=>by cases hq
 | q :: l,hl,hex=>by
  rw[List.foldl_cons]
  by_cases hb:bothP s t q=true
  ·rcases hl q (List.mem_cons_self ..) hb with e | e
   ·have:endR s t [x] q=[x]:=by
     unfold endR
     rw[hb,e]
     have:ptB x x=true:=ptB_iff.2 rfl
     simp[this]
    rw[this]
    refine ends_second s t hxy (fun z hz=>hl z (List.mem_cons_of_mem _ hz)) ?_
    obtain⟨z,hz,hzb,hzy⟩:=hex
    rcases List.mem_cons.1 hz with e2 | hz
    ·exact absurd (e.symm.trans (e2.symm.trans hzy)) hxy
    exact⟨z,hz,hzb,hzy⟩
   have:endR s t [x] q=[x,y]:=by
    unfold endR
    rw[hb,e]
    have:ptB y x=false:=ptB_no (Ne.symm hxy)
    simp[this]
   rw[this]
   exact ends_full s t x y l
  have hb':bothP s t q=false:=by simpa using hb
  have:endR s t [x] q=[x]:=by unfold endR;rw[hb'];simp
  rw[this]
  refine ends_second s t hxy (fun z hz=>hl z (List.mem_cons_of_mem _ hz)) ?_
  obtain⟨z,hz,hzb,hzy⟩:=hex
  rcases List.mem_cons.1 hz with e2 | hz
  ·rw[e2] at hzb;exact absurd hzb hb
  exact⟨z,hz,hzb,hzy⟩
theorem ends_two (s t:Sd) {x y:Pt} (hxy:x≠y):∀ {l:List Pt},(∀ q∈l,bothP s t q=true→q=x∨q=y)→(∃ q∈l,bothP s t q=true∧q=x)→(∃ q∈l,bothP s t q=true∧q=y)→l.foldl (endR s t) []=[x,y]∨l.foldl (endR s t) []=[y,x]
 | [],_,⟨q,hq,_⟩,_=>by cases hq
 | q :: l,hl,hx,hy=>by
  rw[List.foldl_cons]
  by_cases hb:bothP s t q=true
  ·have h1:endR s t [] q=[q]:=by unfold endR;rw[hb];simp
   rw[h1]
   have hl':∀ z∈l,bothP s t z=true→z=x∨z=y:=fun z hz=>hl z (List.mem_cons_of_mem _ hz)
   rcases hl q (List.mem_cons_self ..) hb with e | e
   ·left
    rw[e]
    refine ends_second s t hxy hl' ?_
    obtain⟨z,hz,hzb,hzy⟩:=hy
    rcases List.mem_cons.1 hz with e2 | hz
    ·exact absurd (e.symm.trans (e2.symm.trans hzy)) hxy
    exact⟨z,hz,hzb,hzy⟩
   right
   rw[e]
   refine ends_second s t (Ne.symm hxy) (fun z hz hb=>(hl' z hz hb).symm) ?_
   obtain⟨z,hz,hzb,hzy⟩:=hx
   rcases List.mem_cons.1 hz with e2 | hz
   ·exact absurd (hzy.symm.trans (e2.trans e)) hxy
   exact⟨z,hz,hzb,hzy⟩
  have hb':bothP s t q=false:=by simpa using hb
  have h1:endR s t [] q=[]:=by unfold endR;rw[hb'];simp
  rw[h1]
  have skip:∀ x,(∃ z∈q :: l,bothP s t z=true∧z=x)→∃ z∈l,bothP s t z=true∧z=x:=fun x ⟨z,hz,hzb,hzy⟩=>by
   rcases List.mem_cons.1 hz with e2 | hz
   ·rw[e2] at hzb;exact absurd hzb hb
   exact⟨z,hz,hzb,hzy⟩
  exact ends_two s t hxy (fun z hz=>hl z (List.mem_cons_of_mem _ hz)) (skip x hx) (skip y hy)
theorem ends_few (s t:Sd) {x:Pt}:∀ {l acc:List Pt},(∀ q∈l,bothP s t q=true→q=x)→(acc=[]∨acc=[x])→(l.foldl (endR s t) acc=[]∨l.foldl (endR s t) acc=[x])
 | [],_,_,h=>h
 | q :: l,acc,hl,h=>by
  rw[List.foldl_cons]
  refine ends_few s t (fun z hz=>hl z (List.mem_cons_of_mem _ hz)) ?_
  by_cases hb:bothP s t q=true
  ·have e:=hl q (List.mem_cons_self ..) hb
   right
   rcases h with h | h
   ·unfold endR;rw[hb,h,e];simp
   have:ptB x x=true:=ptB_iff.2 rfl
   unfold endR;rw[hb,h,e];simp[this]
  have hb':bothP s t q=false:=by simpa using hb
  have:endR s t acc q=acc:=by unfold endR;rw[hb'];simp
  rw[this];exact h
section
variable {s : Sd}
theorem key_along {q:Pt} (hq:crs s q=0):key s s.b*(q.x-s.a.x)=key s q*(s.b.x-s.a.x)∧key s s.b*(q.y-s.a.y)=key s q*(s.b.y-s.a.y):=by
 unfold key dotP
 unfold crs at hq
 constructor <;> grind
theorem far_lt (hne:s.a≠s.b) {p q:Pt} (hp:crs s p=0) (hq:crs s q=0) (h0:0≤key s p) (h:key s p<key s q):farR s.a p<farR s.a q:=by
 have hL:=key_b_pos hne
 have one:∀ r,crs s r=0→0≤key s r→key s s.b*farR s.a r=key s r*farR s.a s.b:=fun r hr h0=>by
  obtain⟨e1,e2⟩:=key_along hr
  have a1:key s s.b*((r.x-s.a.x).natAbs:Int)=key s r*((s.b.x-s.a.x).natAbs:Int):=by
   have h1:(key s s.b).natAbs*(r.x-s.a.x).natAbs=(key s r).natAbs*(s.b.x-s.a.x).natAbs:=by rw[←Int.natAbs_mul,←Int.natAbs_mul,e1]
   have h2:((key s s.b).natAbs:Int)=key s s.b:=Int.natAbs_of_nonneg (by omega)
   have h3:((key s r).natAbs:Int)=key s r:=Int.natAbs_of_nonneg h0
   have h4:=congrArg (Int.ofNat) h1
   simp only[Int.ofNat_eq_natCast,Int.natCast_mul] at h4
   rw[h2,h3] at h4
   exact h4
  have a2:key s s.b*((r.y-s.a.y).natAbs:Int)=key s r*((s.b.y-s.a.y).natAbs:Int):=by
   have h1:(key s s.b).natAbs*(r.y-s.a.y).natAbs=(key s r).natAbs*(s.b.y-s.a.y).natAbs:=by rw[←Int.natAbs_mul,←Int.natAbs_mul,e2]
   have h2:((key s s.b).natAbs:Int)=key s s.b:=Int.natAbs_of_nonneg (by omega)
   have h3:((key s r).natAbs:Int)=key s r:=Int.natAbs_of_nonneg h0
   have h4:=congrArg (Int.ofNat) h1
   simp only[Int.ofNat_eq_natCast,Int.natCast_mul] at h4
   rw[h2,h3] at h4
   exact h4
  unfold farR
  rw[Int.mul_add,Int.mul_add,a1,a2]
 have hB:0<farR s.a s.b:=by
  unfold farR
  refine Classical.byContradiction fun hn=>hne ?_
  have h1:s.b.x-s.a.x=0:=by omega
  have h2:s.b.y-s.a.y=0:=by omega
  obtain⟨⟨ax,ay⟩,⟨bx,by'⟩⟩:=s
  dsimp only at *
  rw[Pt.mk.injEq]
  omega
 have e1:=one p hp h0
 have e2:=one q hq (by omega)
 have h1:key s p*farR s.a s.b<key s q*farR s.a s.b:=Int.mul_lt_mul_of_pos_right h hB
 rw[←e1,←e2] at h1
 exact Int.lt_of_mul_lt_mul_left h1 (by omega)
theorem has_key (hne:s.a≠s.b) {q:Pt} (hq:crs s q=0):hasP s q=true↔0≤key s q∧key s q≤key s s.b:=by
 rw[has_iff]
 have hL:=key_b_pos hne
 have e:key s s.b*dotP q s.a s.b=key s q*(key s q-key s s.b):=by
  obtain⟨e1,e2⟩:=key_along hq
  unfold key dotP at *
  unfold crs at hq
  grind
 constructor
 ·rintro⟨_,h⟩
  have h1:key s q*(key s q-key s s.b)≤0:=by
   rw[←e];exact Int.mul_nonpos_of_nonneg_of_nonpos (by omega) h
  constructor
  ·refine Classical.byContradiction fun hn=>?_
   have:=Int.mul_pos_of_neg_of_neg (a:=key s q) (b:=key s q-key s s.b) (by omega) (by omega)
   omega
  refine Classical.byContradiction fun hn=>?_
  have:=Int.mul_pos (a:=key s q) (b:=key s q-key s s.b) (by omega) (by omega)
  omega
 rintro⟨h0,h1⟩
 refine⟨hq,?_⟩
 have h2:key s s.b*dotP q s.a s.b≤0:=by
  rw[e];exact Int.mul_nonpos_of_nonneg_of_nonpos h0 (by omega)
 refine Classical.byContradiction fun hn=>?_
 have:=Int.mul_pos (a:=key s s.b) (b:=dotP q s.a s.b) hL (by omega)
 omega
theorem lin_sub {K A Q X a t q:Int} (h1:K*(t-a)=A*X) (h2:K*(q-a)=Q*X):K*(t-q)=(A-Q)*X:=by
 have:t-q=(t-a)-(q-a):=by omega
 rw[this,Int.mul_sub,h1,h2,Int.sub_mul]
theorem two_add (K p q r s:Int):K*(K*(p*q+r*s))=(K*p)*(K*q)+(K*r)*(K*s):=by grind
theorem two_sub (K p q r s:Int):K*(K*(p*q-r*s))=(K*p)*(K*q)-(K*r)*(K*s):=by grind
theorem two_val (A B X Y:Int):(A*X)*(B*X)+(A*Y)*(B*Y)=(X*X+Y*Y)*(A*B):=by grind
theorem two_zero (A B X Y:Int):(A*X)*(B*Y)-(A*Y)*(B*X)=0:=by grind
theorem has_key2 (hne:s.a≠s.b) {t:Sd} (h1:crs s t.a=0) (h2:crs s t.b=0) {q:Pt} (hq:crs s q=0):hasP t q=true↔(key s t.a≤key s q∧key s q≤key s t.b)∨(key s t.b≤key s q∧key s q≤key s t.a):=by
 have hL:=key_b_pos hne
 obtain⟨a1,a2⟩:=key_along h1
 obtain⟨b1,b2⟩:=key_along h2
 obtain⟨q1,q2⟩:=key_along hq
 have e:key s s.b*dotP q t.a t.b=(key s t.a-key s q)*(key s t.b-key s q):=by
  have k:key s s.b*(key s s.b*dotP q t.a t.b)=key s s.b*((key s t.a-key s q)*(key s t.b-key s q)):=by
   have hk:key s s.b=(s.b.x-s.a.x)*(s.b.x-s.a.x)+(s.b.y-s.a.y)*(s.b.y-s.a.y):=rfl
   have hd:dotP q t.a t.b=(t.a.x-q.x)*(t.b.x-q.x)+(t.a.y-q.y)*(t.b.y-q.y):=rfl
   rw[hd,two_add,lin_sub a1 q1,lin_sub b1 q1,lin_sub a2 q2,lin_sub b2 q2,two_val,←hk]
  exact Int.eq_of_mul_eq_mul_left (by omega) k
 have hc:crs t q=0:=by
  have k:key s s.b*(key s s.b*crs t q)=0:=by
   unfold crs
   rw[two_sub,lin_sub b1 a1,lin_sub q2 a2,lin_sub b2 a2,lin_sub q1 a1,two_zero]
  rcases Int.mul_eq_zero.1 k with h | h
  ·omega
  rcases Int.mul_eq_zero.1 h with h | h
  ·omega
  exact h
 rw[has_iff]
 constructor
 ·rintro⟨_,h⟩
  have h1:(key s t.a-key s q)*(key s t.b-key s q)≤0:=by
   rw[←e];exact Int.mul_nonpos_of_nonneg_of_nonpos (by omega) h
  rcases Int.lt_or_le (key s q) (key s t.a) with c | c
  ·right
   refine⟨?_,by omega⟩
   refine Classical.byContradiction fun hn=>?_
   have:=Int.mul_pos (a:=key s t.a-key s q) (b:=key s t.b-key s q) (by omega) (by omega)
   omega
  rcases Int.lt_or_le (key s t.b) (key s q) with c2 | c2
  ·right
   refine⟨by omega,?_⟩
   refine Classical.byContradiction fun hn=>?_
   have:=Int.mul_pos_of_neg_of_neg (a:=key s t.a-key s q) (b:=key s t.b-key s q) (by omega) (by omega)
   omega
  exact Or.inl ⟨c,c2⟩
 intro h
 refine⟨hc,?_⟩
 have h2:key s s.b*dotP q t.a t.b≤0:=by
  rw[e]
  rcases h with ⟨c1,c2⟩ | ⟨c1,c2⟩
  ·exact Int.mul_nonpos_of_nonpos_of_nonneg (by omega) (by omega)
  exact Int.mul_nonpos_of_nonneg_of_nonpos (by omega) (by omega)
 refine Classical.byContradiction fun hn=>?_
 have:=Int.mul_pos (a:=key s s.b) (b:=dotP q t.a t.b) hL (by omega)
 omega
theorem common_eq (hne:s.a≠s.b) {t:Sd} (ht:t.a≠t.b):commonR s t=commonS s t:=by
 unfold commonR commonS
 by_cases hcol:crs s t.a=0∧crs s t.b=0
 ·obtain⟨h1,h2⟩:=hcol
  rw[if_neg (show ¬(crs s t.a≠0∨crs s t.b≠0) from by omega),if_pos (show trn s t.a=0∧trn s t.b=0 from ⟨trnZ.2 h1,trnZ.2 h2⟩)]
  have hL:=key_b_pos hne
  have ha0:key s s.a=0:=key_a s
  have ca:=crs_a0 s
  have cb:=crs_b0 s
  have kne:key s t.a≠key s t.b:=fun e=>ht (key_inj hne h1 h2 e)
  obtain⟨u,v,hu,hv,huv,huvE,hset⟩:∃ u v:Pt,crs s u=0∧crs s v=0∧key s u<key s v∧(if 0<alongS s t.a t.b then (⟨t.b,t.a⟩:Sd) else t)=⟨u,v⟩∧((u=t.a∧v=t.b)∨(u=t.b∧v=t.a)):=by
   by_cases c:key s t.b<key s t.a
   ·refine⟨t.b,t.a,h2,h1,c,?_,Or.inr ⟨rfl,rfl⟩⟩
    rw[if_pos]
    unfold alongS cmpI
    have:¬dotP s.a s.b t.a<dotP s.a s.b t.b:=by unfold key at c;omega
    rw[if_neg this,if_pos (by unfold key at c;exact c)]
    decide
   refine⟨t.a,t.b,h1,h2,by omega,?_,Or.inl ⟨rfl,rfl⟩⟩
   rw[if_neg]
   intro hh
   unfold alongS cmpI at hh
   unfold key at c kne
   rw[if_pos (by omega)] at hh
   omega
  dsimp only
  rw[huvE]
  dsimp only
  have gt:∀ p q:Pt,0<alongS s p q↔key s q<key s p:=fun p q=>by
   unfold alongS cmpI key
   split
   ·constructor <;> intro h <;> omega
   split
   ·constructor <;> intro h <;> omega
   constructor <;> intro h <;> omega
  have lt:∀ p q:Pt,alongS s p q<0↔key s p<key s q:=fun p q=>along_lt
  have both:∀ q,crs s q=0→(bothP s t q=true↔(0≤key s q∧key s q≤key s s.b)∧(key s u≤key s q∧key s q≤key s v)):=fun q hq=>by
   unfold bothP
   rw[Bool.and_eq_true,has_key hne hq,has_key2 hne h1 h2 hq]
   rcases hset with ⟨e1,e2⟩ | ⟨e1,e2⟩ <;> subst e1 <;> subst e2 <;> omega
  obtain⟨f,hf,hfE,hfk,hfm⟩:∃ f:Pt,crs s f=0∧(if 0<alongS s u s.a then u else s.a)=f∧key s f=max 0 (key s u)∧(f=s.a∨f=u):=by
   by_cases c:0<key s u
   ·exact⟨u,hu,by rw[if_pos ((gt _ _).2 (by omega))],by omega,Or.inr rfl⟩
   exact⟨s.a,ca,by rw[if_neg (fun h=>c (by have:=(gt _ _).1 h;omega))],by omega,Or.inl rfl⟩
  obtain⟨e,he,heE,hek,hem⟩:∃ e:Pt,crs s e=0∧(if alongS s v s.b<0 then v else s.b)=e∧key s e=min (key s s.b) (key s v)∧(e=s.b∨e=v):=by
   by_cases c:key s v<key s s.b
   ·exact⟨v,hv,by rw[if_pos ((lt _ _).2 c)],by omega,Or.inr rfl⟩
   exact⟨s.b,cb,by rw[if_neg (fun h=>c ((lt _ _).1 h))],by omega,Or.inl rfl⟩
  rw[hfE,heE]
  have memu:u∈[s.a,s.b,t.a,t.b]∧v∈[s.a,s.b,t.a,t.b]:=by rcases hset with ⟨e1,e2⟩ | ⟨e1,e2⟩ <;> rw[e1,e2] <;> simp
  have memf:f∈[s.a,s.b,t.a,t.b]:=by rcases hfm with h | h;rw[h];simp;rw[h];exact memu.1
  have meme:e∈[s.a,s.b,t.a,t.b]:=by rcases hem with h | h;rw[h];simp;rw[h];exact memu.2
  have line:∀ q∈[s.a,s.b,t.a,t.b],crs s q=0:=fun q hq=>by
   simp only[List.mem_cons,List.not_mem_nil,or_false] at hq
   rcases hq with e | e | e | e <;> rw[e] <;> assumption
  have only:∀ q∈[s.a,s.b,t.a,t.b],bothP s t q=true→q=f∨q=e:=fun q hq hb=>by
   have hql:=line q hq
   have hk:=(both q hql).1 hb
   have four:q=s.a∨q=s.b∨q=u∨q=v:=by
    simp only[List.mem_cons,List.not_mem_nil,or_false] at hq
    rcases hset with ⟨e1,e2⟩ | ⟨e1,e2⟩ <;> rw[e1,e2]
    ·exact hq
    rcases hq with h | h | h | h
    ·exact Or.inl h
    ·exact Or.inr (Or.inl h)
    ·exact Or.inr (Or.inr (Or.inr h))
    exact Or.inr (Or.inr (Or.inl h))
   have:key s q=key s f∨key s q=key s e:=by
    rcases four with h | h | h | h <;> rw[h] at hk ⊢ <;> omega
   rcases this with h | h
   ·exact Or.inl (key_inj hne hql hf h)
   exact Or.inr (key_inj hne hql he h)
  by_cases hlt:key s f<key s e
  ·rw[if_pos ((lt _ _).2 hlt)]
   have bf:bothP s t f=true:=(both f hf).2 (by omega)
   have be:bothP s t e=true:=(both e he).2 (by omega)
   have hfe:f≠e:=fun h=>by rw[h] at hlt;omega
   have hfar:=far_lt hne hf he (by omega) hlt
   rcases ends_two s t hfe only ⟨f,memf,bf,rfl⟩ ⟨e,meme,be,rfl⟩ with h | h
   ·have h':endsR s t=[f,e]:=h
    rw[h']
    show (if (2:Nat)<2 then none else if farR s.a e<farR s.a f then some (Sd.mk e f) else some (Sd.mk f e))=some (Sd.mk f e)
    rw[if_neg (by omega),if_neg (by omega)]
   have h':endsR s t=[e,f]:=h
   rw[h']
   show (if (2:Nat)<2 then none else if farR s.a f<farR s.a e then some (Sd.mk f e) else some (Sd.mk e f))=some (Sd.mk f e)
   rw[if_neg (by omega),if_pos hfar]
  rw[if_neg (fun h=>hlt ((lt _ _).1 h))]
  rw[if_pos]
  have all1:∀ q∈[s.a,s.b,t.a,t.b],bothP s t q=true→q=f:=fun q hq hb=>by
   have hk:=(both q (line q hq)).1 hb
   rcases only q hq hb with h | h
   ·exact h
   exact key_inj hne (line q hq) hf (by rw[h] at hk ⊢;omega)
  rcases ends_few s t all1 (Or.inl rfl) with h | h
  ·have h':endsR s t=[]:=h
   rw[h'];exact (by decide:(0:Nat)<2)
  have h':endsR s t=[f]:=h
  rw[h'];exact (by decide:(1:Nat)<2)
 rw[if_pos (show crs s t.a≠0∨crs s t.b≠0 from by omega),if_neg (fun h=>hcol ⟨trnZ.1 h.1,trnZ.1 h.2⟩)]
end
theorem borderR_eq {a b:List Pt} (ha:∀ i,i<a.length→(sd a i).a≠(sd a i).b) (hb:∀ i,i<b.length→(sd b i).a≠(sd b i).b):borderR a b=borderP a b:=by
 unfold borderR borderP
 have hs:∀ (l:List Pt),(∀ i,i<l.length→(sd l i).a≠(sd l i).b)→∀ s∈sds l,s.a≠s.b:=fun l hl s hs=>by
  unfold sds at hs
  obtain⟨i,hi,rfl⟩:=List.mem_map.1 hs
  exact hl i (List.mem_range.1 hi)
 have main:∀ l:List Sd,(∀ s∈l,s.a≠s.b)→l.flatMap (fun s=>(sds b).filterMap fun t=>commonR s t)=l.flatMap (fun s=>(sds b).filterMap fun t=>commonS s t):=fun l=>by
  induction l with
  | nil=>intro _;rfl
  | cons s l ih =>
   intro h
   rw[List.flatMap_cons,List.flatMap_cons,ih (fun x hx=>h x (List.mem_cons_of_mem _ hx))]
   congr 1
   have inner:∀ m:List Sd,(∀ t∈m,t.a≠t.b)→m.filterMap (fun t=>commonR s t)=m.filterMap (fun t=>commonS s t):=fun m=>by
    induction m with
    | nil=>intro _;rfl
    | cons t m ihm =>
     intro hm
     rw[List.filterMap_cons,List.filterMap_cons,common_eq (h s (List.mem_cons_self ..)) (hm t (List.mem_cons_self ..)),ihm (fun x hx=>hm x (List.mem_cons_of_mem _ hx))]
   exact inner _ (hs b hb)
 exact main _ (hs a ha)
end Cal
end Go.Proofs.YthfokpchdlcidaaGreat
namespace Go.Proofs.YthfokpchdlcidaaGreat
open Go Go.RowKit Go.Shelf
theorem farR_any (p q:Pt) (w:World) (hp:SmP p) (hq:SmP q):Calls Tryz.prog 123 #[.agg #[.int .i64 p.x,.int .i64 p.y],.agg #[.int .i64 q.x,.int .i64 q.y]] w fun e w'=>e=.returned (.int .i64 (Cal.farR p q))∧Below w.heap.size w w':=by
 obtain⟨x0,x1,x2,x3⟩:=hp
 obtain⟨z0,z1,z2,z3⟩:=hq
 have q1:IntKind.i64.wrap (q.x-p.x)=q.x-p.x:=wrap_small (by omega) (by omega)
 have q2:IntKind.i64.wrap (q.y-p.y)=q.y-p.y:=wrap_small (by omega) (by omega)
 have q3:IntKind.i64.wrap (((q.x-p.x).natAbs:Int)+((q.y-p.y).natAbs:Int))=((q.x-p.x).natAbs:Int)+((q.y-p.y).natAbs:Int):=wrap_small (by omega) (by omega)
 have q3b:wrap64 (((q.x-p.x).natAbs:Int)+((q.y-p.y).natAbs:Int))=((q.x-p.x).natAbs:Int)+((q.y-p.y).natAbs:Int):=by rw[←wrap_eq];exact q3
 have ha1:=Lib.hid (fun W=>absG_any (q.x-p.x) (by omega) (by omega) W)
 have ha2:=Lib.hid (fun W=>absG_any (q.y-p.y) (by omega) (by omega) W)
 have hF:Hid (Cal.farR p q=((q.x-p.x).natAbs:Int)+((q.y-p.y).natAbs:Int)):=rfl
 rw[hF.out]
 have b1:=BoxAt.new (w.alloc (.cells #[.int .i64 p.x,.int .i64 p.y] 27)) #[.int .i64 q.x,.int .i64 q.y] 27
 rw[World.size_alloc] at b1
 have b0:=(BoxAt.new w #[.int .i64 p.x,.int .i64 p.y] 27).alloc (.cells #[.int .i64 q.x,.int .i64 q.y] 27)
 obtain⟨c0,c1⟩:=b0.c2;obtain⟨d0,d1⟩:=b1.c2
 have hb:=Lib.hid (below_step (below_alloc w (.cells #[.int .i64 p.x,.int .i64 p.y] 27)) (below_alloc _ (.cells #[.int .i64 q.x,.int .i64 q.y] 27)))
 clear b0 b1 x0 x1 x2 x3 z0 z1 z2 z3
 go_enter Tryz.func123,Tryz.ntmps123
 go_wp2_with fail
 refine wp_region_held_drew (S:=Sx w [(w.heap.size,0,.int .i64 p.x),(w.heap.size,1,.int .i64 p.y),(w.heap.size+1,0,.int .i64 q.x),(w.heap.size+1,1,.int .i64 q.y)]) (by kernel_rfl) (Sx.mk (by simp only[cs_iff_cons];exact⟨c0,c1,d0,d1,cs_nil _⟩) hb.out).drew (fun hHeld=>?_)
 clear c0 c1 d0 d1
 refine tkHx 0 5 ?_
 refine tkHx 1 6 ?_
 refine tkHx 2 7 ?_
 refine tkHx 3 8 ?_
 refine tkHx 4 9 ?_
 refine tkHx 6 11 ?_
 refine tkHx 7 12 ?_
 refine tkHx 8 13 ?_
 refine tkHx 9 14 ?_
 refine tkHx 10 15 ?_
 (refine ratHx 5 (fun K hK=>?_);go_simp)
 refine (ha1.out _).mono ?_
 rintro e0 wz ⟨rfl,rfl⟩
 go_simp
 (refine hK.out _ _ hHeld (fun hHeld=>?_);clear hK K;(try simp only[apS,apN,siA,scZ,scS]))
 (refine ratHx 11 (fun K hK=>?_);go_simp)
 refine (ha2.out _).mono ?_
 rintro e0 wz ⟨rfl,rfl⟩
 go_simp
 (refine hK.out _ _ hHeld (fun hHeld=>?_);clear hK K;(try simp only[apS,apN,siA,scZ,scS]))
 refine tkHx 12 17 ?_
 refine tkHx 13 4 ?_
 refine wpAnyH_done (by kernel_rfl) ?_ _
 (try simp only[apS,apN,siA,scZ,scS])
 go_wp2_with fail
 go_ret
 exact⟨rfl,hHeld.bel⟩
theorem CmI.firstR (w:World) (s t:Sd):CmI w s t (((w.alloc (.cells #[.int .i64 s.a.x,.int .i64 s.a.y,.int .i64 s.b.x,.int .i64 s.b.y] 90)).alloc (.cells #[.int .i64 t.a.x,.int .i64 t.a.y,.int .i64 t.b.x,.int .i64 t.b.y] 90)).alloc (.cells #[.int .i64 0,.int .i64 0,.int .i64 0,.int .i64 0] 90)):=by
 have h2:=(BoxAt.new (w.alloc (.cells #[.int .i64 s.a.x,.int .i64 s.a.y,.int .i64 s.b.x,.int .i64 s.b.y] 90)) #[.int .i64 t.a.x,.int .i64 t.a.y,.int .i64 t.b.x,.int .i64 t.b.y] 90).alloc (.cells #[.int .i64 0,.int .i64 0,.int .i64 0,.int .i64 0] 90)
 have h3:=BoxAt.new ((w.alloc (.cells #[.int .i64 s.a.x,.int .i64 s.a.y,.int .i64 s.b.x,.int .i64 s.b.y] 90)).alloc (.cells #[.int .i64 t.a.x,.int .i64 t.a.y,.int .i64 t.b.x,.int .i64 t.b.y] 90)) #[.int .i64 0,.int .i64 0,.int .i64 0,.int .i64 0] 90
 simp only[World.size_alloc] at h2 h3
 exact⟨((BoxAt.new w #[.int .i64 s.a.x,.int .i64 s.a.y,.int .i64 s.b.x,.int .i64 s.b.y] 90).alloc _).alloc _,h2,h3,below_step (below_step (below_alloc _ _) (below_alloc _ _)) (below_alloc _ _)⟩
def fourR (s t:Sd):List Pt:=[s.a,s.b,t.a,t.b]
def endsTo (s t:Sd) (k:Nat):List Pt:=((fourR s t).take k).foldl (Cal.endR s t) []
theorem endsTo_succ {s t:Sd} {k:Nat} (h:k<4):endsTo s t (k+1)=Cal.endR s t (endsTo s t k) ((fourR s t)[k]?.getD Cal.pt0):=by
 unfold endsTo
 have hk:k<(fourR s t).length:=h
 rw[List.take_succ_eq_append_getElem hk,List.foldl_append,List.getElem?_eq_getElem hk]
 rfl
theorem endR_len {s t:Sd} {acc:List Pt} {q:Pt} (h:acc.length≤2):(Cal.endR s t acc q).length≤2:=by
 unfold Cal.endR
 split
 ·rename_i h1
  rw[Bool.and_eq_true,decide_eq_true_iff] at h1
  rw[List.length_append,List.length_singleton];omega
 exact h
theorem endsTo_len (s t:Sd):∀ k,k≤4→(endsTo s t k).length≤2
 | 0,_=>by show 0≤2;decide
 | k+1,h=>by rw[endsTo_succ (by omega)];exact endR_len (endsTo_len s t k (by omega))
theorem fourR_sm {s t:Sd} (hs:SmS s) (ht:SmS t):∀ p∈fourR s t,SmP p:=fun p hp=>by
 unfold fourR at hp
 simp only[List.mem_cons,List.not_mem_nil,or_false] at hp
 rcases hp with rfl | rfl | rfl | rfl
 ·exact hs.a
 ·exact hs.b
 ·exact ht.a
 exact ht.b
theorem endR_mem {s t:Sd} {acc:List Pt} {q:Pt}:∀ p∈Cal.endR s t acc q,p∈acc∨p=q:=fun p hp=>by
 unfold Cal.endR at hp
 split at hp
 ·rcases List.mem_append.1 hp with h | h
  ·exact Or.inl h
  exact Or.inr (List.mem_singleton.1 h)
 exact Or.inl hp
theorem endsTo_sm {s t:Sd} (hs:SmS s) (ht:SmS t):∀ k,k≤4→∀ p∈endsTo s t k,SmP p
 | 0,_,p,hp=>by cases hp
 | k+1,h,p,hp=>by
  rw[endsTo_succ (by omega)] at hp
  rcases endR_mem p hp with h1 | h1
  ·exact endsTo_sm hs ht k (by omega) p h1
  rw[h1]
  have hk:k<(fourR s t).length:=by show k<4;omega
  rw[List.getElem?_eq_getElem hk]
  exact fourR_sm hs ht _ (List.getElem_mem hk)
end Go.Proofs.YthfokpchdlcidaaGreat
