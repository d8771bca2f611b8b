/- What the statements rest on: definitions and walks, part 28. -/
import Derived.Test.YthfokpchdlcidaaJ19
import Derived.Test.YthfokpchdlcidaaJ18
set_option maxRecDepth 100000
set_option maxHeartbeats 16000000
set_option linter.unusedSimpArgs false
set_option linter.unusedVariables false
namespace Go.Proofs.Ythfokpchdlcidaa
open Go Go.RowKit
theorem StAt.c9 {w : World} {B : Nat} {A : Option Addr} {c : Nat} {p : Proc} {s : NSt} (h : StAt w B A c p s) : w.cell? ⟨B,9,none⟩ = some (.int .i64 p.exts):=h.range 9 _ rfl
end Go.Proofs.Ythfokpchdlcidaa
namespace Go.Proofs.Ythfokpchdlcidaa
open Go Go.RowKit
structure StW (w : World) (B : Nat) (A : Option Addr) (c : Nat) (p : Proc) (s : NSt) : Prop where
 at_ : StAt w B A c p s
 free : ∀ j,j < 18 → w.frozen? ⟨B,j,none⟩ = false
end Go.Proofs.Ythfokpchdlcidaa
namespace Go.Proofs.Ythfokpchdlcidaa
open Go Go.RowKit
theorem BoxAt.aside {w : World} {B B' : Nat} {cs : List Value} (h : BoxAt w B cs) (xs : List Value) (hne : B ≠ B') : BoxAt (w.setCells B' 0 xs) B cs:=h.grown (grown_setCells B' xs 0 w) (fun e=>hne (by cases e;rfl))
theorem BoxAt.st {w : World} {B : Nat} {A : Option Addr} {c : Nat} {p : Proc} {s : NSt} (h : BoxAt w B [.int .i64 p.runs.m,.int .i64 p.runs.d,.bool p.runs.k,.int .i64 p.obj.m,.int .i64 p.obj.d,.bool p.obj.k,.int .i64 p.wait.m,.int .i64 p.wait.d,.bool p.wait.k,.int .i64 p.exts,.int .i64 p.longest,.slice A p.hols.length c,.int .i64 s.phase,.int .i64 s.last,.int .i64 s.deadline,.int .i64 s.object,.int .i64 s.objected,.int .i64 s.extended]) : StW w B A c p s:=⟨⟨h.range,h.lt⟩,h.free⟩
end Go.Proofs.Ythfokpchdlcidaa
namespace Go.Proofs.Ythfokpchdlcidaa
open Go Go.RowKit Go.Shelf
attribute [local go_sem] Oper.semAt_some
theorem Two.one {b c o : Nat} {W W' : World} (h : Two b c W W') : W'.cell? ⟨b,o,none⟩ = W.cell? ⟨b,o,none⟩:=World.cell?_of_block (a:=⟨b,o,none⟩) h.1
end Go.Proofs.Ythfokpchdlcidaa
namespace Go.Proofs.Ythfokpchdlcidaa
open Go Go.RowKit
def Chk.part (order : List Int) (q : Chk order.length) : List Int:=(order.drop q.1.1).take q.1.2
end Go.Proofs.Ythfokpchdlcidaa
namespace Go.Proofs.Ythfokpchdlcidaa
open Go Go.RowKit
theorem gp {w : World} {B : Nat} {g : Grad} (h : BoxAt w B [.int .i64 g.t0,.int .i64 g.t1,.int .i64 g.t2,.int .i64 g.p0,.int .i64 g.p1,.int .i64 g.p2,.int .i64 g.m0,.int .i64 g.m1,.int .i64 g.m2,.int .i64 g.m3]) : NumsAt w B 3 [g.p0,g.p1,g.p2]:=h.nums 3 _ (by simp) (fun k z hz=>by match k,hz with | 0,hz=>cases hz;rfl | 1,hz=>cases hz;rfl | 2,hz=>cases hz;rfl)
end Go.Proofs.Ythfokpchdlcidaa
namespace Go.Proofs.Ythfokpchdlcidaa
open Go Go.RowKit
def Cal.rest (u : Nat) : List UInt8:=if u = 0 then [] else Lib.decDigits u
def DecI (U u : Nat) (s : ByteArray) : Prop:=(s.data.toList = [] ∧ u = U) ∨ (s.data.toList ≠ [] ∧ Cal.rest u ++ s.data.toList = Lib.decDigits U)
theorem DecI.done {U : Nat} {s : ByteArray} (h : DecI U 0 s) (hc : s.data.toList ≠ []) : s.data.toList = Lib.decDigits U:=by
 rcases h with ⟨h1,_⟩ | ⟨_,h2⟩
 ·exact absurd h1 hc
 ·unfold Cal.rest at h2;simpa using h2
end Go.Proofs.Ythfokpchdlcidaa
namespace Go.Proofs.Ythfokpchdlcidaa.Cal
open Go.Lib
def cutT (c : UInt8) : List UInt8 → List (List UInt8)
 | []=>[[]]
 | x :: r=>if x = c then [] :: cutT c r else (x :: (cutT c r).headD []) :: (cutT c r).tail
theorem cutT_free {c : UInt8} {a : List UInt8} (h : c ∉ a) : cutT c a = [a]:=by
 induction a with
 | nil=>rfl
 | cons x r ih =>
  have hx : x ≠ c:=fun e=>h (e ▸ List.mem_cons_self)
  rw [cutT,if_neg hx,ih (fun hm=>h (List.mem_cons_of_mem _ hm))];rfl
theorem cutT_sep {c : UInt8} {a : List UInt8} (h : c ∉ a) (r : List UInt8) : cutT c (a ++ c :: r) = a :: cutT c r:=by
 induction a with
 | nil=>rw [List.nil_append,cutT,if_pos rfl]
 | cons x t ih =>
  have hx : x ≠ c:=fun e=>h (e ▸ List.mem_cons_self)
  rw [List.cons_append,cutT,if_neg hx,ih (fun hm=>h (List.mem_cons_of_mem _ hm))];rfl
structure CutTo (c : UInt8) (l : List UInt8) (out : List (List UInt8)) (st i : Nat) : Prop where
 all : out ++ cutT c (l.drop st) = cutT c l
 free : c ∉ (l.drop st).take (i - st)
 le : st ≤ i
theorem CutTo.hit {c : UInt8} {l : List UInt8} {out : List (List UInt8)} {st i : Nat} (h : CutTo c l out st i) (hi : l[i]? = some c) : CutTo c l (out ++ [(l.drop st).take (i - st)]) (i + 1) (i + 1):=by
 have hle:=h.le
 have hlt : i < l.length:=(List.getElem?_eq_some_iff.1 hi).1
 have e : l.drop st = (l.drop st).take (i - st) ++ c :: l.drop (i + 1):=by
  conv=>lhs;rw [← List.take_append_drop (i - st) (l.drop st)]
  rw [List.drop_drop,show st + (i - st) = i by omega,List.drop_eq_getElem_cons hlt]
  rw [List.getElem?_eq_getElem hlt] at hi
  rw [Option.some.inj hi]
 refine ⟨?_,by simp,Nat.le_refl _⟩
 rw [← h.all]
 conv=>rhs;rw [e]
 rw [cutT_sep h.free,List.append_assoc]
 rfl
theorem CutTo.done {c : UInt8} {l : List UInt8} {out : List (List UInt8)} {st : Nat} (h : CutTo c l out st l.length) : cutT c l = out ++ [l.drop st]:=by
 have hf:=h.free
 rw [List.take_of_length_le (by rw [List.length_drop];omega)] at hf
 rw [← h.all,cutT_free hf]
end Go.Proofs.Ythfokpchdlcidaa.Cal
namespace Go.Proofs.Ythfokpchdlcidaa
open Go Go.RowKit
theorem list_len (s : ByteArray) : s.data.toList.length = s.size:=(Lib.size_eq s).symm
def DecTo (l : List UInt8) (k m : Nat) : Prop:=Lib.decFrom 0 (l.take k) = some m ∧ m < 10 ^ k
theorem DecTo.done {s : ByteArray} {m : Nat} (h : DecTo s.data.toList s.size m) (h1 : 1 ≤ s.size) : Lib.decNat s.data.toList = some m:=by
 have hl:=list_len s
 have h0:=h.1
 rw [List.take_of_length_le (by omega)] at h0
 unfold Lib.decNat
 rw [if_neg (by rw [List.isEmpty_iff];intro e;rw [e] at hl;simp at hl;omega)]
 exact h0
end Go.Proofs.Ythfokpchdlcidaa
namespace Go.Proofs.Ythfokpchdlcidaa
open Go Go.RowKit Go.Shelf
attribute [local go_sem] Oper.semAt_some
theorem KpS.one {n₀ Bs B o : Nat} {X Y : World} (h : KpS n₀ Bs B X Y) : Y.cell? ⟨Bs,o,none⟩ = X.cell? ⟨Bs,o,none⟩:=World.cell?_of_block (a:=⟨Bs,o,none⟩) h.2
end Go.Proofs.Ythfokpchdlcidaa
namespace Go.Proofs.Ythfokpchdlcidaa
open Go Go.RowKit Go.ChangeShapes Go.WideShapes Go.Deep
section
variable {H : Type} {enc : TypeId × Value → H} {w : World} {spare : Nat → Bool} {held : Bool} {r : Reach} {b0 : Nat} {v : Value} {d : DataW H} {ps : List MemPlace}
theorem trod_cells {t : TypeId} {fs : Array Field} {fuel : Nat} {cs : List Value} {x : DataW H × List MemPlace} (ht : Try.prog.underlying t = some (.struct fs)) (hone : oneCellFields Try.prog fs = true)
  (h : DataW.trod enc Try.prog w 0 spare held fuel t cs = some x) :
  ∃ (n : Nat) (xs : List (DataW H × List MemPlace)),cs.length = Try.prog.cellsOf t ∧ xs.length = fs.size ∧ ∀ (j : Nat) (f : Field),fs[j]? = some f → DataW.trod enc Try.prog w 0 spare held n f.type ((cs.drop j).take 1) = xs[j]?:=by
 obtain ⟨xs,m,_,_,hlen,hxl,hi⟩:=DataW.trod_struct ht h
 refine ⟨m,xs,hlen,hxl,fun j f hj=>?_⟩
 obtain ⟨ho,hk⟩:=hone_of hone j f hj
 have:=hi j f hj
 rwa [ho,hk] at this
theorem pt_of_open (hval : Value.okWide Try.prog w r b0 40 v) (h : DataW.Trod enc Try.prog w 0 spare held 40 v d ps) :
  ∃ p : Pt,v = .agg #[.int .i64 p.x,.int .i64 p.y] ∧ (-9223372036854775808 ≤ p.x ∧ p.x ≤ 9223372036854775807) ∧ (-9223372036854775808 ≤ p.y ∧ p.y ≤ 9223372036854775807):=by
 have hu:=Try.underlying40
 unfold Value.okWide at hval
 rw [hu] at hval
 obtain ⟨cs,rfl,hcs,_⟩:=hval
 obtain ⟨fuel,hf⟩:=h
 obtain ⟨m,xs,hlen,hxl,hi⟩:=trod_cells hu (by kernel_rfl) hf
 have h0:=hi 0 _ rfl
 have h1:=hi 1 _ rfl
 rw [show Try.prog.cellsOf 40 = 2 by kernel_rfl] at hcs
 obtain ⟨l⟩:=cs
 match l,hcs with
 | [a,b],_ =>
  match xs,hxl with
  | [y0,y1],_ =>
   simp [Value.cells] at h0 h1
   obtain ⟨s0,e0,_,w0⟩:=DataW.trod_int Try.underlying3 h0
   obtain ⟨s1,e1,_,w1⟩:=DataW.trod_int Try.underlying3 h1
   cases e0;cases e1
   exact ⟨⟨s0,s1⟩,rfl,wf_bounds w0,wf_bounds w1⟩
end
end Go.Proofs.Ythfokpchdlcidaa
namespace Go.Proofs.Ythfokpchdlcidaa
open Go Go.RowKit Go.Shelf
theorem Area_any (V : Option Addr) (d : Nat) (ps : List Pt) (w : World) (hP : PtsR w V ps) :
  Calls Try.prog 18 #[.slice V ps.length d] w fun e w'=>e = .returned (.tuple #[.int .i64 (if Cal.polyE ps = 0 then Cal.areaP ps else 0),.int .i64 (Cal.polyE ps)]) ∧ Below w.heap.size w w':=by
 have hP:=Lib.hid hP
 by_cases h0 : Cal.polyE ps = 0
 ·have hV:=Lib.hid (hP.out.ptsV h0)
  have h0:=Lib.hid h0
  go_enter Try.func18,Try.ntmps18
  go_wp2_with fail
  refine (CheckPolygon_any V d ps _ hP.out).mono ?_
  rintro e wn ⟨rfl,hbn⟩
  rw [h0.out]
  have hb:=Lib.hid hbn
  clear hbn
  go_wp2_with fail
  refine (area_any V d ps _ (hV.out.below hb.out).pts).mono ?_
  rintro e wm ⟨rfl,hbn⟩
  have hb:=Lib.hid (below_step hb.out hbn)
  clear hbn
  go_wp2_with fail
  go_ret2
  exact ⟨rfl,hb.out⟩
 ·have hn:=Lib.hid h0
  go_enter Try.func18,Try.ntmps18
  go_wp2_with fail
  refine (CheckPolygon_any V d ps _ hP.out).mono ?_
  rintro e wn ⟨rfl,hbn⟩
  have hb:=Lib.hid hbn
  clear hbn
  go_wp2_with fail
  go_ret2
  exact ⟨rfl,hb.out⟩
end Go.Proofs.Ythfokpchdlcidaa
