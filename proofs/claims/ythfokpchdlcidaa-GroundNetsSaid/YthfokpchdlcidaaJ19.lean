/- What the statements rest on: definitions and walks, part 19. -/
import Derived.Test.YthfokpchdlcidaaJ11
set_option maxRecDepth 100000
set_option maxHeartbeats 16000000
set_option linter.unusedSimpArgs false
set_option linter.unusedVariables false
namespace Go.Proofs.Ythfokpchdlcidaa
open Go Go.RowKit
theorem Within_any (n lo hi : Int) (w : World) :
  Calls Try.prog 30 #[.int .i64 n,.int .i64 lo,.int .i64 hi] w fun e w'=>e = .returned (.bool (decide (lo ≤ n) && decide (n ≤ hi))) ∧ w = w':=by
 by_cases h1 : lo ≤ n
 ·by_cases h2 : n ≤ hi
  all_goals
   go_enter Try.func30,Try.ntmps30
   go_wp2
   go_ret
   exact ⟨by simp;omega,rfl⟩
 ·go_enter Try.func30,Try.ntmps30
  go_wp2
  go_ret
  exact ⟨by simp;omega,rfl⟩
end Go.Proofs.Ythfokpchdlcidaa
namespace Go.Proofs.Ythfokpchdlcidaa
open Go Go.RowKit
structure Hol where
 name : ByteArray
 kind : Int
 month : Int
 day : Int
 weekday : Int
end Go.Proofs.Ythfokpchdlcidaa
namespace Go.Proofs.Ythfokpchdlcidaa
open Go Go.RowKit
structure Per where
 m : Int
 d : Int
 k : Bool
structure Proc where
 runs : Per
 obj : Per
 wait : Per
 exts : Int
 longest : Int
 hols : List Hol
structure NSt where
 phase : Int
 last : Int
 deadline : Int
 object : Int
 objected : Int
 extended : Int
end Go.Proofs.Ythfokpchdlcidaa
namespace Go.Proofs.Ythfokpchdlcidaa
open Go Go.RowKit
structure StAt (w : World) (B : Nat) (A : Option Addr) (c : Nat) (p : Proc) (s : NSt) : Prop where
 range : w.rangeAt B 0 [.int .i64 p.runs.m,.int .i64 p.runs.d,.bool p.runs.k,.int .i64 p.obj.m,.int .i64 p.obj.d,.bool p.obj.k,.int .i64 p.wait.m,.int .i64 p.wait.d,.bool p.wait.k,.int .i64 p.exts,.int .i64 p.longest,.slice A p.hols.length c,.int .i64 s.phase,.int .i64 s.last,.int .i64 s.deadline,.int .i64 s.object,.int .i64 s.objected,.int .i64 s.extended]
 lt : B < w.heap.size
end Go.Proofs.Ythfokpchdlcidaa
namespace Go.Proofs.Ythfokpchdlcidaa
open Go Go.RowKit
structure Grad where
 t0 : Int
 t1 : Int
 t2 : Int
 p0 : Int
 p1 : Int
 p2 : Int
 m0 : Int
 m1 : Int
 m2 : Int
 m3 : Int
theorem BoxAt.nums {w : World} {B : Nat} {cs : List Value} (h : BoxAt w B cs) (o : Nat) (zs : List Int) (hl : zs.length ≤ 1000000) (hc : ∀ (k : Nat) z,zs[k]? = some z → cs[o + k]? = some (.int .i64 z)) : NumsAt w B o zs:=⟨fun k z hz=>h.c _ _ (hc k z hz),h.lt,hl⟩
end Go.Proofs.Ythfokpchdlcidaa
namespace Go.Proofs.Ythfokpchdlcidaa.Cal
theorem lowD_mul (a b : Int) : lowD a b * Int.gcd a b = b:=by
 unfold lowD
 exact Int.tdiv_mul_cancel (Int.gcd_dvd_right ..)
theorem lowD_pos {a b : Int} (hb : 0 < b) : 0 < lowD a b:=by
 have h1:=lowD_mul a b
 have h2:=gcd_pos (a:=a) hb
 rcases Int.lt_or_le 0 (lowD a b) with h | h
 ·exact h
 ·have:=Int.mul_nonpos_of_nonpos_of_nonneg h (by omega : (0 : Int) ≤ (Int.gcd a b : Int))
  omega
def more (parts den : Int) : Int:=den.tdiv (Int.gcd parts den)
theorem more_pos {parts den : Int} (hd : 0 < den) : 0 < more parts den:=lowD_pos (a:=parts) hd
theorem dvd_parts_more {parts den : Int} : parts ∣ parts * more parts den ∧ den ∣ parts * more parts den:=by
 refine ⟨⟨more parts den,rfl⟩,?_⟩
 have hm:=lowD_mul parts den
 obtain ⟨k,hk⟩ : (Int.gcd parts den : Int) ∣ parts:=Int.gcd_dvd_left ..
 refine ⟨k,?_⟩
 unfold more
 unfold lowD at hm
 generalize (Int.gcd parts den : Int) = g at *
 generalize den.tdiv g = m at *
 rw [hk,← hm]
 grind
end Go.Proofs.Ythfokpchdlcidaa.Cal
namespace Go.Proofs.Ythfokpchdlcidaa
open Go Go.RowKit Go.ChangeShapes Go.WideShapes Go.Deep
theorem wf_bounds {n : Int} (h : (Lit.int .i64 n).wf = true) : -9223372036854775808 ≤ n ∧ n ≤ 9223372036854775807:=by
 simp only [Lit.wf,Bool.and_eq_true,decide_eq_true_eq] at h
 exact h
end Go.Proofs.Ythfokpchdlcidaa
namespace Go.Proofs.Ythfokpchdlcidaa
namespace Cal
structure Poly (ps : List Pt) : Prop where
 three : 3 ≤ ps.length
 nd : ps.Nodup
 sim : simpleP ps = true
section
variable {ps : List Pt}
theorem Poly.parts (h : Poly ps) {i : Nat} (hi : i < ps.length) : backS ps i = false ∧ ∀ k,k < ps.length → badK ps i k = false:=by
 have:=h.sim
 unfold simpleP at this
 rw [List.all_eq_true] at this
 have h1:=this i (List.mem_range.2 hi)
 rw [Bool.and_eq_true,Bool.not_eq_true',List.all_eq_true] at h1
 refine ⟨h1.1,fun k hk=>?_⟩
 have:=h1.2 k (List.mem_range.2 hk)
 simpa using this
end
end Cal
end Go.Proofs.Ythfokpchdlcidaa
namespace Go.Proofs.Ythfokpchdlcidaa
open Go Go.RowKit Go.Shelf
theorem wrap_u64 (a : Int) : IntKind.u64.wrap a = a % 18446744073709551616:=by
 unfold IntKind.wrap
 simp [IntKind.bits,IntKind.signed]
theorem size_any (n : Int) (w : World) (h1 : -9223372036854775808 ≤ n) (h2 : n ≤ 9223372036854775807) : Calls Try.prog 65 #[.int .i64 n] w fun e w'=>e = .returned (.int .u64 (n.natAbs : Int)) ∧ w = w':=by
 by_cases h : n < 0
 ·have e1 : IntKind.u64.wrap n = n + 18446744073709551616:=by rw [wrap_u64];omega
  have e2 : IntKind.u64.wrap (-(n + 18446744073709551616)) = (n.natAbs : Int):=by rw [wrap_u64];omega
  have hf : Hid (IntKind.u64.wrap (-(n + 18446744073709551616)) = (n.natAbs : Int)):=e2
  clear e2
  go_enter Try.func65,Try.ntmps65
  go_wp2
  go_ret
  exact ⟨by rw [← hf.out];rfl,rfl⟩
 ·have e1 : IntKind.u64.wrap n = n:=by rw [wrap_u64];omega
  have hf : Hid ((n.natAbs : Int) = n):=by show _ = _;omega
  go_enter Try.func65,Try.ntmps65
  go_wp2
  go_ret
  exact ⟨by rw [hf.out];rfl,rfl⟩
theorem BoxAt.aside1 {W : World} {B b o : Nat} {cs : List Value} (h : BoxAt W B cs) (hne : B ≠ b) (v : Value) : BoxAt (W.setCell ⟨b,o,none⟩ v) B cs :=
 h.grown (row:=some b) ⟨rfl,rfl,rfl,by rw [World.size_setCell];exact Nat.le_refl _,fun k _ hk=>Below.heap_setCell W ⟨b,o,none⟩ v k (fun e=>hk (by rw [e]))⟩ (fun e=>hne (by cases e;rfl))
end Go.Proofs.Ythfokpchdlcidaa
namespace Go.Proofs.Ythfokpchdlcidaa.Cal
def bigH (h : Int × Int) : Bool:=decide (2000000 * h.2 < (h.1.natAbs : Int))
def hErr (p : Int) (h : Int × Int) : Int:=if h.2 < 1 then 3 else if Int.gcd h.1 h.2 ≠ 1 then 3 else if bigH h = true then 2 else if (4000000000 : Int).tdiv p < more p h.2 then 8 else 0
def scl : Int → List (Int × Int) → Int × Int
 | p,[]=>(0,p)
 | p,h :: r=>if hErr p h = 0 then scl (p * more p h.2) r else (hErr p h,0)
def sclE (n : Int) (l : List (Int × Int)) : Int:=if (l.length : Int) = n then (scl 1 l).1 else 10
def sclP (n : Int) (l : List (Int × Int)) : Int:=if (l.length : Int) = n then (if (scl 1 l).1 = 0 then (scl 1 l).2 else 0) else 0
theorem hErr_zero {p : Int} {h : Int × Int} (e : hErr p h = 0) : 1 ≤ h.2 ∧ Int.gcd h.1 h.2 = 1 ∧ bigH h = false ∧ more p h.2 ≤ (4000000000 : Int).tdiv p:=by
 unfold hErr at e
 split at e
 ·cases e
 ·split at e
  ·cases e
  ·split at e
   ·cases e
   ·split at e
    ·cases e
    ·rename_i h1 h2 h3 h4
     exact ⟨by omega,by simpa using h2,by simpa using h3,by omega⟩
theorem part_le {p d : Int} (hp : 1 ≤ p) (hd : 1 ≤ d) (h : more p d ≤ (4000000000 : Int).tdiv p) : 1 ≤ p * more p d ∧ p * more p d ≤ 4000000000:=by
 have h1:=more_pos (parts:=p) (den:=d) (by omega)
 have h2 : p * (4000000000 : Int).tdiv p ≤ 4000000000:=by
  rw [Int.tdiv_eq_ediv_of_nonneg (by omega)]
  exact Int.mul_ediv_self_le (by omega)
 have h3:=Int.mul_le_mul_of_nonneg_left h (by omega : 0 ≤ p)
 have h4:=Int.mul_pos (by omega : 0 < p) h1
 omega
theorem scl_good : ∀ (l : List (Int × Int)) (p : Int),1 ≤ p → p ≤ 4000000000 → (scl p l).1 = 0 → 1 ≤ (scl p l).2 ∧ (scl p l).2 ≤ 4000000000 ∧ p ∣ (scl p l).2 ∧ ∀ h ∈ l,1 ≤ h.2 ∧ Int.gcd h.1 h.2 = 1 ∧ bigH h = false ∧ h.2 ∣ (scl p l).2
 | [],p,h1,h2,_=>⟨h1,h2,Int.dvd_refl _,fun h hh=>by cases hh⟩
 | h :: r,p,h1,h2,e=>by
  by_cases hz : hErr p h = 0
  ·obtain ⟨a,b,c,d⟩:=hErr_zero hz
   obtain ⟨q1,q2⟩:=part_le h1 a d
   have e' : scl p (h :: r) = scl (p * more p h.2) r:=if_pos hz
   rw [e'] at e ⊢
   obtain ⟨g1,g2,g3,g4⟩:=scl_good r (p * more p h.2) q1 q2 e
   obtain ⟨d1,d2⟩:=dvd_parts_more (parts:=p) (den:=h.2)
   refine ⟨g1,g2,Int.dvd_trans d1 g3,fun x hx=>?_⟩
   rcases List.mem_cons.1 hx with rfl | hx
   ·exact ⟨a,b,c,Int.dvd_trans d2 g3⟩
   ·exact g4 x hx
  ·have e' : scl p (h :: r) = (hErr p h,0):=if_neg hz
   rw [e'] at e
   exact absurd e hz
theorem sclH_box {p : Int} {h : Int × Int} (hp : 1 ≤ p) (hp2 : p ≤ 4000000000) (hd : 1 ≤ h.2) (hb : bigH h = false) : -8000000000000000 ≤ sclH p h ∧ sclH p h ≤ 8000000000000000:=by
 have hb:=of_decide_eq_false hb
 have q0 : 0 ≤ p.tdiv h.2:=Int.tdiv_nonneg (by omega) (by omega)
 have q1 : h.2 * p.tdiv h.2 ≤ p:=by
  rw [Int.tdiv_eq_ediv_of_nonneg (by omega)]
  exact Int.mul_ediv_self_le (by omega)
 unfold sclH
 generalize p.tdiv h.2 = q at *
 have h1 : h.1 ≤ 2000000 * h.2:=by omega
 have h2 : -(2000000 * h.2) ≤ h.1:=by omega
 have h3:=Int.mul_le_mul_of_nonneg_right h1 q0
 have h4:=Int.mul_le_mul_of_nonneg_right h2 q0
 have e1 : 2000000 * h.2 * q = 2000000 * (h.2 * q):=by rw [Int.mul_assoc]
 have e2 : -(2000000 * h.2) * q = -(2000000 * (h.2 * q)):=by rw [Int.neg_mul,e1]
 omega
def hAt0 (l : List (Int × Int)) (i : Int) : Int × Int:=l[i.toNat]?.getD (0,1)
def resV (p : Int) (fr : List (Int × Int)) (x : Lev) : Int:=x.d * p - sclH p (hAt0 fr x.t) + sclH p (hAt0 fr x.f)
theorem sclE_zero {n : Int} {l : List (Int × Int)} (h : sclE n l = 0) : (l.length : Int) = n ∧ sclP n l = (scl 1 l).2 ∧ 1 ≤ sclP n l ∧ sclP n l ≤ 4000000000 ∧ ∀ h ∈ l,1 ≤ h.2 ∧ Int.gcd h.1 h.2 = 1 ∧ bigH h = false ∧ h.2 ∣ sclP n l:=by
 unfold sclE at h
 split at h
 ·rename_i hl
  have hg:=scl_good l 1 (by decide) (by decide) h
  have e : sclP n l = (scl 1 l).2:=by unfold sclP;rw [if_pos hl,if_pos h]
  rw [e]
  exact ⟨hl,rfl,hg.1,hg.2.1,hg.2.2.2⟩
 ·cases h
theorem hAt0_box {n : Int} {l : List (Int × Int)} (he : sclE n l = 0) (i : Int) : -8000000000000000 ≤ sclH (sclP n l) (hAt0 l i) ∧ sclH (sclP n l) (hAt0 l i) ≤ 8000000000000000:=by
 obtain ⟨_,_,p1,p2,hall⟩:=sclE_zero he
 unfold hAt0
 cases h : l[i.toNat]? with
 | none=>exact sclH_box p1 p2 (by decide) (by decide)
 | some x =>
  obtain ⟨a,_,b,_⟩:=hall x (List.mem_of_getElem? h)
  exact sclH_box p1 p2 a b
theorem resV_box {n : Int} {l : List Lev} {fr : List (Int × Int)} (hz : netE n l = 0) (he : sclE n fr = 0) : ∀ x ∈ l,-16400000000000000 ≤ resV (sclP n fr) fr x ∧ resV (sclP n fr) fr x ≤ 16400000000000000:=fun x hx=>by
 have hl:=levE_zero ((netE_zero hz).2.2.2.1 x hx)
 obtain ⟨_,_,p1,p2,_⟩:=sclE_zero he
 have h1:=hAt0_box he x.t
 have h2:=hAt0_box he x.f
 have h3:=mul_le_of (a:=x.d) (b:=sclP n fr) (M:=100000) (N:=4000000000) (by omega) (by omega) (by omega) (by omega)
 unfold resV
 omega
end Go.Proofs.Ythfokpchdlcidaa.Cal
