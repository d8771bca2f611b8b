/- A map that the call made, as a function from keys to values; what a look-up and a store do. Over whatever program. -/
import Derived.Maps.OwnSet
import Derived.Maps.OwnOps
import Derived.Below
import Derived.WalkKit
namespace Go.Proofs.YtoigamkldccnkaaDoor
open Go Go.RowKit Go.Maps Go.WideMaps Go.ChangeMaps
def setAt {κ : Type} [DecidableEq κ] (f : κ → Option Value) (x0 : κ) (v : Value) : κ → Option Value := fun x => if x = x0 then some v else f x
theorem setAt_same {κ : Type} [DecidableEq κ] (f : κ → Option Value) (x : κ) (v : Value) : setAt f x v x = some v := by simp [setAt]
theorem setAt_other {κ : Type} [DecidableEq κ] (f : κ → Option Value) {x0 x : κ} (v : Value) (h : x ≠ x0) : setAt f x0 v x = f x := by simp [setAt, h]
def heldR (v : Value) : Option (DataW Value × List MemPlace) := some (.held v, [])
/-- Block b is a map of at most n entries that reads as f. -/
def MapIs {κ : Type} (P : Program) (k : TypeId) (lit : κ → Lit) (w : World) (b n : Nat) (f : κ → Option Value) : Prop :=
  ∃ D : DataW Value, w.ownsMap P k heldR b n D ∧ ∀ x, WideAt.IsKeyLit (lit x) → Maps.has D (lit x) = (f x).isSome ∧ ∀ z, D.atKey (lit x) (.held z) = .held ((f x).getD z)
variable {P : Program} {k : TypeId} {w : World} {b n : Nat} {κ : Type} {lit : κ → Lit} {f : κ → Option Value}
theorem MapIs.made (P : Program) (k : TypeId) (lit : κ → Lit) (w : World) : MapIs P k lit (w.alloc (.map #[] 0)) w.heap.size 0 (fun _ => none) :=
  ⟨.map [], World.ownsMap_made w P k heldR, fun _ _ => ⟨rfl, fun _ => rfl⟩⟩
theorem MapIs.lt (h : MapIs P k lit w b n f) : b < w.heap.size := by obtain ⟨D, h, _⟩ := h; exact h.lt
theorem MapIs.kept {w' : World} {row : Option Nat} (h : MapIs P k lit w b n f) (hg : w.grownBy w' row) (hne : some b ≠ row) : MapIs P k lit w' b n f := by
  obtain ⟨D, h, hf⟩ := h; exact ⟨D, h.kept hg hne, hf⟩
theorem MapIs.same {w' : World} (h : MapIs P k lit w b n f) (hb : w'.heap[b]? = w.heap[b]?) : MapIs P k lit w' b n f := by
  obtain ⟨D, ⟨es, clock, h1, h2⟩, hf⟩ := h
  exact ⟨D, ⟨es, clock, hb.trans h1, h2⟩, hf⟩
theorem MapIs.alloc (h : MapIs P k lit w b n f) (o : Obj) : MapIs P k lit (w.alloc o) b n f := h.kept (World.grownBy_alloc w o none) (by simp)
theorem MapIs.below {w' : World} {B : Nat} (h : MapIs P k lit w b n f) (hb : Below B w w') (hlt : b < B) : MapIs P k lit w' b n f := h.same (hb.block b hlt)
theorem MapIs.setCell (h : MapIs P k lit w b n f) {a : Addr} (ha : b ≠ a.block) (u : Value) : MapIs P k lit (w.setCell a u) b n f := h.same (Below.heap_setCell w a u b ha)
theorem MapIs.mono (h : MapIs P k lit w b n f) {n' : Nat} (hn : n ≤ n') : MapIs P k lit w b n' f := by obtain ⟨D, h, hf⟩ := h; exact ⟨D, h.mono hn, hf⟩
theorem MapIs.isMap (h : MapIs P k lit w b n f) : ∃ es c, w.heap[b]? = some (.map es c) := by obtain ⟨D, ⟨es, clock, h1, _⟩, _⟩ := h; exact ⟨es, clock, h1⟩
theorem MapIs.look {t e : TypeId} (h : MapIs P k lit w b n f) (K : Keyed P k) (ht : P.underlying t = some (.map k e)) {z : Value} (hz : (zeroValue e).run P w = .ok z w) {key : Value} {kl : κ} (hkey : keyOf P k key = some (lit kl)) :
    (Instr.lookup t (.map (some b)) key false).run P w = .ok ((f kl).getD z) w := by
  obtain ⟨D, h, hf⟩ := h
  obtain ⟨v, ps, hrun, hv⟩ := h.lookup K ht hz (zd := .held z) (zp := []) rfl hkey
  obtain ⟨_, h2⟩ := hf kl (K.key hkey)
  rw [h2 z] at hv
  simp only [heldR, Option.some.injEq, Prod.mk.injEq, DataW.held.injEq] at hv
  rw [hrun, hv.1]
theorem MapIs.look_ok {t e : TypeId} (h : MapIs P k lit w b n f) (K : Keyed P k) (ht : P.underlying t = some (.map k e)) {z : Value} (hz : (zeroValue e).run P w = .ok z w) {key : Value} {kl : κ} (hkey : keyOf P k key = some (lit kl)) :
    (Instr.lookup t (.map (some b)) key true).run P w = .ok (.tuple #[(f kl).getD z, .bool (f kl).isSome]) w := by
  obtain ⟨D, h, hf⟩ := h
  obtain ⟨v, ps, hrun, hv⟩ := h.look_ok K ht hz (zd := .held z) (zp := []) rfl hkey
  obtain ⟨h1, h2⟩ := hf kl (K.key hkey)
  rw [h2 z] at hv
  simp only [heldR, Option.some.injEq, Prod.mk.injEq, DataW.held.injEq] at hv
  rw [hrun, hv.1, h1]
theorem MapIs.store [DecidableEq κ] (hinj : ∀ x y, lit x = lit y → x = y) {t e : TypeId} (h : MapIs P k lit w b n f) (K : Keyed P k) (ht : P.underlying t = some (.map k e)) (hn : n < maxLen) {key val : Value} {kl : κ} (hkey : keyOf P k key = some (lit kl)) :
    ∃ w', (Instr.mapUpdate t (.map (some b)) key val).run P w = .ok () w' ∧ MapIs P k lit w' b (n + 1) (setAt f kl val) ∧ w.grownBy w' (some b) ∧ w'.heap.size = w.heap.size := by
  obtain ⟨D, h, hf⟩ := h
  have hm := h.isMap
  obtain ⟨w', hrun, h1, h2⟩ := h.store K ht hn hkey (val := val) (d := .held val) (ps := []) rfl
  refine ⟨w', hrun, ⟨D.put (lit kl) (.held val), h1, fun x hx => ?_⟩, h2.grown, ?_⟩
  · by_cases he : x = kl
    · subst he
      rw [setAt_same]
      exact ⟨by rw [has_put_same hm hx]; rfl, fun z => by rw [atKey_put_same hm hx]; rfl⟩
    · rw [setAt_other _ _ he]
      obtain ⟨a1, a2⟩ := hf x hx
      exact ⟨by rw [has_put_other (fun e => he (hinj _ _ e))]; exact a1, fun z => by rw [atKey_put_other (fun e => he (hinj _ _ e))]; exact a2 z⟩
  · obtain ⟨es, c, es', c', _, rfl⟩ := h2
    simp [setBlock]
end Go.Proofs.YtoigamkldccnkaaDoor
