/- A slice of structs that came in, opened to its fields' cells (no condition). -/
import Derived.Test.YthlcognpfangkaaFr
import Derived.Deep.Slices
import Derived.Deep.Fields
import Derived.ProofKit
namespace Go.Proofs.Ythlcognpfangkaa
open Go.RowKit

/-- Each field of each element: its cells, at their places, and its own reading. -/
theorem open_rows {H : Type} {enc : TypeId × Value → H} {P : Program} {w : World} {base : Nat} {spare : Nat → Bool} {held : Bool} {t e : TypeId} {fs : Array Field} {fuel : Nat} {cs : List Value} {x : DataW H × List MemPlace}
    (ht : P.underlying t = some (.slice e)) (he : P.underlying e = some (.struct fs)) (C : Nat) (hC : P.cellsOf e = C) (h : DataW.trod enc P w base spare held fuel t cs = some x) :
    cs = [.slice none 0 0] ∨ ∃ (a : Addr) (len cap : Nat), cs = [.slice (some a) len cap] ∧ len ≤ cap ∧ cap ≤ maxLen ∧
      ∀ i, i < len → ∀ (j : Nat) (f : Field), fs[j]? = some f → ∃ (l : List Value) (y : DataW H × List MemPlace) (n : Nat), (∀ u, u < P.cellsOf f.type → f.offset + u < C → w.cell? (a.add (i * C + f.offset + u)) = l[u]?) ∧ DataW.trod enc P w base spare held n f.type l = some y := by
  rcases Go.Deep.open_slice ht h with ⟨h0, _⟩ | ⟨a, len, cap, m, n, D, Pl, hcs, _, hl, hm, hmm, _, hi⟩
  · exact .inl h0
  right
  refine ⟨a, len, cap, hcs, hl, hm, fun i hil j f hj => ?_⟩
  have him : i < m := by rw [hmm]; split <;> omega
  obtain ⟨c1, hc1, hc2⟩ := hi i him
  rw [hC] at hc1
  obtain ⟨_, hlen, hat⟩ := World.cells?_some hc1
  obtain ⟨ys, k, _, _, _, hyl, hf⟩ := DataW.trod_struct he hc2
  have hjl := (Array.getElem?_eq_some_iff.1 hj).1
  have hg := hf j f hj
  rw [List.getElem?_eq_getElem (by omega : j < ys.length)] at hg
  refine ⟨_, _, k, fun u hu hu2 => ?_, hg⟩
  rw [List.getElem?_take_of_lt hu, List.getElem?_drop, ← hat _ hu2, Go.Deep.add_add, Nat.add_assoc]

theorem one_int {H : Type} {enc : TypeId × Value → H} {P : Program} {w : World} {base : Nat} {spare : Nat → Bool} {held : Bool} {t : TypeId} {k : IntKind} {fuel : Nat} {l : List Value} {y : DataW H × List MemPlace} (ht : P.underlying t = some (.int k)) (h : DataW.trod enc P w base spare held fuel t l = some y) :
    ∃ n, l[0]? = some (.int k n) ∧ (Lit.int k n).wf = true := by
  obtain ⟨n, rfl, _, hw⟩ := DataW.trod_int ht h
  exact ⟨n, rfl, hw⟩
theorem one_bool {H : Type} {enc : TypeId × Value → H} {P : Program} {w : World} {base : Nat} {spare : Nat → Bool} {held : Bool} {t : TypeId} {fuel : Nat} {l : List Value} {y : DataW H × List MemPlace} (ht : P.underlying t = some .bool) (h : DataW.trod enc P w base spare held fuel t l = some y) :
    ∃ n, l[0]? = some (.bool n) := by
  obtain ⟨n, rfl, _⟩ := DataW.trod_bool ht h
  exact ⟨n, rfl⟩
/-- One choice for each place. -/
theorem pick_each {α : Type} [Inhabited α] {n : Nat} {p : Nat → α → Prop} (h : ∀ i, i < n → ∃ x, p i x) : ∃ f : Nat → α, ∀ i, i < n → p i (f i) := Go.Deep.choose_lt h

end Go.Proofs.Ythlcognpfangkaa
