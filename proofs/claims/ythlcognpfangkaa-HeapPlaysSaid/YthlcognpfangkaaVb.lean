/- Plain laws: the number that bytes tell (no program in sight). -/
import Derived.Test.YthlcognpfangkaaLwPuts
import Derived.Laws.BitsLemmas
namespace Go.Proofs.Ythlcognpfangkaa
open Go.RowKit Go.Proofs.YthlcognpfangkaaW.PrintWords Go.Proofs.YthlcognpfangkaaW.PrintLast Go.Proofs.YthlcognpfangkaaW.PrintMore

/-- One byte more. -/
def vStep (n x : Int) : Int := 256 * n + x
def vb (l : List Int) : Int := l.foldl vStep 0

theorem wStep_eq (n x : Int) (h0 : 0 ≤ n) (h1 : n < 72057594037927936) (hx : 0 ≤ x) (hx2 : x ≤ 255) : wStep n x = vStep n x := by
  unfold wStep vStep
  rw [u64w _ (by omega) (by omega)]
  rw [bits_join .u64 64 (Nat.le_refl _) (fun n h1 h2 => u64w n h1 (by omega)) 8 (n * 256) x (by omega) (by omega) (by omega) hx (by omega) (by omega)]
  omega

theorem foldW (l : List Int) : ∀ (acc : Int) (k : Nat), (∀ x ∈ l, 0 ≤ x ∧ x ≤ 255) → 0 ≤ acc → acc < 256 ^ k → k + l.length ≤ 8 → l.foldl wStep acc = l.foldl vStep acc ∧ 0 ≤ l.foldl vStep acc ∧ l.foldl vStep acc < 256 ^ (k + l.length) := by
  induction l with
  | nil => intro acc k _ h0 h1 _; exact ⟨rfl, h0, h1⟩
  | cons x l ih =>
    intro acc k hb h0 h1 hk
    have hx := hb x List.mem_cons_self
    rw [List.length_cons] at hk
    have h7 : (256 : Int) ^ k ≤ 256 ^ 7 := by
      have h : ((256 ^ k : Nat) : Int) ≤ ((256 ^ 7 : Nat) : Int) := Int.ofNat_le.mpr (Nat.pow_le_pow_right (by omega) (by omega))
      rw [Int.natCast_pow, Int.natCast_pow] at h
      exact h
    have e7 : (256 : Int) ^ 7 = 72057594037927936 := by decide
    have hv : vStep acc x < 256 ^ (k + 1) := by
      unfold vStep
      rw [Int.pow_succ]
      omega
    rw [List.foldl_cons, List.foldl_cons, wStep_eq acc x h0 (by omega) hx.1 hx.2]
    obtain ⟨a, b, c⟩ := ih (vStep acc x) (k + 1) (fun y hy => hb y (List.mem_cons_of_mem _ hy)) (by unfold vStep; omega) hv (by omega)
    refine ⟨a, b, ?_⟩
    rw [List.length_cons, show k + (l.length + 1) = k + 1 + l.length by omega]
    exact c
theorem wNum_vb (l : List Int) (hb : ∀ x ∈ l, 0 ≤ x ∧ x ≤ 255) (hl : l.length ≤ 8) : wNum l = vb l ∧ 0 ≤ vb l ∧ vb l < 256 ^ l.length := by
  have := foldW l 0 0 hb (by omega) (by omega) (by omega)
  rw [Nat.zero_add] at this
  exact this

theorem be_fold (k : Nat) : ∀ (acc n : Int), 0 ≤ n → n < 256 ^ k → (be k n).foldl vStep acc = acc * 256 ^ k + n := by
  induction k with
  | zero =>
    intro acc n h0 h1
    have : n = 0 := by simp at h1; omega
    simp [be, this]
  | succ k ih =>
    intro acc n h0 h1
    rw [be, List.foldl_append, ih acc (n / 256) (by omega) (by rw [Int.pow_succ] at h1; omega), List.foldl_cons, List.foldl_nil]
    unfold vStep
    rw [Int.pow_succ, ← Int.mul_assoc]
    omega
theorem wNum_be (k : Nat) (n : Int) (hk : k ≤ 8) (h0 : 0 ≤ n) (h1 : n < 256 ^ k) : wNum (be k n) = n := by
  rw [(wNum_vb (be k n) (be_range k n) (by rw [be_length]; exact hk)).1]
  unfold vb
  rw [be_fold k 0 n h0 h1]
  omega

end Go.Proofs.Ythlcognpfangkaa
