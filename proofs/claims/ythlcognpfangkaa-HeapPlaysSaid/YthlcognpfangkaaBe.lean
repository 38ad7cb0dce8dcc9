/- Plain laws of the bytes of numbers (no program in sight): what the printed functions Put, Text, Bytes, Fits come to. -/
import Derived.Test.YthlcognpfangkaaWt
namespace Go.Proofs.Ythlcognpfangkaa
open Go.RowKit Go.Proofs.YthlcognpfangkaaW.PrintWords Go.Proofs.YthlcognpfangkaaW.PrintLast Go.Proofs.YthlcognpfangkaaW.PrintMore
set_option linter.unusedVariables false
set_option linter.unusedSimpArgs false

/-- A number's bytes, the greatest first. -/
def be : Nat → Int → List Int
  | 0, _ => []
  | k + 1, n => be k (n / 256) ++ [n % 256]
theorem be_length (k : Nat) (n : Int) : (be k n).length = k := by
  induction k generalizing n with
  | zero => rfl
  | succ k ih => simp [be, ih]
theorem be_head (k : Nat) (n : Int) : be (k + 1) n = [n / 256 ^ k % 256] ++ be k n := by
  induction k generalizing n with
  | zero => simp [be]
  | succ k ih =>
    rw [be, ih, List.append_assoc]
    congr 3
    rw [Int.ediv_ediv_of_nonneg (by omega), Int.pow_succ, Int.mul_comm]
theorem be_range (k : Nat) (n : Int) : ∀ x ∈ be k n, 0 ≤ x ∧ x ≤ 255 := by
  induction k generalizing n with
  | zero => simp [be]
  | succ k ih =>
    intro x hx
    rw [be, List.mem_append, List.mem_singleton] at hx
    rcases hx with hx | rfl
    · exact ih _ x hx
    · omega

theorem pow8 (i : Nat) : (2 : Int) ^ (8 * i) = 256 ^ i := by rw [Int.pow_mul]; rfl
theorem w64 (x : Int) (h : -9223372036854775808 ≤ x) (h2 : x ≤ 9223372036854775807) : wrap64 x = x := by unfold wrap64; omega
theorem u64w (x : Int) (h : 0 ≤ x) (h2 : x < 18446744073709551616) : IntKind.u64.wrap x = x := IntWalk.u64_in x (by omega)
theorem shr8 (n : Int) (i : Nat) (hi : i ≤ 8) : shr .u64 n (wrap64 (8 * (i : Int))) = n / 256 ^ i := by
  rw [w64 _ (by omega) (by omega)]
  unfold shr
  have h1 : min (8 * (i : Int)).toNat IntKind.u64.bits = 8 * i := by
    have : IntKind.u64.bits = 64 := rfl
    omega
  rw [h1, pow8]

theorem put_l0 (n : Int) (i : Nat) : ∀ (k : Nat) (x : List Int), i < k → i ≤ 8 → x.length + i < 140737488355328 → PWordPuts.word_Put.l0 k n x ((i : Int) - 1) = some (x ++ be i n, none) := by
  induction i with
  | zero =>
    intro k x hk _ _
    obtain ⟨k, rfl⟩ : ∃ m, k = m + 1 := ⟨k - 1, by omega⟩
    simp only [PWordPuts.word_Put.l0]
    rw [if_neg (by simp)]
    simp [be]
  | succ i ih =>
    intro k x hk hi hl
    obtain ⟨k, rfl⟩ : ∃ m, k = m + 1 := ⟨k - 1, by omega⟩
    have e : ((i + 1 : Nat) : Int) - 1 = i := by omega
    rw [e]
    simp only [PWordPuts.word_Put.l0]
    rw [if_pos (by omega), shr8 n i (by omega), if_pos (by rw [w64] <;> omega), if_pos (by omega), w64 _ (by omega) (by omega)]
    rw [ih k _ (by omega) (by omega) (by simp; omega), be_head]
    simp

/-- Does a number go into a width? -/
def fitsW (m : Nat) (n : Int) : Prop := n < 256 ^ m
theorem isW_cases {m : Int} (h : isW m) : ∃ k : Nat, m = k ∧ 1 ≤ k ∧ k ≤ 8 := ⟨m.toNat, by unfold isW at h; omega, by unfold isW at h; omega, by unfold isW at h; omega⟩
theorem right_f (m : Int) (b : Bool) (h : b = true ↔ isW m) : PWordPuts.word_right.f m = some b := by
  unfold PWordPuts.word_right.f
  unfold isW at h
  by_cases h1 : m = 1
  · simp [h1] at h ⊢; exact h
  by_cases h2 : m = 2
  · simp [h2] at h ⊢; exact h
  by_cases h4 : m = 4
  · simp [h4] at h ⊢; exact h
  rw [if_neg h1, if_neg h2, if_neg h4]
  simp only [h1, h2, h4, false_or] at h
  congr 1
  rw [Bool.eq_iff_iff, h]
  simp

theorem put_f_yes (l : List Int) (m : Nat) (n : Int) (hm : isW m) (h0 : 0 ≤ n) (hn : n < 18446744073709551616) (hf : fitsW m n) (hl : l.length + 8 < 140737488355328) :
    PWordPuts.word_Put.f 20 l m n = some (l ++ be m n, none) := by
  obtain ⟨_, e, hm1, hm8⟩ := isW_cases hm
  obtain rfl : m = _ := Int.ofNat_inj.mp e
  have j0 : PWordPuts.word_Put.j0 20 l m n false = some (l ++ be m n, none) := by
    simp only [PWordPuts.word_Put.j0]
    rw [if_neg (by simp)]
    simp only [Option.bind_some, List.length_nil, List.nil_append]
    rw [if_pos (by omega), w64 _ (by omega) (by omega)]
    exact put_l0 n m 19 l (by omega) (by omega) (by omega)
  unfold PWordPuts.word_Put.f
  rw [right_f m true (by simp [hm])]
  simp only [Option.bind_some, if_true]
  by_cases h8 : (m : Int) < 8
  · rw [if_pos h8, if_pos (by rw [w64] <;> omega), shr8 n m (by omega)]
    unfold fitsW at hf
    have : n / 256 ^ m = 0 := Int.ediv_eq_zero_of_lt h0 hf
    rw [this]
    exact j0
  · rw [if_neg h8]
    exact j0

theorem put_f_no (l : List Int) (m n : Int) (h0 : 0 ≤ n) (hn : n < 18446744073709551616) (hno : ¬ (isW m ∧ fitsW m.toNat n)) :
    PWordPuts.word_Put.f 20 l m n = some ([], some 1) := by
  have j0 : PWordPuts.word_Put.j0 20 l m n true = some ([], some 1) := by simp [PWordPuts.word_Put.j0]
  unfold PWordPuts.word_Put.f
  by_cases hm : isW m
  · obtain ⟨k, rfl, hm1, hm8⟩ := isW_cases hm
    rw [right_f k true (by simp [hm])]
    simp only [Option.bind_some, if_true]
    have hnf : ¬ fitsW k n := fun h => hno ⟨hm, by simpa using h⟩
    unfold fitsW at hnf
    have h8 : (k : Int) < 8 := by
      rcases Nat.lt_or_ge k 8 with h | h
      · omega
      · have : k = 8 := by omega
        subst this
        exact absurd (by simpa using hn) hnf
    rw [if_pos h8, if_pos (by rw [w64] <;> omega), shr8 n k (by omega)]
    have hp : (0 : Int) < 256 ^ k := Int.pow_pos (by omega)
    have : n / 256 ^ k ≠ 0 := fun h => hnf (by
      have h1 := Int.lt_mul_ediv_self_add (x := n) hp
      rw [h] at h1
      omega)
    rw [show ((n / 256 ^ k) != 0) = true from bne_iff_ne.mpr this]
    exact j0
  · rw [right_f m false (by simp [hm])]
    simp only [Option.bind_some]
    rw [if_neg (by simp)]
    exact j0

theorem bytes_f (m : Nat) : ∀ (k : Nat) (n : Int), m < k → m ≤ 8 → 0 ≤ n → n < 18446744073709551616 → PWordPuts.tankardref01_Bytes.f k m n = some (be m n) := by
  induction m with
  | zero =>
    intro k n hk _ _ _
    obtain ⟨k, rfl⟩ : ∃ m, k = m + 1 := ⟨k - 1, by omega⟩
    simp [PWordPuts.tankardref01_Bytes.f, be]
  | succ m ih =>
    intro k n hk hm h0 hn
    obtain ⟨k, rfl⟩ : ∃ m, k = m + 1 := ⟨k - 1, by omega⟩
    simp only [PWordPuts.tankardref01_Bytes.f]
    rw [if_neg (by omega), w64 _ (by omega) (by omega), Int.tdiv_eq_ediv_of_nonneg h0, Int.tmod_eq_emod_of_nonneg h0, u64w _ (by omega) (by omega)]
    rw [show ((m + 1 : Nat) : Int) - 1 = m by omega, ih k (n / 256) (by omega) (by omega) (by omega) (by omega)]
    simp only [Option.bind_some]
    rw [if_pos (by rw [be_length]; omega), be, Int.emod_emod_of_dvd n (by omega : (256 : Int) ∣ 256)]

theorem fits_l0 (m : Nat) (d : Nat) : ∀ (k : Nat) (n : Int) (i : Nat), d < k → i + d = m → m ≤ 8 → 0 ≤ n → n < 18446744073709551616 → PWordPuts.tankardref01_Fits.l0 k m n i = some (n / 256 ^ d == 0) := by
  induction d with
  | zero =>
    intro k n i hk hi hm h0 hn
    obtain ⟨k, rfl⟩ : ∃ m, k = m + 1 := ⟨k - 1, by omega⟩
    simp only [PWordPuts.tankardref01_Fits.l0]
    rw [if_neg (by omega)]
    simp
  | succ d ih =>
    intro k n i hk hi hm h0 hn
    obtain ⟨k, rfl⟩ : ∃ m, k = m + 1 := ⟨k - 1, by omega⟩
    simp only [PWordPuts.tankardref01_Fits.l0]
    rw [if_pos (by omega), Int.tdiv_eq_ediv_of_nonneg h0, u64w _ (by omega) (by omega), w64 _ (by omega) (by omega), show (i : Int) + 1 = ((i + 1 : Nat) : Int) by omega, ih k _ _ (by omega) (by omega) hm (by omega) (by omega)]
    rw [Int.ediv_ediv_of_nonneg (by omega), Int.pow_succ, Int.mul_comm]
theorem fits_f (m : Nat) (n : Int) (b : Bool) (hm : m ≤ 8) (h0 : 0 ≤ n) (hn : n < 18446744073709551616) (h : b = true ↔ fitsW m n) : PWordPuts.tankardref01_Fits.f 20 m n = some b := by
  unfold PWordPuts.tankardref01_Fits.f
  have := fits_l0 m m 20 n 0 (by omega) (by omega) hm h0 hn
  rw [show ((0 : Nat) : Int) = 0 from rfl] at this
  rw [this]
  congr 1
  rw [Bool.eq_iff_iff, h, beq_iff_eq]
  unfold fitsW
  have hp : (0 : Int) < 256 ^ m := Int.pow_pos (by omega)
  constructor
  · intro h
    have h1 := Int.lt_mul_ediv_self_add (x := n) hp
    rw [h] at h1
    omega
  · intro h
    exact Int.ediv_eq_zero_of_lt h0 h

end Go.Proofs.Ythlcognpfangkaa
