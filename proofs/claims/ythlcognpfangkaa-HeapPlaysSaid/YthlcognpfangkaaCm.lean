/- Plain laws of the sum of bytes (no program in sight): bit by bit, by a table of bytes; that it tells one byte changed. -/
import Derived.Laws.BitsAllLaws
namespace Go.Proofs.Ythlcognpfangkaa
set_option linter.unusedVariables false

/-- One bit. -/
def stp (x : Nat) : Nat := if x % 2 = 1 then (x / 2) ^^^ 3988292384 else x / 2
def stpN : Nat → Nat → Nat
  | 0, x => x
  | k + 1, x => stpN k (stp x)
def stp8 (x : Nat) : Nat := stpN 8 x
/-- One byte. -/
def upd (x c : Nat) : Nat := stp8 (x ^^^ c)
def crcS (x : Nat) (l : List Int) : Nat := l.foldl (fun x c => upd x c.toNat) x

theorem half_xor (a b : Nat) : (a ^^^ b) / 2 = a / 2 ^^^ b / 2 := by
  have := Nat.shiftRight_xor_distrib (a := a) (b := b) (i := 1)
  simpa [Nat.shiftRight_eq_div_pow] using this
theorem xor_odd (a b : Nat) : ((a ^^^ b) % 2 = 1) ↔ ¬ ((a % 2 = 1) ↔ (b % 2 = 1)) := by
  have h := Nat.testBit_xor a b 0
  rw [Nat.testBit_zero, Nat.testBit_zero, Nat.testBit_zero] at h
  by_cases ha : a % 2 = 1 <;> by_cases hb : b % 2 = 1 <;> simp_all
theorem stp_xor (a b : Nat) : stp (a ^^^ b) = stp a ^^^ stp b := by
  unfold stp
  have hx := xor_odd a b
  rw [half_xor]
  by_cases ha : a % 2 = 1 <;> by_cases hb : b % 2 = 1
  · rw [if_neg (by rw [hx]; simp [ha, hb]), if_pos ha, if_pos hb]
    rw [Nat.xor_comm (b / 2), ← Nat.xor_assoc, Nat.xor_assoc (a / 2), Nat.xor_self, Nat.xor_zero]
  · rw [if_pos (by rw [hx]; simp [ha, hb]), if_pos ha, if_neg hb, Nat.xor_assoc, Nat.xor_comm (b / 2), ← Nat.xor_assoc]
  · rw [if_pos (by rw [hx]; simp [ha, hb]), if_neg ha, if_pos hb, Nat.xor_assoc]
  · rw [if_neg (by rw [hx]; simp [ha, hb]), if_neg ha, if_neg hb]
theorem stpN_xor (k : Nat) : ∀ a b, stpN k (a ^^^ b) = stpN k a ^^^ stpN k b := by
  induction k with
  | zero => intro a b; rfl
  | succ k ih => intro a b; rw [stpN, stpN, stpN, stp_xor, ih]
theorem stp_lt (x : Nat) (h : x < 4294967296) : stp x < 4294967296 := by
  unfold stp
  split
  · exact Nat.xor_lt_two_pow (n := 32) (by omega) (by omega)
  · omega
theorem stpN_lt (k : Nat) : ∀ x, x < 4294967296 → stpN k x < 4294967296 := by
  induction k with
  | zero => intro x h; exact h
  | succ k ih => intro x h; exact ih _ (stp_lt x h)
theorem upd_lt (x c : Nat) (h : x < 4294967296) (hc : c < 256) : upd x c < 4294967296 := stpN_lt 8 _ (Nat.xor_lt_two_pow (n := 32) (by omega) (by omega))
theorem crcS_lt (l : List Int) : ∀ x, x < 4294967296 → (∀ c ∈ l, 0 ≤ c ∧ c ≤ 255) → crcS x l < 4294967296 := by
  induction l with
  | nil => intro x h _; exact h
  | cons c l ih =>
    intro x h hl
    have hc := hl c List.mem_cons_self
    exact ih _ (upd_lt x _ h (by omega)) (fun y hy => hl y (List.mem_cons_of_mem _ hy))

theorem stp_even (m : Nat) : stp (2 * m) = m := by
  unfold stp
  rw [if_neg (by omega)]
  omega
theorem stp8_high (q : Nat) : stp8 (256 * q) = q := by
  unfold stp8
  simp only [stpN]
  rw [show 256 * q = 2 * (128 * q) by omega, stp_even, show 128 * q = 2 * (64 * q) by omega, stp_even, show 64 * q = 2 * (32 * q) by omega, stp_even, show 32 * q = 2 * (16 * q) by omega, stp_even,
    show 16 * q = 2 * (8 * q) by omega, stp_even, show 8 * q = 2 * (4 * q) by omega, stp_even, show 4 * q = 2 * (2 * q) by omega, stp_even, stp_even]
theorem split8 (x : Nat) : x = 256 * (x / 256) ^^^ (x % 256) := by
  apply Nat.eq_of_testBit_eq
  intro j
  have h1 : x.testBit j = (2 ^ 8 * (x / 256) + x % 256).testBit j := by rw [show 2 ^ 8 * (x / 256) + x % 256 = x by omega]
  rw [h1, Nat.testBit_two_pow_mul_add _ (by omega : x % 256 < 2 ^ 8), Nat.testBit_xor, show (256 : Nat) = 2 ^ 8 from rfl, Nat.testBit_two_pow_mul]
  by_cases hj : j < 8
  · rw [if_pos hj]
    have : decide (j ≥ 8) = false := decide_eq_false (by omega)
    rw [this]
    simp
  · rw [if_neg hj]
    have : decide (j ≥ 8) = true := decide_eq_true (by omega)
    rw [this]
    have h2 : (x % 2 ^ 8).testBit j = false := Nat.testBit_lt_two_pow (Nat.lt_of_lt_of_le (Nat.mod_lt _ (by decide)) (Nat.pow_le_pow_right (by omega) (by omega)))
    rw [h2]
    simp
/-- A byte by the table. -/
theorem upd_table (x c : Nat) : upd x c = (x / 256) ^^^ stp8 ((x % 256) ^^^ c) := by
  have e : x ^^^ c = 256 * (x / 256) ^^^ ((x % 256) ^^^ c) := by
    rw [← Nat.xor_assoc, ← split8]
  unfold upd
  rw [e]
  show stpN 8 _ = _
  rw [stpN_xor]
  show stp8 _ ^^^ stp8 _ = _
  rw [stp8_high]

theorem stp_inj (a b : Nat) (ha : a < 4294967296) (hb : b < 4294967296) (h : stp a = stp b) : a = b := by
  have top : ∀ x, x < 4294967296 → (stp x).testBit 31 = decide (x % 2 = 1) := by
    intro x hx
    have h0 : (x / 2).testBit 31 = false := Nat.testBit_lt_two_pow (by omega)
    unfold stp
    split
    · rename_i h1
      rw [Nat.testBit_xor, h0]
      simp only [h1]
      decide
    · rename_i h1
      rw [h0]
      simp [h1]
  have hp : decide (a % 2 = 1) = decide (b % 2 = 1) := by rw [← top a ha, ← top b hb, h]
  have hp2 : a % 2 = b % 2 := by
    by_cases h1 : a % 2 = 1 <;> by_cases h2 : b % 2 = 1 <;> simp_all <;> omega
  unfold stp at h
  have hd : a / 2 = b / 2 := by
    by_cases h1 : a % 2 = 1
    · rw [if_pos h1, if_pos (by omega)] at h
      have := congrArg (· ^^^ 3988292384) h
      simp only [Nat.xor_assoc, Nat.xor_self, Nat.xor_zero] at this
      exact this
    · rw [if_neg h1, if_neg (by omega)] at h
      exact h
  omega
theorem stpN_inj (k : Nat) : ∀ a b, a < 4294967296 → b < 4294967296 → stpN k a = stpN k b → a = b := by
  induction k with
  | zero => intro a b _ _ h; exact h
  | succ k ih => intro a b ha hb h; exact stp_inj a b ha hb (ih _ _ (stp_lt a ha) (stp_lt b hb) h)
theorem xor_right (a b c : Nat) (h : a ^^^ c = b ^^^ c) : a = b := by
  have := congrArg (· ^^^ c) h
  simpa [Nat.xor_assoc] using this
theorem upd_inj (x y c : Nat) (hx : x < 4294967296) (hy : y < 4294967296) (hc : c < 256) (h : upd x c = upd y c) : x = y :=
  xor_right x y c (stpN_inj 8 _ _ (Nat.xor_lt_two_pow (n := 32) (by omega) (by omega)) (Nat.xor_lt_two_pow (n := 32) (by omega) (by omega)) h)
theorem upd_inj2 (x c d : Nat) (hx : x < 4294967296) (hc : c < 256) (hd : d < 256) (h : upd x c = upd x d) : c = d := by
  have h2 := stpN_inj 8 _ _ (Nat.xor_lt_two_pow (n := 32) (by omega) (by omega)) (Nat.xor_lt_two_pow (n := 32) (by omega) (by omega)) h
  rw [Nat.xor_comm x c, Nat.xor_comm x d] at h2
  exact xor_right c d x h2
theorem crcS_inj (l : List Int) : ∀ x y, x < 4294967296 → y < 4294967296 → (∀ c ∈ l, 0 ≤ c ∧ c ≤ 255) → crcS x l = crcS y l → x = y := by
  induction l with
  | nil => intro x y _ _ _ h; exact h
  | cons c l ih =>
    intro x y hx hy hl h
    have hc := hl c List.mem_cons_self
    have := ih _ _ (upd_lt x _ hx (by omega)) (upd_lt y _ hy (by omega)) (fun z hz => hl z (List.mem_cons_of_mem _ hz)) h
    exact upd_inj x y _ hx hy (by omega) this
theorem crcS_append (x : Nat) (a b : List Int) : crcS x (a ++ b) = crcS (crcS x a) b := by unfold crcS; rw [List.foldl_append]
/-- One byte another one: the sum is another one. -/
theorem crcS_tells (p q : List Int) (c d : Int) (x : Nat) (hx : x < 4294967296) (hp : ∀ c ∈ p, 0 ≤ c ∧ c ≤ 255) (hq : ∀ c ∈ q, 0 ≤ c ∧ c ≤ 255) (hc : 0 ≤ c ∧ c ≤ 255) (hd : 0 ≤ d ∧ d ≤ 255) (hcd : c ≠ d) :
    crcS x (p ++ c :: q) ≠ crcS x (p ++ d :: q) := by
  intro h
  rw [crcS_append, crcS_append] at h
  have hpx := crcS_lt p x hx hp
  have h1 : crcS (upd (crcS x p) c.toNat) q = crcS (upd (crcS x p) d.toNat) q := h
  have h2 := crcS_inj q _ _ (upd_lt _ _ hpx (by omega)) (upd_lt _ _ hpx (by omega)) hq h1
  have h3 := upd_inj2 _ _ _ hpx (by omega) (by omega) h2
  omega

end Go.Proofs.Ythlcognpfangkaa
