/- Plain laws: what the printed functions crc.step and the reference's Sum come to. -/
import Derived.Test.YthlcognpfangkaaCm
import Derived.Test.YthlcognpfangkaaVb
import Derived.Test.YthlcognpfangkaaPCrcSumsx1
namespace Go.Proofs.Ythlcognpfangkaa
open Go.RowKit Go.Proofs.YthlcognpfangkaaW.PrintWords Go.Proofs.YthlcognpfangkaaW.PrintLast Go.Proofs.YthlcognpfangkaaW.PrintMore
set_option linter.unusedVariables false

theorem and1 (x : Nat) (h : x < 4294967296) : Go.bits .and .u32 (x : Int) 1 = ((x % 2 : Nat) : Int) := by
  have := u32_and_nat x 1 h (by omega)
  rw [Nat.and_one_is_mod] at this
  exact this
theorem xorP (x : Nat) (h : x < 4294967296) : Go.bits .xor .u32 (x : Int) 3988292384 = ((x ^^^ 3988292384 : Nat) : Int) := u32_xor_nat x 3988292384 h (by omega)
theorem step_l0 (d : Nat) : ∀ (k x j : Nat), d < k → j + d = 8 → x < 4294967296 → PCrcSums.crc_step.l0 k x j = some ((stpN d x : Nat) : Int) := by
  induction d with
  | zero =>
    intro k x j hk hj hx
    obtain ⟨k, rfl⟩ : ∃ m, k = m + 1 := ⟨k - 1, by omega⟩
    simp only [PCrcSums.crc_step.l0]
    rw [if_neg (by omega)]
    rfl
  | succ d ih =>
    intro k x j hk hj hx
    obtain ⟨k, rfl⟩ : ∃ m, k = m + 1 := ⟨k - 1, by omega⟩
    simp only [PCrcSums.crc_step.l0]
    rw [if_pos (by omega), and1 x hx, w64 _ (by omega) (by omega), show (x : Int) / 2 = ((x / 2 : Nat) : Int) by omega, xorP _ (by omega), show (j : Int) + 1 = ((j + 1 : Nat) : Int) by omega]
    have hs := stp_lt x hx
    by_cases h1 : x % 2 = 1
    · rw [if_pos (by omega)]
      have e : stp x = x / 2 ^^^ 3988292384 := by unfold stp; rw [if_pos h1]
      rw [e] at hs
      rw [ih k _ (j + 1) (by omega) (by omega) hs, stpN, e]
    · rw [if_neg (by omega)]
      have e : stp x = x / 2 := by unfold stp; rw [if_neg h1]
      rw [ih k _ (j + 1) (by omega) (by omega) (by omega), stpN, e]
theorem step_f (x : Nat) (hx : x < 4294967296) : PCrcSums.crc_step.f 20 x = some ((stp8 x : Nat) : Int) := step_l0 8 20 x 0 (by omega) (by omega) hx

theorem xorC (x c : Nat) (h : x < 4294967296) (hc : c < 256) : Go.bits .xor .u32 (x : Int) ((c : Int) % 4294967296) = ((x ^^^ c : Nat) : Int) := by
  rw [show (c : Int) % 4294967296 = c by omega]
  exact u32_xor_nat x c h (by omega)
theorem rsum_l1 (l : List Int) (i : Int) (d : Nat) : ∀ (k x j : Nat), j + d = 8 → x < 4294967296 → PCrcSums.tankardref01_Sum.l1 (k + d + 1) l x i j = PCrcSums.tankardref01_Sum.l0 k l ((stpN d x : Nat) : Int) (wrap64 (i + 1)) := by
  induction d with
  | zero =>
    intro k x j hj hx
    show PCrcSums.tankardref01_Sum.l1 (k + 1) l x i j = _
    rw [PCrcSums.tankardref01_Sum.l1, if_neg (by omega)]
    rfl
  | succ d ih =>
    intro k x j hj hx
    show PCrcSums.tankardref01_Sum.l1 ((k + d + 1) + 1) l x i j = _
    rw [PCrcSums.tankardref01_Sum.l1, if_pos (by omega), Int.tmod_eq_emod_of_nonneg (by omega), Int.tdiv_eq_ediv_of_nonneg (by omega), w64 _ (by omega) (by omega), show (x : Int) / 2 % 4294967296 = ((x / 2 : Nat) : Int) by omega, xorP _ (by omega), show (j : Int) + 1 = ((j + 1 : Nat) : Int) by omega]
    have hs := stp_lt x hx
    by_cases h1 : x % 2 = 1
    · rw [if_pos (by omega)]
      have e : stp x = x / 2 ^^^ 3988292384 := by unfold stp; rw [if_pos h1]
      rw [e] at hs
      rw [ih k _ (j + 1) (by omega) hs, stpN, e]
    · rw [if_neg (by omega)]
      have e : stp x = x / 2 := by unfold stp; rw [if_neg h1]
      rw [ih k _ (j + 1) (by omega) (by omega), stpN, e]
theorem rsum_l0 (l : List Int) (hl : ∀ c ∈ l, 0 ≤ c ∧ c ≤ 255) (hn : l.length ≤ 9223372036854775000) (d : Nat) : ∀ (k x i : Nat), 10 * d < k → i + d = l.length → x < 4294967296 → PCrcSums.tankardref01_Sum.l0 k l x i = some ((4294967295 - crcS x (l.drop i) : Nat) : Int) := by
  induction d with
  | zero =>
    intro k x i hk hi hx
    obtain ⟨k, rfl⟩ : ∃ m, k = m + 1 := ⟨k - 1, by omega⟩
    rw [PCrcSums.tankardref01_Sum.l0, if_neg (by omega), List.drop_eq_nil_of_le (by omega)]
    show some ((4294967295 - (x : Int)) % 4294967296) = some ((4294967295 - x : Nat) : Int)
    congr 1
    omega
  | succ d ih =>
    intro k x i hk hi hx
    obtain ⟨k, rfl⟩ : ∃ m, k = (m + 8 + 1) + 1 := ⟨k - 10, by omega⟩
    have hil : i < l.length := by omega
    have hc := hl l[i] (List.getElem_mem _)
    have hr : rd l i = ((l[i].toNat : Nat) : Int) := by
      unfold rd
      rw [Int.toNat_natCast, List.getD_eq_getElem?_getD, List.getElem?_eq_getElem hil]
      simp only [Option.getD_some]
      omega
    rw [PCrcSums.tankardref01_Sum.l0, if_pos (by omega), if_pos (by omega), hr, xorC _ _ hx (by omega)]
    have h0 := rsum_l1 l i 8 k (x ^^^ l[i].toNat) 0 (by omega) (Nat.xor_lt_two_pow (n := 32) (by omega) (by omega))
    rw [show ((0 : Nat) : Int) = 0 from rfl] at h0
    rw [h0, w64 _ (by omega) (by omega), show (i : Int) + 1 = ((i + 1 : Nat) : Int) by omega]
    have hu := upd_lt x l[i].toNat hx (by omega)
    rw [show stpN 8 (x ^^^ l[i].toNat) = upd x l[i].toNat from rfl, ih k _ (i + 1) (by omega) (by omega) hu, List.drop_eq_getElem_cons hil]
    rfl
/-- The sum of bytes. -/
def sumN (l : List Int) : Nat := 4294967295 - crcS 4294967295 l
theorem rsum_f (l : List Int) (hl : ∀ c ∈ l, 0 ≤ c ∧ c ≤ 255) (hn : l.length ≤ 9223372036854775000) (k : Nat) (hk : 10 * l.length < k) : PCrcSums.tankardref01_Sum.f k l = some ((sumN l : Nat) : Int) := by
  have := rsum_l0 l hl hn l.length k 4294967295 0 hk (by omega) (by omega)
  rw [List.drop_zero] at this
  exact this
theorem sumN_lt (l : List Int) : sumN l < 4294967296 := by unfold sumN; omega
theorem cbytes_f (m : Nat) : ∀ (k : Nat) (n : Int), m < k → m ≤ 8 → 0 ≤ n → n < 18446744073709551616 → PCrcSums.tankardref01_Bytes.f k m n = some (be m n) := by
  induction m with
  | zero =>
    intro k n hk _ _ _
    obtain ⟨k, rfl⟩ : ∃ m, k = m + 1 := ⟨k - 1, by omega⟩
    simp [PCrcSums.tankardref01_Bytes.f, be]
  | succ m ih =>
    intro k n hk hm h0 hn
    obtain ⟨k, rfl⟩ : ∃ m, k = m + 1 := ⟨k - 1, by omega⟩
    simp only [PCrcSums.tankardref01_Bytes.f]
    rw [if_neg (by omega), w64 _ (by omega) (by omega), Int.tdiv_eq_ediv_of_nonneg h0, Int.tmod_eq_emod_of_nonneg h0, u64w _ (by omega) (by omega)]
    rw [show ((m + 1 : Nat) : Int) - 1 = m by omega, ih k (n / 256) (by omega) (by omega) (by omega) (by omega)]
    simp only [Option.bind_some]
    rw [if_pos (by rw [be_length]; omega), be, Int.emod_emod_of_dvd n (by omega : (256 : Int) ∣ 256)]
/-- Sealed bytes. -/
def sealL (l : List Int) : List Int := l ++ be 4 (sumN l)
theorem sealL_length (l : List Int) : (sealL l).length = l.length + 4 := by unfold sealL; rw [List.length_append, be_length]
theorem sealL_range (l : List Int) (hl : ∀ c ∈ l, 0 ≤ c ∧ c ≤ 255) : ∀ c ∈ sealL l, 0 ≤ c ∧ c ≤ 255 := by
  intro c hc
  rw [sealL, List.mem_append] at hc
  rcases hc with hc | hc
  · exact hl c hc
  · exact be_range _ _ c hc
theorem rseal_f (l : List Int) (hl : ∀ c ∈ l, 0 ≤ c ∧ c ≤ 255) (hn : l.length ≤ 140737488355000) : PCrcSums.tankardref01_Seal.f (10 * l.length + 20) l = some (sealL l) := by
  have hs := sumN_lt l
  unfold PCrcSums.tankardref01_Seal.f
  simp only [Option.bind_some, List.length_nil, List.nil_append]
  rw [if_pos (by omega), rsum_f l hl (by omega) _ (by omega)]
  simp only [Option.bind_some]
  rw [u64w _ (by omega) (by omega), show (4 : Int) = ((4 : Nat) : Int) from rfl, cbytes_f 4 _ _ (by omega) (by omega) (by omega) (by omega)]
  simp only [Option.bind_some]
  rw [if_pos (by rw [be_length]; omega)]
  rfl

theorem rsum_calls (w : World) (A : Option Addr) (c : Nat) (l : List Int) (hr : Kd.C (Kd.int .u8) w A l.length l) (hc : l.length ≤ c) (hl : ∀ c ∈ l, 0 ≤ c ∧ c ≤ 255) (hn : l.length ≤ 140737488355000) :
    Calls Try.prog 46 #[.slice A l.length c] w fun e w' => e = .returned (.int .u32 ((sumN l : Nat) : Int)) ∧ Drawn0 w w' :=
  PCrcSums.tankardref01_Sum.calls (10 * l.length + 1) A c l _ w hr hc (rsum_f l hl (by omega) _ (by omega))
theorem rseal_calls (w : World) (A : Option Addr) (c : Nat) (l : List Int) (hr : Kd.C (Kd.int .u8) w A l.length l) (hc : l.length ≤ c) (hl : ∀ c ∈ l, 0 ≤ c ∧ c ≤ 255) (hn : l.length ≤ 140737488355000) :
    Calls Try.prog 48 #[.slice A l.length c] w fun e w' => ∃ v, e = .returned v ∧ Kd.R (Kd.int .u8) 5 w' w.heap.size (fun _ => True) v (sealL l) ∧ Fr No w w' := by
  refine (PCrcSums.tankardref01_Seal.calls _ A c l _ w hr hc (rseal_f l hl hn)).mono ?_
  rintro e w' ⟨v, rfl, hR, hB⟩
  exact ⟨v, rfl, hR, Fr.of_below hB _⟩

end Go.Proofs.Ythlcognpfangkaa
