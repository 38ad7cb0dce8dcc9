/- The walk of crc.On (no condition but that the bytes are readable, each a byte). -/
import Derived.Test.YthlcognpfangkaaCs
namespace Go.Proofs.Ythlcognpfangkaa
open Go.RowKit Go.Proofs.YthlcognpfangkaaW.PrintWords Go.Proofs.YthlcognpfangkaaW.PrintLast Go.Proofs.YthlcognpfangkaaW.PrintMore
set_option linter.unusedVariables false
set_option linter.unusedSimpArgs false

/-- The table's block, as far as it is filled. -/
def Tb (w : World) (g k : Nat) : Prop := ∃ cs : Array Value, w.heap[g]? = some (.cells cs 132 (0, 0)) ∧ cs.size = 256 ∧ ∀ i, i < k → cs[i]? = some (.int .u32 ((stp8 i : Nat) : Int))
theorem Tb.start (w : World) : Tb (w.alloc (.cells (Try.zeroCells132) 132)) w.heap.size 0 := ⟨_, blk_new w _, by kernel_rfl, fun i hi => absurd hi (by omega)⟩
theorem Tb.drewN {w : World} {g k : Nat} (h : Tb w g k) (n : Nat) : Tb (w.drewN n) g k := h
theorem Tb.put {w : World} {g k : Nat} (h : Tb w g k) (hk : k < 256) : Tb (w.setCell ⟨g, k, none⟩ (.int .u32 ((stp8 k : Nat) : Int))) g (k + 1) := by
  obtain ⟨cs, hb, hs, hc⟩ := h
  refine ⟨_, blk_set hb k _, by simpa using hs, fun i hi => ?_⟩
  by_cases e : i = k
  · subst e
    simp [hs, hk]
  · rw [Array.getElem?_setIfInBounds_ne (by omega)]
    exact hc i (by omega)
theorem Tb.free {w : World} {g k : Nat} (h : Tb w g k) (hk : k < 256) (i : Nat) (hi : i < 256) : w.frozen? ⟨g, i, none⟩ = false ∧ ∃ v, w.cell? ⟨g, i, none⟩ = some v := by
  obtain ⟨cs, hb, hs, hc⟩ := h
  exact ⟨blk_frozen hb i, cs[i]'(by omega), (blk_cell hb i).trans (Array.getElem?_eq_getElem (by omega))⟩
theorem Tb.cell {w : World} {g : Nat} (h : Tb w g 256) (i : Nat) (hi : i < 256) : w.cell? ⟨g, i, none⟩ = some (.int .u32 ((stp8 i : Nat) : Int)) := by
  obtain ⟨cs, hb, hs, hc⟩ := h
  exact (blk_cell hb i).trans (hc i hi)

theorem step_calls (x : Nat) (w : World) (hx : x < 4294967296) : Calls Try.prog 90 #[.int .u32 x] w fun e w' => e = .returned (.int .u32 ((stp8 x : Nat) : Int)) ∧ Drawn0 w w' :=
  PCrcSums.crc_step.calls 20 x _ w (step_f x hx)

theorem flip32 (s : Nat) (h : s < 4294967296) : Go.bits .xor .u32 IntKind.u32.max (s : Int) = ((4294967295 - s : Nat) : Int) := by
  have e : (4294967295 ^^^ s : Nat) = 4294967295 - s := by
    apply Nat.eq_of_testBit_eq
    intro i
    have h1 := Nat.testBit_two_pow_sub_succ (x := s) (n := 32) (by omega) i
    have h2 := Nat.testBit_two_pow_sub_succ (x := 0) (n := 32) (by omega) i
    rw [show 2 ^ 32 - (s + 1) = 4294967295 - s by omega] at h1
    rw [show 2 ^ 32 - (0 + 1) = 4294967295 by omega] at h2
    rw [Nat.testBit_xor, h1, h2]
    by_cases hi : i < 32
    · simp [hi]
    · have : s.testBit i = false := Nat.testBit_lt_two_pow (Nat.lt_of_lt_of_le h (Nat.pow_le_pow_right (n := 2) (i := 32) (by omega) (by omega)))
      simp [hi, this]
  rw [← e]
  exact u32_xor_nat 4294967295 s (by omega) h
theorem crcS_snoc (x : Nat) (l : List Int) (k : Nat) (h : k < l.length) : crcS x (l.take (k + 1)) = upd (crcS x (l.take k)) (rd l k).toNat := by
  unfold crcS
  rw [List.take_succ_eq_append_getElem h, List.foldl_append]
  simp [rd, List.getD_eq_getElem?_getD, h]

set_option maxRecDepth 20000 in
theorem on_calls (w : World) (s : Nat) (A : Option Addr) (c : Nat) (l : List Int) (hr : Kd.C (Kd.int .u8) w A l.length l) (hc : l.length ≤ c) (hl : ∀ c ∈ l, 0 ≤ c ∧ c ≤ 255) (hs : s < 4294967296) :
    Calls Try.prog 52 #[.int .u32 s, .slice A l.length c] w fun e w' => e = .returned (.int .u32 ((4294967295 - crcS (4294967295 - s) l : Nat) : Int)) ∧ Fr No w w' := by
  have HR := Aside0.mk hr
  have HBY := Aside0.mk hl
  have hlen : l.length ≤ 9223372036854775807 := hr.2.1
  clear hr hl
  go_enter Try.func52, Try.ntmps52
  go_wp2
  have T0 := Aside0.mk (Tb.start w)
  have F0 := Aside0.mk ((Fr.refl No w).alloc (.cells (Try.zeroCells132) 132))
  have hg : w.heap.size ≤ w.heap.size := Nat.le_refl _
  generalize w.alloc (.cells (Try.zeroCells132) 132) = w1 at T0 F0 ⊢
  generalize hgg : w.heap.size = g at T0 hg ⊢
  have HG := Aside0.mk hgg
  clear hgg
  go_loopg [10] 256 (fun kq v10 w' => ∃ (k : Nat), k + kq = 256 ∧ v10 = .int .i64 k ∧ Aside0 (Tb w' g k) ∧ Aside0 (Fr No w w'))
  case atStart => exact ⟨0, by omega, rfl, T0, F0⟩
  case round =>
    clear T0 F0
    obtain ⟨k, hk, rfl, T1, F1⟩ := hrel
    by_cases hlt : k < 256
    · obtain ⟨hfz, v, hcl⟩ := T1.out.free hlt k hlt
      go_wp2_with (go_at_call 90; refine (step_calls k _ (by omega)).mono ?_; rintro e w' ⟨rfl, ⟨nd, rfl⟩⟩)
      go_roundg (256 - (k + 1))
      case measure => omega
      case rel => exact ⟨k + 1, by omega, by go_num, ⟨(T1.out.drewN nd).put hlt⟩, ⟨(F1.out.drewN nd).setNew (by have := HG.out; omega) _ _⟩⟩
    · obtain rfl : k = 256 := by omega
      have HX := Aside0.mk (flip32 s hs)
      have hx := flip32 s hs
      go_wp2
      clear hx
      go_loopg [7, 23] l.length (fun kq v7 v23 w' => ∃ (k : Nat), k + kq = l.length ∧ v7 = .int .u32 ((crcS (4294967295 - s) (l.take k) : Nat) : Int) ∧ v23 = .int .i64 k ∧ Drawn0 wr w')
      case atStart => exact ⟨0, by omega, rfl, rfl, Drawn0.refl _⟩
      case round =>
        obtain ⟨k, hk, rfl, rfl, ⟨m1, rfl⟩⟩ := hrel
        by_cases hlt2 : k < l.length
        · obtain ⟨ad, rfl, hx⟩ := Kd.at_int (Kd.C_below HR.out F1.out.no) (k : Int) (by omega) (by omega)
          simp only [Int.toNat_natCast] at hx
          have hsn := Aside0.mk (crcS_snoc (4294967295 - s) l k hlt2)
          have hrg := HBY.out (rd l k) (by unfold rd; rw [Int.toNat_natCast, List.getD_eq_getElem?_getD, List.getElem?_eq_getElem hlt2]; exact List.getElem_mem _)
          have hX := crcS_lt (l.take k) (4294967295 - s) (by omega) (fun c hc => HBY.out c (List.mem_of_mem_take hc))
          generalize crcS (4294967295 - s) (l.take k) = X at hsn hX ⊢
          obtain ⟨y, hy⟩ : ∃ y : Nat, rd l k = (y : Int) := ⟨(rd l k).toNat, by omega⟩
          rw [hy] at hx hsn hrg
          clear hy
          have hy2 : y < 256 := by omega
          have hj : (X % 256) ^^^ y < 256 := Nat.xor_lt_two_pow (n := 8) (by omega) hy2
          have e1 : Go.bits .xor .u8 ((X : Int) % 256) (y : Int) = (((X % 256) ^^^ y : Nat) : Int) := by
            rw [show (X : Int) % 256 = ((X % 256 : Nat) : Int) by omega]
            exact u8_xor_nat _ _ (by omega) hy2
          have e2 : Go.bits .xor .u32 ((X : Int) / 256) ((stp8 ((X % 256) ^^^ y) : Nat) : Int) = ((upd X y : Nat) : Int) := by
            rw [show (X : Int) / 256 = ((X / 256 : Nat) : Int) by omega, upd_table]
            exact u32_xor_nat _ _ (by omega) (stpN_lt 8 _ (by omega))
          have hcell := (T1.out.drewN m1).cell _ hj
          rw [Int.toNat_natCast] at hsn
          generalize (X % 256) ^^^ y = j at hj e1 e2 hcell
          generalize stp8 j = z at e2 hcell
          go_wp2
          go_roundg (l.length - (k + 1))
          case measure => omega
          case rel => exact ⟨k + 1, by omega, by rw [hsn.out], by go_num, by repeat (first | exact Drawn0.refl _ | apply Drawn0.step)⟩
        · obtain rfl : k = l.length := by omega
          rw [List.take_length]
          have hX := crcS_lt l (4294967295 - s) (by omega) HBY.out
          have hx := flip32 _ hX
          go_wp2
          go_ret
          exact ⟨rfl, F1.out.drewN _⟩

end Go.Proofs.Ythlcognpfangkaa
