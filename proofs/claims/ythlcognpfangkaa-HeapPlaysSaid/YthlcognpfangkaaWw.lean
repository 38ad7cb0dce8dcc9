/- The walk of word.Reader's Word: the number of the next bytes (no condition but the reader's block). -/
import Derived.Test.YthlcognpfangkaaWd
namespace Go.Proofs.Ythlcognpfangkaa
open Go.RowKit Go.Proofs.YthlcognpfangkaaW.PrintWords Go.Proofs.YthlcognpfangkaaW.PrintLast Go.Proofs.YthlcognpfangkaaW.PrintMore
set_option linter.unusedVariables false
set_option linter.unusedSimpArgs false

/-- One byte more, as Word puts it behind a number. -/
def wStep (n x : Int) : Int := Go.bits .or .u64 (IntKind.u64.wrap (n * 256)) x
/-- The number of bytes. -/
def wNum (l : List Int) : Int := l.foldl wStep 0
def isW (m : Int) : Prop := m = 1 ∨ m = 2 ∨ m = 4 ∨ m = 8
theorem wNum_snoc (l : List Int) (k : Nat) (h : k < l.length) : wNum (l.take (k + 1)) = wStep (wNum (l.take k)) (rd l k) := by
  unfold wNum
  rw [List.take_succ_eq_append_getElem h, List.foldl_append]
  simp [rd, List.getD_eq_getElem?_getD, h]

theorem right_calls (m : Int) (w : World) (b : Bool) (h : b = true ↔ isW m) : Calls Try.prog 86 #[.int .i64 m] w fun e w' => e = .returned (.bool b) ∧ Drawn0 w w' := by
  refine PWordPuts.word_right.calls m b w ?_
  unfold PWordPuts.word_right.f
  unfold isW at h
  by_cases h1 : m = 1
  · simp [h1] at h ⊢; exact h
  by_cases h2 : m = 2
  · simp [h2] at h ⊢; exact h
  by_cases h4 : m = 4
  · simp [h4] at h ⊢; exact h
  rw [if_neg h1, if_neg h2, if_neg h4]
  simp only [h1, h2, h4, false_or] at h
  congr 1
  rw [Bool.eq_iff_iff, h]
  simp

theorem word_not (w : World) (g : Nat) (A : Option Addr) (n c : Nat) (a b m : Int) (h : Rb w g A n c a b) (hm : ¬ isW m) :
    Calls Try.prog 40 #[.pointer (some ⟨g, 0, none⟩), .int .i64 m] w fun e w' => e = .returned (.int .u64 0) ∧ Rb w' g A n c a (nb b a) ∧ Fr (At g) w w' := by
  have H := Aside0.mk h
  obtain ⟨h0, h1, h2, f1, f2⟩ := h.cells
  clear h
  have HM := Aside0.mk hm
  clear hm
  go_enter Try.func40, Try.ntmps40
  go_wp2_with (first | (go_at_call 86; refine (right_calls m _ false (by simp [HM.out])).mono ?_; rintro e w' ⟨rfl, ⟨nd, rfl⟩⟩) | (go_at_call 87; refine (fail_calls _ g A n c a b a (H.out.drewN _)).mono ?_; rintro e w' ⟨rfl, hr, hf⟩; have HR := Aside0.mk hr; have HF := Aside0.mk hf; clear hr hf))
  go_ret
  exact ⟨rfl, HR.out, ((Fr.refl _ _).drewN _).trans HF.out (fun _ h => .inl h)⟩

theorem word_no (w : World) (g : Nat) (A : Option Addr) (n c : Nat) (a b m : Int) (h : Rb w g A n c a b) (ha : 0 ≤ a) (hn : a ≤ n) (hl : n ≤ 9223372036854775807) (hm : isW m) (hno : b ≠ -1 ∨ n - a < m) :
    Calls Try.prog 40 #[.pointer (some ⟨g, 0, none⟩), .int .i64 m] w fun e w' => e = .returned (.int .u64 0) ∧ Rb w' g A n c a (nb b a) ∧ Fr (At g) w w' := by
  have H := Aside0.mk h
  clear h
  have HM := Aside0.mk hm
  have HN := Aside0.mk hno
  clear hm hno
  go_enter Try.func40, Try.ntmps40
  go_wp2_with (first | (go_at_call 86; refine (right_calls m _ true (by simp [HM.out])).mono ?_; rintro e w' ⟨rfl, ⟨nd, rfl⟩⟩) | (go_at_call 88; refine (take_no _ g A n c a b m (H.out.drewN _) ha hn hl HN.out).mono ?_; rintro e w' ⟨rfl, hr, hf⟩; have HR := Aside0.mk hr; have HF := Aside0.mk hf; clear hr hf))
  refine wp_loop_rounds 1 ?_
  rw [rounds_succ]
  go_wp2
  go_ret
  exact ⟨rfl, HR.out, ((Fr.refl _ _).drewN _).trans HF.out (fun _ h => .inl h)⟩

theorem word_yes (w0 w : World) (g : Nat) (A : Option Addr) (c : Nat) (l : List Int) (a m : Nat) (hB : Below w0.heap.size w0 w) (hg : w0.heap.size ≤ g) (hr : Kd.C (Kd.int .u8) w0 A l.length l) (hc : l.length ≤ c) (hb : ∀ x ∈ l, 0 ≤ x ∧ x ≤ 255)
    (h : Rb w g A l.length c a (-1)) (hm : isW m) (hy : a + m ≤ l.length) :
    Calls Try.prog 40 #[.pointer (some ⟨g, 0, none⟩), .int .i64 m] w fun e w' => e = .returned (.int .u64 (wNum ((l.drop a).take m))) ∧ Rb w' g A l.length c (a + m) (-1) ∧ Fr (At g) w w' := by
  have hl : l.length ≤ 9223372036854775807 := hr.2.1
  have H := Aside0.mk h
  have HM := Aside0.mk hm
  have HB := Aside0.mk hB
  have HG := Aside0.mk hg
  have HC := Aside0.mk hc
  obtain ⟨q, hq⟩ : ∃ q, q = ((l.drop a).take m) := ⟨_, rfl⟩
  have hql : q.length = m := by rw [hq, List.length_take, List.length_drop]; omega
  have hcut : Kd.C (Kd.int .u8) w0 (cutA A c a) q.length q := by
    have := cutA_reads hr (lo := a) (hi := a + m) (by omega) (by omega) hc
    rw [List.drop_take, show a + m - a = m from by omega, ← hq] at this
    exact this
  have hqb : ∀ x ∈ q, 0 ≤ x ∧ x ≤ 255 := fun x hx => hb x (List.mem_of_mem_drop (List.mem_of_mem_take (hq ▸ hx)))
  rw [hql] at hcut
  have HQ := Aside0.mk hcut
  have HQB := Aside0.mk hqb
  rw [← hq]
  have HL := Aside0.mk hql
  have HY := Aside0.mk hy
  have hm8 : m ≤ 8 := by unfold isW at hm; omega
  clear h hm hB hg hr hcut hq hb hqb hc hql hy
  go_enter Try.func40, Try.ntmps40
  go_wp2_with (first | (go_at_call 86; refine (right_calls m _ true (by simp [HM.out])).mono ?_; rintro e w' ⟨rfl, ⟨nd, rfl⟩⟩) | (go_at_call 88; refine (take_yes _ g A l.length c a m (H.out.drewN _) HY.out hl HC.out).mono ?_; rintro e w1 ⟨rfl, hr, hf⟩; have HR := Aside0.mk hr; have HF := Aside0.mk ((((Fr.refl (At g) w).drewN nd)).trans hf (fun _ h => .inl h)); clear hr hf))
  have hw1 : Kd.C (Kd.int .u8) w1 (cutA A c a) m q := by
    have h2 := HF.out.belowOf HB.out (fun k (hk : k = g) => by have := HG.out; omega) HB.out.size
    exact Kd.C_below HQ.out h2
  have HW1 := Aside0.mk hw1
  clear hw1
  generalize cutA A c a = A' at HW1 HQ ⊢
  go_loopg [5, 21] m (fun kq v5 v21 w' => ∃ (k : Nat), k + kq = m ∧ v5 = .int .u64 (wNum (q.take k)) ∧ v21 = .int .i64 k ∧ Drawn0 w1 w')
  case atStart => exact ⟨0, by omega, rfl, rfl, Drawn0.refl _⟩
  case round =>
    obtain ⟨k, hk, rfl, rfl, ⟨m1, rfl⟩⟩ := hrel
    by_cases hlt : k < m
    · obtain ⟨ad, rfl, hx⟩ := Kd.at_int HW1.out (k : Int) (by omega) (by omega)
      simp only [Int.toNat_natCast] at hx
      have hkq : k < q.length := by rw [HL.out]; exact hlt
      have hsn := Aside0.mk (wNum_snoc q k hkq)
      have hrg := HQB.out (rd q k) (by unfold rd; rw [Int.toNat_natCast, List.getD_eq_getElem?_getD, List.getElem?_eq_getElem hkq]; exact List.getElem_mem _)
      generalize rd q k = x at hx hsn hrg
      clear hkq
      go_wp2
      go_roundg (m - (k + 1))
      case measure => omega
      case rel => exact ⟨k + 1, by omega, by rw [hsn.out]; rfl, by go_num, by repeat (first | exact Drawn0.refl _ | apply Drawn0.step)⟩
    · have hk2 : k = m := by omega
      subst hk2
      have ht : q.take k = q := by rw [← HL.out]; exact List.take_length
      rw [ht]
      clear ht
      go_wp2
      go_ret
      exact ⟨rfl, HR.out, HF.out.drewN _⟩

end Go.Proofs.Ythlcognpfangkaa
