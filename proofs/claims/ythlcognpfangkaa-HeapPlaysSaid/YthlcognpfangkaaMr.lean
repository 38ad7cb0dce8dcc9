/- The walks of the reference's Reader: Word and Text (no condition but the reader's block). -/
import Derived.Test.YthlcognpfangkaaVb
namespace Go.Proofs.Ythlcognpfangkaa
open Go.RowKit Go.Proofs.YthlcognpfangkaaW.PrintWords Go.Proofs.YthlcognpfangkaaW.PrintLast Go.Proofs.YthlcognpfangkaaW.PrintMore
set_option linter.unusedVariables false
set_option linter.unusedSimpArgs false

/-- The block of a reference's Reader. -/
def Mb (w : World) (g : Nat) (A : Option Addr) (n c : Nat) (a b : Int) : Prop := w.heap[g]? = some (.cells #[.slice A n c, .int .i64 a, .int .i64 b] 65 (0, 0))
theorem Mb.cells {w : World} {g : Nat} {A : Option Addr} {n c : Nat} {a b : Int} (h : Mb w g A n c a b) :
    w.cell? ⟨g, 0, none⟩ = some (.slice A n c) ∧ w.cell? ⟨g, 1, none⟩ = some (.int .i64 a) ∧ w.cell? ⟨g, 2, none⟩ = some (.int .i64 b) ∧ w.frozen? ⟨g, 1, none⟩ = false ∧ w.frozen? ⟨g, 2, none⟩ = false :=
  ⟨(blk_cell h 0).trans rfl, (blk_cell h 1).trans rfl, (blk_cell h 2).trans rfl, blk_frozen h 1, blk_frozen h 2⟩
theorem Mb.set1 {w : World} {g : Nat} {A : Option Addr} {n c : Nat} {a b : Int} (h : Mb w g A n c a b) (x : Int) : Mb (w.setCell ⟨g, 1, none⟩ (.int .i64 x)) g A n c x b := blk_set h 1 _
theorem Mb.set2 {w : World} {g : Nat} {A : Option Addr} {n c : Nat} {a b : Int} (h : Mb w g A n c a b) (x : Int) : Mb (w.setCell ⟨g, 2, none⟩ (.int .i64 x)) g A n c a x := blk_set h 2 _
theorem Mb.drewN {w : World} {g : Nat} {A : Option Addr} {n c : Nat} {a b : Int} (h : Mb w g A n c a b) (k : Nat) : Mb (w.drewN k) g A n c a b := h

theorem bool_of (p : Prop) : ∃ b : Bool, b = true ↔ p := by
  by_cases h : p
  · exact ⟨true, by simp [h]⟩
  · exact ⟨false, by simp [h]⟩

theorem mword_bad (w : World) (g : Nat) (A : Option Addr) (n c : Nat) (a b m : Int) (h : Mb w g A n c a b) (hb : 0 ≤ b) :
    Calls Try.prog 41 #[.pointer (some ⟨g, 0, none⟩), .int .i64 m] w fun e w' => e = .returned (.int .u64 0) ∧ Mb w' g A n c a b ∧ Fr (At g) w w' := by
  obtain ⟨h0, h1, h2, f1, f2⟩ := h.cells
  have H := Aside0.mk h
  have hb1 : decide (0 ≤ b) = true := decide_eq_true hb
  obtain ⟨bw, hbw⟩ := bool_of (isW m)
  have HBW := Aside0.mk hbw
  clear h hbw
  go_enter Try.func41, Try.ntmps41
  go_wp2_with (go_at_call 33; refine (wide_calls m _ bw HBW.out).mono ?_; rintro e w' ⟨rfl, ⟨nd, rfl⟩⟩)
  go_ret
  exact ⟨rfl, H.out.drewN _, (Fr.refl _ _).drewN _⟩

theorem mword_no (w : World) (g : Nat) (A : Option Addr) (n c a : Nat) (m : Int) (h : Mb w g A n c a (-1)) (hn : a ≤ n) (hl : n ≤ 9223372036854775000) (hno : ¬ isW m ∨ n < a + m) :
    Calls Try.prog 41 #[.pointer (some ⟨g, 0, none⟩), .int .i64 m] w fun e w' => e = .returned (.int .u64 0) ∧ Mb w' g A n c a a ∧ Fr (At g) w w' := by
  obtain ⟨h0, h1, h2, f1, f2⟩ := h.cells
  have H := Aside0.mk h
  clear h
  by_cases hm : isW m
  · have HM := Aside0.mk hm
    have hm8 : 1 ≤ m ∧ m ≤ 8 := by unfold isW at hm; omega
    have hlt : n < a + m := by rcases hno with h | h; exact absurd hm h; exact h
    have hlt1 : decide ((n : Int) < a + m) = true := decide_eq_true hlt
    have hs0 : IntKind.i64.wrap ((a : Int) + m) = a + m := IntWalk.i64_in _ (by omega)
    clear hno hm
    go_enter Try.func41, Try.ntmps41
    go_wp2_with (go_at_call 33; refine (wide_calls m _ true (by simp [HM.out])).mono ?_; rintro e w' ⟨rfl, ⟨nd, rfl⟩⟩)
    go_quiet (fail)
    go_wp2
    go_ret
    exact ⟨rfl, (H.out.drewN _).set2 _, ((Fr.refl _ _).drewN _).setAt _ _⟩
  · have HM := Aside0.mk hm
    clear hno hm
    go_enter Try.func41, Try.ntmps41
    go_wp2_with (go_at_call 33; refine (wide_calls m _ false (by simp [HM.out])).mono ?_; rintro e w' ⟨rfl, ⟨nd, rfl⟩⟩)
    go_quiet (fail)
    go_wp2
    go_ret
    exact ⟨rfl, (H.out.drewN _).set2 _, ((Fr.refl _ _).drewN _).setAt _ _⟩

/-- One byte more, as the reference's Word reckons it. -/
def mStep (n x : Int) : Int := IntKind.u64.wrap (IntKind.u64.wrap (256 * n) + x)
def mNum (l : List Int) : Int := l.foldl mStep 0
theorem mNum_snoc (l : List Int) (k : Nat) (h : k < l.length) : mNum (l.take (k + 1)) = mStep (mNum (l.take k)) (rd l k) := by
  unfold mNum
  rw [List.take_succ_eq_append_getElem h, List.foldl_append]
  simp [rd, List.getD_eq_getElem?_getD, h]

theorem mword_yes (w0 w : World) (g : Nat) (A : Option Addr) (c : Nat) (l : List Int) (a m : Nat) (hB : Below w0.heap.size w0 w) (hg : w0.heap.size ≤ g) (hr : Kd.C (Kd.int .u8) w0 A l.length l) (hc : l.length ≤ c) (hb : ∀ x ∈ l, 0 ≤ x ∧ x ≤ 255)
    (h : Mb w g A l.length c a (-1)) (hm : isW m) (hy : a + m ≤ l.length) (hl : l.length ≤ 9223372036854775000) :
    Calls Try.prog 41 #[.pointer (some ⟨g, 0, none⟩), .int .i64 m] w fun e w' => e = .returned (.int .u64 (mNum ((l.drop a).take m))) ∧ Mb w' g A l.length c (a + m : Nat) (-1) ∧ Fr (At g) w w' := by
  obtain ⟨h0, h1, h2, f1, f2⟩ := h.cells
  have H := Aside0.mk h
  have HM := Aside0.mk hm
  have HC := Aside0.mk (Kd.C_below hr hB)
  have hm8 : 1 ≤ m ∧ m ≤ 8 := by unfold isW at hm; omega
  obtain ⟨q, hq⟩ : ∃ q, q = ((l.drop a).take m) := ⟨_, rfl⟩
  have hql : q.length = m := by rw [hq, List.length_take, List.length_drop]; omega
  have hrd : ∀ k, k < m → rd q k = rd l (a + k : Nat) := by
    intro k hk
    unfold rd
    rw [hq]
    simp only [Int.toNat_natCast, List.getD_eq_getElem?_getD]
    rw [List.getElem?_take_of_lt hk, List.getElem?_drop]
  have HRD := Aside0.mk hrd
  have HBY := Aside0.mk hb
  have HL := Aside0.mk hql
  have hlt1 : decide ((l.length : Int) < a + m) = false := decide_eq_false (by omega)
  have hs0 : IntKind.i64.wrap ((a : Int) + m) = a + m := IntWalk.i64_in _ (by omega)
  rw [← hq]
  clear h hm hB hr hc hq hql hrd hb
  go_enter Try.func41, Try.ntmps41
  go_wp2_with (go_at_call 33; refine (wide_calls m _ true (by simp [HM.out])).mono ?_; rintro e w' ⟨rfl, ⟨nd, rfl⟩⟩)
  go_quiet (fail)
  go_wp2
  clear hs0
  go_loopg [6, 7] m (fun kq v6 v7 w' => ∃ (k : Nat), k + kq = m ∧ v6 = .int .u64 (mNum (q.take k)) ∧ v7 = .int .i64 k ∧ Drawn0 w w')
  case atStart => exact ⟨0, by omega, rfl, rfl, by repeat (first | exact Drawn0.refl _ | apply Drawn0.step)⟩
  case round =>
    obtain ⟨k, hk, rfl, rfl, ⟨m1, rfl⟩⟩ := hrel
    by_cases hlt : k < m
    · obtain ⟨ad, rfl, hx⟩ := Kd.at_int HC.out ((a + k : Nat) : Int) (by omega) (by omega)
      simp only [Int.toNat_natCast] at hx
      have hkq : k < q.length := by rw [HL.out]; exact hlt
      have hsn := Aside0.mk (mNum_snoc q k hkq)
      have hbx := HBY.out (rd l (a + k : Nat)) (by unfold rd; rw [Int.toNat_natCast, List.getD_eq_getElem?_getD, List.getElem?_eq_getElem (by omega)]; exact List.getElem_mem _)
      rw [HRD.out k hlt] at hsn
      generalize rd l ((a + k : Nat) : Int) = x at hx hsn hbx
      generalize mNum (q.take k) = y at hsn ⊢
      have hs1 : IntKind.i64.wrap ((a : Int) + k) = a + k := IntWalk.i64_in _ (by omega)
      have hs2 : (0 : Int) ≤ a + k := by omega
      have hs3 : ((a : Int) + k).toNat = a + k := by omega
      have hs4 : (a : Int) + k < l.length := by omega
      have hs5 : IntKind.u64.wrap x = x := u64w x (by omega) (by omega)
      clear hkq
      go_wp2
      go_quiet (fail)
      go_wp2
      go_roundg (m - (k + 1))
      case measure => omega
      case rel => exact ⟨k + 1, by omega, by rw [hsn.out]; rfl, by go_num, by repeat (first | exact Drawn0.refl _ | apply Drawn0.step)⟩
    · have hk2 : k = m := by omega
      subst hk2
      have ht : q.take k = q := by rw [← HL.out]; exact List.take_length
      rw [ht]
      clear ht
      go_wp2
      go_ret
      exact ⟨rfl, (H.out.drewN _).set1 _, ((Fr.refl _ _).drewN _).setAt _ _⟩

end Go.Proofs.Ythlcognpfangkaa
