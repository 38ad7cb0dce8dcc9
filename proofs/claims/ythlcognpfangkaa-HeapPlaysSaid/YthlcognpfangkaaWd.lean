/- The walks of word.Reader's small methods: New, fail, Bad, Left, take (no condition but the reader's block). -/
import Derived.Test.YthlcognpfangkaaFr
namespace Go.Proofs.Ythlcognpfangkaa
open Go.RowKit Go.Proofs.YthlcognpfangkaaW.PrintWords Go.Proofs.YthlcognpfangkaaW.PrintLast Go.Proofs.YthlcognpfangkaaW.PrintMore
set_option linter.unusedVariables false
set_option linter.unusedSimpArgs false

/-- The block of a word.Reader. -/
def Rb (w : World) (g : Nat) (A : Option Addr) (n c : Nat) (a b : Int) : Prop := w.heap[g]? = some (.cells #[.slice A n c, .int .i64 a, .int .i64 b] 130 (0, 0))

theorem Rb.cells {w : World} {g : Nat} {A : Option Addr} {n c : Nat} {a b : Int} (h : Rb w g A n c a b) :
    w.cell? ⟨g, 0, none⟩ = some (.slice A n c) ∧ w.cell? ⟨g, 1, none⟩ = some (.int .i64 a) ∧ w.cell? ⟨g, 2, none⟩ = some (.int .i64 b) ∧ w.frozen? ⟨g, 1, none⟩ = false ∧ w.frozen? ⟨g, 2, none⟩ = false :=
  ⟨(blk_cell h 0).trans rfl, (blk_cell h 1).trans rfl, (blk_cell h 2).trans rfl, blk_frozen h 1, blk_frozen h 2⟩
theorem Rb.set1 {w : World} {g : Nat} {A : Option Addr} {n c : Nat} {a b : Int} (h : Rb w g A n c a b) (x : Int) : Rb (w.setCell ⟨g, 1, none⟩ (.int .i64 x)) g A n c x b := blk_set h 1 _
theorem Rb.set2 {w : World} {g : Nat} {A : Option Addr} {n c : Nat} {a b : Int} (h : Rb w g A n c a b) (x : Int) : Rb (w.setCell ⟨g, 2, none⟩ (.int .i64 x)) g A n c a x := blk_set h 2 _
theorem Rb.drewN {w : World} {g : Nat} {A : Option Addr} {n c : Nat} {a b : Int} (h : Rb w g A n c a b) (k : Nat) : Rb (w.drewN k) g A n c a b := h

/-- Where something is amiss, when a place is told. -/
def nb (b x : Int) : Int := if b = -1 then x else b

theorem fail_calls (w : World) (g : Nat) (A : Option Addr) (n c : Nat) (a b x : Int) (h : Rb w g A n c a b) :
    Calls Try.prog 87 #[.pointer (some ⟨g, 0, none⟩), .int .i64 x] w fun e w' => e = .returned (.tuple #[]) ∧ Rb w' g A n c a (nb b x) ∧ Fr (At g) w w' := by
  obtain ⟨h0, h1, h2, f1, f2⟩ := h.cells
  have H := Aside0.mk h
  clear h
  by_cases hb : b = -1
  · subst hb
    go_enter Try.func87, Try.ntmps87
    go_wp2
    go_end0
    exact ⟨rfl, H.out.set2 _, (Fr.refl _ _).setAt _ _⟩
  · have hb1 : (b == -1) = false := beq_eq_false_iff_ne.mpr hb
    have hb' := Aside0.mk hb
    clear hb
    go_enter Try.func87, Try.ntmps87
    go_wp2
    go_end0
    exact ⟨rfl, by unfold nb; rw [if_neg hb'.out]; exact H.out, Fr.refl _ _⟩

theorem bad_calls (w : World) (g : Nat) (A : Option Addr) (n c : Nat) (a b : Int) (h : Rb w g A n c a b) :
    Calls Try.prog 43 #[.pointer (some ⟨g, 0, none⟩)] w fun e w' => e = .returned (.int .i64 b) ∧ w = w' := by
  obtain ⟨h0, h1, h2, f1, f2⟩ := h.cells
  clear h
  go_enter Try.func43, Try.ntmps43
  go_wp2
  go_ret
  exact ⟨rfl, rfl⟩

theorem left_calls (w : World) (g : Nat) (A : Option Addr) (n c : Nat) (a b : Int) (h : Rb w g A n c a b) (ha : 0 ≤ a) (hn : a ≤ n) (hm : n ≤ 9223372036854775807) :
    Calls Try.prog 42 #[.pointer (some ⟨g, 0, none⟩)] w fun e w' => e = .returned (.int .i64 (n - a)) ∧ Drawn0 w w' := by
  obtain ⟨h0, h1, h2, f1, f2⟩ := h.cells
  clear h
  go_enter Try.func42, Try.ntmps42
  go_wp2
  go_quiet (fail)
  go_wp2
  go_ret
  exact ⟨rfl, ⟨⟨_, rfl⟩⟩⟩

theorem read_calls (w : World) (A : Option Addr) (n c : Nat) :
    Calls Try.prog 37 #[.slice A n c] w fun e w' => ∃ g : Nat, e = .returned (.pointer (some ⟨g, 0, none⟩)) ∧ g = w.heap.size ∧ Rb w' g A n c 0 (-1) ∧ Fr No w w' := by
  have hu := Try.underlying130
  go_enter Try.func37, Try.ntmps37
  go_wp2
  go_ret
  exact ⟨_, rfl, rfl, by unfold Rb; simpa using heap_alloc_new w _, (Fr.refl _ _).alloc _⟩

theorem take_no (w : World) (g : Nat) (A : Option Addr) (n c : Nat) (a b m : Int) (h : Rb w g A n c a b) (ha : 0 ≤ a) (hn : a ≤ n) (hl : n ≤ 9223372036854775807) (hno : b ≠ -1 ∨ n - a < m) :
    Calls Try.prog 88 #[.pointer (some ⟨g, 0, none⟩), .int .i64 m] w fun e w' => e = .returned (.slice none 0 0) ∧ Rb w' g A n c a (nb b a) ∧ Fr (At g) w w' := by
  obtain ⟨h0, h1, h2, f1, f2⟩ := h.cells
  have H := Aside0.mk h
  clear h
  by_cases hb : b = -1
  · subst hb
    have hb1 : ((-1 : Int) != -1) = false := rfl
    have hm : n - a < m := by omega
    have hm1 : decide ((n : Int) - a < m) = true := decide_eq_true hm
    clear hno
    go_enter Try.func88, Try.ntmps88
    go_wp2
    go_quiet (fail)
    go_wp2_with (go_at_call 87; refine (fail_calls _ g A n c a (-1) a (H.out.drewN _)).mono ?_; rintro e w' ⟨rfl, hr, hf⟩; have HR := Aside0.mk hr; have HF := Aside0.mk hf; clear hr hf)
    go_ret
    exact ⟨rfl, HR.out, (((Fr.refl _ _).drewN _)).trans HF.out (fun _ h => .inl h)⟩
  · have hb1 : (b != -1) = true := bne_iff_ne.mpr hb
    have hb' := Aside0.mk hb
    clear hb hno
    go_enter Try.func88, Try.ntmps88
    go_wp2
    go_quiet (fail)
    go_wp2_with (go_at_call 87; refine (fail_calls _ g A n c a b a (H.out.drewN _)).mono ?_; rintro e w' ⟨rfl, hr, hf⟩; have HR := Aside0.mk hr; have HF := Aside0.mk hf; clear hr hf)
    go_ret
    exact ⟨rfl, HR.out, (((Fr.refl _ _).drewN _)).trans HF.out (fun _ h => .inl h)⟩

/-- Where a slice that is cut at m begins. -/
def cutA (A : Option Addr) (c m : Nat) : Option Addr := if c = m then A else A.map (·.add (m * 1))
theorem cutA_reads {w : World} {A : Option Addr} {c lo hi : Nat} {l : List Int} (h : Kd.C (Kd.int .u8) w A l.length l) (h1 : lo ≤ hi) (h2 : hi ≤ l.length) (hc : l.length ≤ c) : Kd.C (Kd.int .u8) w (cutA A c lo) ((l.take hi).drop lo).length ((l.take hi).drop lo) := Kd.C_mid h h1 h2 hc

theorem take_yes (w : World) (g : Nat) (A : Option Addr) (n c : Nat) (a m : Nat) (h : Rb w g A n c a (-1)) (hm : a + m ≤ n) (hl : n ≤ 9223372036854775807) (hc : n ≤ c) :
    Calls Try.prog 88 #[.pointer (some ⟨g, 0, none⟩), .int .i64 m] w fun e w' => e = .returned (.slice (cutA A c a) m (c - a)) ∧ Rb w' g A n c (a + m) (-1) ∧ Fr (At g) w w' := by
  obtain ⟨h0, h1, h2, f1, f2⟩ := h.cells
  have H := Aside0.mk h
  clear h
  have hb1 : ((-1 : Int) != -1) = false := rfl
  have hm1 : decide ((n : Int) - a < m) = false := decide_eq_false (by omega)
  obtain ⟨i0, hi, hz0, hz1, hz2⟩ := info_parts PWordPuts.info5
  have hcut := cut_mid (P := Try.prog) 47 5 .i64 .i64 Try.underlying47 hi 1 hz1 A n c a (a + m) (by omega) (by omega) (by omega) hc
  rw [Int.toNat_natCast, show ((a : Int) + m).toNat - a = m by omega] at hcut
  unfold cutA
  generalize (if c = a then A else A.map (·.add (a * 1))) = A' at hcut ⊢
  go_enter Try.func88, Try.ntmps88
  go_wp2
  go_quiet (fail)
  go_wp2
  have HR := Aside0.mk ((H.out.drewN nq).set1 (a + m))
  have HF := Aside0.mk (((Fr.refl (At g) w).drewN nq).setAt 1 (.int .i64 (a + m)))
  clear h0 h1 h2 f1 f2 H
  generalize (w.drewN nq).setCell ⟨g, 1, none⟩ (.int .i64 (a + m)) = W1 at HR HF ⊢
  obtain ⟨h0, h1, h2, f1, f2⟩ := HR.out.cells
  have hs0 : IntKind.i64.wrap ((a : Int) + m - m) = a := by rw [show (a : Int) + m - m = a from by omega]; exact IntWalk.i64_in _ (by omega)
  go_quiet (fail)
  go_wp2
  go_ret
  exact ⟨rfl, HR.out.drewN _, HF.out.drewN _⟩

end Go.Proofs.Ythlcognpfangkaa
