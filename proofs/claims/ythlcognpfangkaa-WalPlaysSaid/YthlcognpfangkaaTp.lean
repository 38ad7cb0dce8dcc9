/- The walks of tape.Tape's methods (no condition but the tape's block and its bytes). -/
import Derived.Test.YthlcognpfangkaaLwCrc
import Derived.WalkSpells
namespace Go.Proofs.Ythlcognpfangkaa
open Go.RowKit Go.Proofs.YthlcognpfangkaaW.PrintWords Go.Proofs.YthlcognpfangkaaW.PrintLast Go.Proofs.YthlcognpfangkaaW.PrintMore
set_option linter.unusedVariables false
set_option linter.unusedSimpArgs false
attribute [local go_sem] max2_int min2_int max_two min_two

/-- The block of a tape. -/
def Tp (w : World) (g : Nat) (v : Value) (room synced : Int) (down : Bool) (left : Int) : Prop := w.heap[g]? = some (.cells #[.int .i64 room, .int .i64 synced, v, .bool down, .int .i64 left] 135 (0, 0))
section
variable {w : World} {g : Nat} {v : Value} {room synced left : Int} {down : Bool}
theorem Tp.cells (h : Tp w g v room synced down left) : w.cell? ⟨g, 0, none⟩ = some (.int .i64 room) ∧ w.cell? ⟨g, 1, none⟩ = some (.int .i64 synced) ∧ w.cell? ⟨g, 2, none⟩ = some v ∧ w.cell? ⟨g, 3, none⟩ = some (.bool down) ∧ w.cell? ⟨g, 4, none⟩ = some (.int .i64 left) :=
  ⟨(blk_cell h 0).trans rfl, (blk_cell h 1).trans rfl, (blk_cell h 2).trans rfl, (blk_cell h 3).trans rfl, (blk_cell h 4).trans rfl⟩
theorem Tp.free (h : Tp w g v room synced down left) : w.frozen? ⟨g, 1, none⟩ = false ∧ w.frozen? ⟨g, 2, none⟩ = false ∧ w.frozen? ⟨g, 3, none⟩ = false ∧ w.frozen? ⟨g, 4, none⟩ = false := ⟨blk_frozen h 1, blk_frozen h 2, blk_frozen h 3, blk_frozen h 4⟩
theorem Tp.set1 (h : Tp w g v room synced down left) (x : Int) : Tp (w.setCell ⟨g, 1, none⟩ (.int .i64 x)) g v room x down left := blk_set h 1 _
theorem Tp.set2 (h : Tp w g v room synced down left) (x : Value) : Tp (w.setCell ⟨g, 2, none⟩ x) g x room synced down left := blk_set h 2 _
theorem Tp.set3 (h : Tp w g v room synced down left) (x : Bool) : Tp (w.setCell ⟨g, 3, none⟩ (.bool x)) g v room synced x left := blk_set h 3 _
theorem Tp.set4 (h : Tp w g v room synced down left) (x : Int) : Tp (w.setCell ⟨g, 4, none⟩ (.int .i64 x)) g v room synced down x := blk_set h 4 _
theorem Tp.drewN (h : Tp w g v room synced down left) (n : Nat) : Tp (w.drewN n) g v room synced down left := h
theorem Tp.drew (h : Tp w g v room synced down left) : Tp w.drew g v room synced down left := h
end

/-- An error by its number. -/
def errOf (c : Nat) : Value := if c = 0 then .nilIface else .iface 56 (.int .i64 c)
theorem errOf_0 : errOf 0 = .nilIface := rfl
theorem errOf_pos {c : Nat} (h : c ≠ 0) : errOf c = .iface 56 (.int .i64 c) := by unfold errOf; rw [if_neg h]
/-- What is amiss with a call, and how many calls go well then. -/
def callC (down : Bool) (left : Int) : Nat := if down = true then 9 else if left = 0 then 8 else 0
def callL (down : Bool) (left : Int) : Int := if down = true then left else if left = 0 then -1 else if left > 0 then left - 1 else left

theorem tcall (w : World) (g : Nat) (v : Value) (room synced left : Int) (down : Bool) (h : Tp w g v room synced down left) (hl : left ≤ 9223372036854775807) :
    Calls Try.prog 91 #[.pointer (some ⟨g, 0, none⟩)] w fun e w' => e = .returned (errOf (callC down left)) ∧ Tp w' g v room synced down (callL down left) ∧ Fr (At g) w w' := by
  obtain ⟨q0, q1, q2, q3, q4⟩ := h.cells
  obtain ⟨f1, f2, f3, f4⟩ := h.free
  have H := Aside0.mk h
  clear h q0 q1 q2 f1 f2 f3
  cases down with
  | true =>
    have e1 : callC true left = 9 := rfl
    have e2 : callL true left = left := rfl
    rw [e1, e2]
    clear e1 e2
    go_enter Try.func91, Try.ntmps91
    go_wp2
    go_ret
    exact ⟨rfl, H.out, Fr.refl _ _⟩
  | false =>
    by_cases h0 : left = 0
    · subst h0
      have e1 : callC false 0 = 8 := rfl
      have e2 : callL false 0 = -1 := rfl
      rw [e1, e2]
      clear e1 e2
      go_enter Try.func91, Try.ntmps91
      go_wp2
      go_ret
      exact ⟨rfl, H.out.set4 _, (Fr.refl _ _).setAt _ _⟩
    · have e1 : callC false left = 0 := by simp [callC, h0]
      have h0b : (left == 0) = false := beq_eq_false_iff_ne.mpr h0
      by_cases h1 : 0 < left
      · have e2 : callL false left = left - 1 := by simp [callL, h0, h1]
        have h1b : decide (0 < left) = true := decide_eq_true h1
        rw [e1, e2]
        clear e1 e2 h0
        go_enter Try.func91, Try.ntmps91
        go_wp2
        go_ret
        exact ⟨rfl, H.out.set4 _, (Fr.refl _ _).setAt _ _⟩
      · have e2 : callL false left = left := by simp [callL, h0, h1]
        have h1b : decide (0 < left) = false := decide_eq_false h1
        rw [e1, e2]
        clear e1 e2 h0
        go_enter Try.func91, Try.ntmps91
        go_wp2
        go_ret
        exact ⟨rfl, H.out, Fr.refl _ _⟩

/-- A number of calls that go well, as Fail takes it. -/
def failL (n : Int) : Int := if n < 0 then -1 else n
theorem tfail (w : World) (g : Nat) (v : Value) (room synced left : Int) (down : Bool) (n : Int) (h : Tp w g v room synced down left) :
    Calls Try.prog 65 #[.pointer (some ⟨g, 0, none⟩), .int .i64 n] w fun e w' => e = .returned (.tuple #[]) ∧ Tp w' g v room synced down (failL n) ∧ Fr (At g) w w' := by
  obtain ⟨q0, q1, q2, q3, q4⟩ := h.cells
  obtain ⟨f1, f2, f3, f4⟩ := h.free
  have H := Aside0.mk h
  clear h q0 q1 q2 f1 f2 f3
  by_cases hn : n < -1
  · have e1 : failL n = -1 := by unfold failL; rw [if_pos (by omega)]
    rw [e1]
    clear e1
    go_enter Try.func65, Try.ntmps65
    go_wp2
    go_end0
    exact ⟨rfl, H.out.set4 _, (Fr.refl _ _).setAt _ _⟩
  · have e1 : failL n = n := by unfold failL; split <;> omega
    rw [e1]
    clear e1
    go_enter Try.func65, Try.ntmps65
    go_wp2
    go_end0
    exact ⟨rfl, H.out.set4 _, (Fr.refl _ _).setAt _ _⟩

theorem tup (w : World) (g : Nat) (v : Value) (room synced left : Int) (down : Bool) (h : Tp w g v room synced down left) :
    Calls Try.prog 58 #[.pointer (some ⟨g, 0, none⟩)] w fun e w' => e = .returned (.tuple #[]) ∧ Tp w' g v room synced false left ∧ Fr (At g) w w' := by
  obtain ⟨q0, q1, q2, q3, q4⟩ := h.cells
  obtain ⟨f1, f2, f3, f4⟩ := h.free
  have H := Aside0.mk h
  clear h q0 q1 q2 f1 f2 f4
  go_enter Try.func58, Try.ntmps58
  go_wp2
  go_end0
  exact ⟨rfl, H.out.set3 _, (Fr.refl _ _).setAt _ _⟩

theorem tnew_no (w : World) (room : Int) (h : room < 1 ∨ 1048576 < room) :
    Calls Try.prog 54 #[.int .i64 room] w fun e w' => e = .returned (.tuple #[.pointer none, .iface 56 (.int .i64 1)]) ∧ w = w' := by
  by_cases h1 : room < 1
  · have hb : decide (room < 1) = true := decide_eq_true h1
    clear h
    go_enter Try.func54, Try.ntmps54
    go_wp2
    go_ret2
    exact ⟨rfl, rfl⟩
  · have hb : decide (room < 1) = false := decide_eq_false h1
    have hb2 : decide (1048576 < room) = true := decide_eq_true (by omega)
    clear h
    go_enter Try.func54, Try.ntmps54
    go_wp2
    go_ret2
    exact ⟨rfl, rfl⟩
theorem tnew (w : World) (room : Int) (h1 : 1 ≤ room) (h2 : room ≤ 1048576) :
    Calls Try.prog 54 #[.int .i64 room] w fun e w' => ∃ g, e = .returned (.tuple #[.pointer (some ⟨g, 0, none⟩), .nilIface]) ∧ g = w.heap.size ∧ Tp w' g (.slice none 0 0) room 0 false (-1) ∧ Fr No w w' := by
  have hu := Try.underlying135
  have hb : decide (room < 1) = false := decide_eq_false (by omega)
  have hb2 : decide (1048576 < room) = false := decide_eq_false (by omega)
  go_enter Try.func54, Try.ntmps54
  go_wp2
  go_ret2
  exact ⟨_, rfl, rfl, by unfold Tp; simpa using heap_alloc_new w _, (Fr.refl _ _).alloc _⟩


theorem tsync (w : World) (g : Nat) (A : Option Addr) (n c : Nat) (room synced left : Int) (down : Bool) (h : Tp w g (.slice A n c) room synced down left) (hl : left ≤ 9223372036854775807) :
    Calls Try.prog 56 #[.pointer (some ⟨g, 0, none⟩)] w fun e w' => e = .returned (errOf (callC down left)) ∧ Tp w' g (.slice A n c) room (if callC down left = 0 then (n : Int) else synced) down (callL down left) ∧ Fr (At g) w w' := by
  have H := Aside0.mk h
  clear h
  by_cases hc : callC down left = 0
  · rw [if_pos hc, hc, errOf_0]
    have HC := Aside0.mk hc
    clear hc
    go_enter Try.func56, Try.ntmps56
    go_wp2_with (go_at_call 91; refine (tcall _ g _ room synced left down H.out hl).mono ?_; rw [HC.out, errOf_0]; rintro e w1 ⟨rfl, ht, hf⟩; obtain ⟨q0, q1, q2, q3, q4⟩ := ht.cells; obtain ⟨f1, f2, f3, f4⟩ := ht.free; have T1 := Aside0.mk ht; have F1 := Aside0.mk hf; clear ht hf)
    go_ret
    exact ⟨rfl, T1.out.set1 _, F1.out.setAt _ _⟩
  · rw [if_neg hc, errOf_pos hc]
    have HC := Aside0.mk hc
    clear hc
    go_enter Try.func56, Try.ntmps56
    go_wp2_with (go_at_call 91; refine (tcall _ g _ room synced left down H.out hl).mono ?_; rw [errOf_pos HC.out]; rintro e w1 ⟨rfl, ht, hf⟩; have T1 := Aside0.mk ht; have F1 := Aside0.mk hf; clear ht hf)
    go_ret
    exact ⟨rfl, T1.out, F1.out⟩

theorem clone_nil (w : World) : Calls Try.prog 92 #[.slice none 0 0] w fun e w' => e = .returned (.slice none 0 0) ∧ w = w' := by
  have hn := fun (w : World) (a : Option Addr) (n c : Nat) => Lib.run_eql_slice_nil (P := Try.prog) w 47 5 a n c 0 0 Try.underlying47
  go_enter Try.func92, Try.ntmps92
  go_wp2
  go_ret
  exact ⟨rfl, rfl⟩
theorem clone_some (w : World) (ad : Addr) (c : Nat) (l : List Int) (hr : Kd.C (Kd.int .u8) w (some ad) l.length l) (hl : l.length ≤ 140737488355000) :
    Calls Try.prog 92 #[.slice (some ad) l.length c] w fun e w' => ∃ v, e = .returned v ∧ Kd.R (Kd.int .u8) 5 w' w.heap.size (fun _ => True) v l ∧ Fr No w w' := by
  have hn := fun (w : World) (a : Option Addr) (n c : Nat) => Lib.run_eql_slice_nil (P := Try.prog) w 47 5 a n c 0 0 Try.underlying47
  have HR := Aside0.mk hr
  clear hr
  go_enter Try.func92, Try.ntmps92
  go_wp2_with (first | ((with_reducible refine gate_dst (N := 5) rfl ?_); refine lit_bytes w.heap.size rfl 5 rfl (fun _ => True) ?hr trivial (Nat.le_refl _) ?_; (case hr => first | (go_simp; done) | (go_simp; rfl)); intro v3 w3 hr3 hg3 _; have O3 := Aside0.mk hr3; have F3 := Aside0.mk (Fr.new hg3); clear hr3 hg3) | ((with_reducible refine gate_builtin (b := .append) (xs := #[.tmp 5, .tmp 6]) rfl ?_); at_builtin; refine app_bytes w.heap.size rfl 5 6 rfl v3 [] l (some ad) l.length c (fun _ => True) rfl rfl O3.out (C_on HR.out F3.out) (fun _ _ => trivial) F3.out.size ?hl ?_; (case hl => simp; omega); intro v4 w4 hr4 hg4 _; rw [List.nil_append] at hr4; have O4 := Aside0.mk hr4; have F4 := Aside0.mk (F3.out.own O3.out (Nat.le_refl _) hg4); clear hr4 hg4))
  go_ret
  exact ⟨v4, rfl, O4.out, F4.out⟩
/-- slices.Clone of a row of the call's own. -/
theorem clone_any (w : World) (v : Value) (l : List Int) (base : Nat) (A : Option Addr) (c : Nat) (hr : Kd.R (Kd.int .u8) 5 w base (fun _ => True) (.slice A l.length c) l) (hl : l.length ≤ 140737488355000) :
    Calls Try.prog 92 #[.slice A l.length c] w fun e w' => ∃ v, e = .returned v ∧ Kd.R (Kd.int .u8) 5 w' w.heap.size (fun _ => True) v l ∧ Fr No w w' := by
  cases A with
  | none =>
    obtain ⟨inner, ho⟩ := Kd.R_own hr
    rcases ho.2 with ⟨h1, h2⟩ | ⟨g, cap, cur, e, _⟩
    · simp only [Value.slice.injEq] at h1
      obtain ⟨_, h3, rfl⟩ := h1
      have : l = [] := List.eq_nil_of_length_eq_zero h3
      subst this
      exact (clone_nil w).mono fun e w' ⟨he, hw⟩ => ⟨_, he, Kd.R_nil _ _ _ _ _, by rw [← hw]; exact Fr.refl _ _⟩
    · simp at e
  | some ad => exact clone_some w ad c l (Kd.R_reads' hr).2.2 hl

theorem tread_down (w : World) (g : Nat) (v : Value) (room synced left : Int) (h : Tp w g v room synced true left) :
    Calls Try.prog 59 #[.pointer (some ⟨g, 0, none⟩)] w fun e w' => e = .returned (.tuple #[.slice none 0 0, .iface 56 (.int .i64 9)]) ∧ w = w' := by
  obtain ⟨q0, q1, q2, q3, q4⟩ := h.cells
  clear h q0 q1 q2 q4
  go_enter Try.func59, Try.ntmps59
  go_wp2
  go_ret2
  exact ⟨rfl, rfl⟩
theorem tread (w : World) (g : Nat) (A : Option Addr) (c : Nat) (l : List Int) (base : Nat) (room synced left : Int) (h : Tp w g (.slice A l.length c) room synced false left) (hr : Kd.R (Kd.int .u8) 5 w base (fun _ => True) (.slice A l.length c) l) (hl : l.length ≤ 140737488355000) :
    Calls Try.prog 59 #[.pointer (some ⟨g, 0, none⟩)] w fun e w' => ∃ v, e = .returned (.tuple #[v, .nilIface]) ∧ Kd.R (Kd.int .u8) 5 w' w.heap.size (fun _ => True) v l ∧ Fr No w w' := by
  obtain ⟨q0, q1, q2, q3, q4⟩ := h.cells
  have HR := Aside0.mk hr
  clear h q0 q1 q4 hr
  go_enter Try.func59, Try.ntmps59
  go_wp2_with (go_at_call 92; refine (clone_any _ (.nilIface) l base A c HR.out hl).mono ?_; rintro e w1 ⟨v1, rfl, hr1, hf⟩; have R1 := Aside0.mk hr1; have F1 := Aside0.mk hf; clear hr1 hf)
  go_ret2
  exact ⟨v1, rfl, R1.out, F1.out⟩

theorem tcut_down (w : World) (g : Nat) (v : Value) (room synced left n : Int) (h : Tp w g v room synced true left) :
    Calls Try.prog 63 #[.pointer (some ⟨g, 0, none⟩), .int .i64 n] w fun e w' => e = .returned (.iface 56 (.int .i64 9)) ∧ w = w' := by
  obtain ⟨q0, q1, q2, q3, q4⟩ := h.cells
  clear h q0 q1 q2 q4
  go_enter Try.func63, Try.ntmps63
  go_wp2
  go_ret
  exact ⟨rfl, rfl⟩
theorem tcut_no (w : World) (g : Nat) (A : Option Addr) (c m : Nat) (room synced left n : Int) (h : Tp w g (.slice A m c) room synced false left) (hn : n < 0 ∨ (m : Int) < n) :
    Calls Try.prog 63 #[.pointer (some ⟨g, 0, none⟩), .int .i64 n] w fun e w' => e = .returned (.iface 56 (.int .i64 1)) ∧ w = w' := by
  obtain ⟨q0, q1, q2, q3, q4⟩ := h.cells
  clear h q0 q1 q4
  by_cases h1 : n < 0
  · have hb : decide (n < 0) = true := decide_eq_true h1
    clear hn
    go_enter Try.func63, Try.ntmps63
    go_wp2
    go_ret
    exact ⟨rfl, rfl⟩
  · have hb : decide (n < 0) = false := decide_eq_false h1
    have hb2 : decide ((m : Int) < n) = true := decide_eq_true (by omega)
    clear hn
    go_enter Try.func63, Try.ntmps63
    go_wp2
    go_ret
    exact ⟨rfl, rfl⟩
theorem tcut (w : World) (g : Nat) (A : Option Addr) (c : Nat) (l : List Int) (base : Nat) (room synced left : Int) (n : Nat) (h : Tp w g (.slice A l.length c) room synced false left) (hr : Kd.R (Kd.int .u8) 5 w base (fun _ => True) (.slice A l.length c) l) (hn : n ≤ l.length) :
    Calls Try.prog 63 #[.pointer (some ⟨g, 0, none⟩), .int .i64 n] w fun e w' => e = .returned .nilIface ∧ Tp w' g (.slice A n c) room n false left ∧ Kd.R (Kd.int .u8) 5 w' base (fun _ => True) (.slice A n c) (l.take n) ∧ Fr (At g) w w' := by
  obtain ⟨q0, q1, q2, q3, q4⟩ := h.cells
  obtain ⟨f1, f2, f3, f4⟩ := h.free
  have H := Aside0.mk h
  have hrd := Kd.R_reads' hr
  have hsl := cutto A l c n hn hrd.2.1
  have htl : (l.take n).length = n := by rw [List.length_take]; omega
  rw [htl] at hsl
  have HR := Aside0.mk (Kd.R_take hr hn)
  have hb : decide ((n : Int) < 0) = false := decide_eq_false (by omega)
  have hb2 : decide ((l.length : Int) < n) = false := decide_eq_false (by omega)
  clear h q0 q4 f3 f4 htl hrd hr
  go_enter Try.func63, Try.ntmps63
  go_wp2
  go_ret
  have T1 := (H.out.set2 (.slice A n c)).set1 n
  have F1 := ((Fr.refl (At g) w).setAt 2 (.slice A n c)).setAt 1 (.int .i64 n)
  exact ⟨rfl, T1, F1.Rtyp HR.out H.out (by decide), F1⟩


theorem C_fr0 {k : IntKind} {w W : World} {A : Option Addr} {n : Nat} {l : List Int} (h : Kd.C (Kd.int k) w A n l) (hf : ∀ b, b < w.heap.size → 0 < n → (∃ ad, A = some ad ∧ ad.block = b) → W.heap[b]? = w.heap[b]?) : Kd.C (Kd.int k) W A n l := by
  by_cases hz : 0 < n
  · exact C_fr h (fun b hb hx => hf b hb hz hx)
  · exact ⟨h.1, h.2.1, fun hn => absurd hn (by omega)⟩

/-- A tape's block, and that of its bytes. -/
def TS (g : Nat) (v : Value) : Nat → Prop := fun k => k = g ∨ v.ownBlock = some k

theorem tappend_err (w : World) (g : Nat) (v : Value) (room synced left : Int) (down : Bool) (B : Option Addr) (d m : Nat) (h : Tp w g v room synced down left) (hl : left ≤ 9223372036854775807) (hc : callC down left ≠ 0) :
    Calls Try.prog 55 #[.pointer (some ⟨g, 0, none⟩), .slice B m d] w fun e w' => e = .returned (errOf (callC down left)) ∧ Tp w' g v room synced down (callL down left) ∧ Fr (At g) w w' := by
  have H := Aside0.mk h
  rw [errOf_pos hc]
  have HC := Aside0.mk hc
  clear h hc
  go_enter Try.func55, Try.ntmps55
  go_wp2_with (go_at_call 91; refine (tcall _ g _ room synced left down H.out hl).mono ?_; rw [errOf_pos HC.out]; rintro e w1 ⟨rfl, ht, hf⟩; have T1 := Aside0.mk ht; have F1 := Aside0.mk hf; clear ht hf)
  go_ret
  exact ⟨rfl, T1.out, F1.out⟩

theorem tappend_full (w : World) (g : Nat) (A : Option Addr) (c n : Nat) (room synced left : Int) (down : Bool) (B : Option Addr) (d m : Nat) (h : Tp w g (.slice A n c) room synced down left) (hl : left ≤ 9223372036854775807) (hc : callC down left = 0) (hr0 : 0 ≤ room) (hr1 : room ≤ 1048576) (hn : n ≤ 140737488355000) (hf : room - n < m) (hm : m ≤ 140737488355000) :
    Calls Try.prog 55 #[.pointer (some ⟨g, 0, none⟩), .slice B m d] w fun e w' => e = .returned (.iface 56 (.int .i64 6)) ∧ Tp w' g (.slice A n c) room synced down (callL down left) ∧ Fr (At g) w w' := by
  have H := Aside0.mk h
  have HC := Aside0.mk hc
  have hs0 : IntKind.i64.wrap (room - n) = room - n := IntWalk.i64_in _ (by omega)
  have hb : decide (room - n < m) = true := decide_eq_true hf
  clear h hc
  go_enter Try.func55, Try.ntmps55
  go_wp2_with (go_at_call 91; refine (tcall _ g _ room synced left down H.out hl).mono ?_; rw [HC.out, errOf_0]; rintro e w1 ⟨rfl, ht, hf⟩; obtain ⟨q0, q1, q2, q3, q4⟩ := ht.cells; have T1 := Aside0.mk ht; have F1 := Aside0.mk hf; clear ht hf)
  go_quiet (fail)
  go_wp2
  go_ret
  exact ⟨rfl, T1.out.drewN _, F1.out.drewN _⟩

theorem tappend (w : World) (g : Nat) (A : Option Addr) (c : Nat) (l : List Int) (base : Nat) (room synced left : Int) (down : Bool) (B : Option Addr) (d : Nat) (m : List Int) (h : Tp w g (.slice A l.length c) room synced down left) (hr : Kd.R (Kd.int .u8) 5 w base (fun _ => True) (.slice A l.length c) l) (hbase : base ≤ w.heap.size)
    (hm : Kd.C (Kd.int .u8) w B m.length m) (hB : ∀ ad, B = some ad → 0 < m.length → ad.block ≠ g) (hl : left ≤ 9223372036854775807) (hc : callC down left = 0) (hr0 : 0 ≤ room) (hr1 : room ≤ 1048576) (hn : l.length ≤ room) (hf : m.length ≤ room - l.length) :
    Calls Try.prog 55 #[.pointer (some ⟨g, 0, none⟩), .slice B m.length d] w fun e w' => e = .returned .nilIface ∧ ∃ A' c', Tp w' g (.slice A' (l.length + m.length) c') room synced down (callL down left) ∧ Kd.R (Kd.int .u8) 5 w' base (fun _ => True) (.slice A' (l.length + m.length) c') (l ++ m) ∧ Fr (TS g (.slice A l.length c)) w w' ∧
      ((Value.slice A' (l.length + m.length) c').ownBlock = (Value.slice A l.length c).ownBlock ∨ ∃ b, (Value.slice A' (l.length + m.length) c').ownBlock = some b ∧ w.heap.size ≤ b) := by
  have H := Aside0.mk h
  have HR := Aside0.mk hr
  have HM := Aside0.mk hm
  have HC := Aside0.mk hc
  have HBA := Aside0.mk hB
  have HBASE := Aside0.mk hbase
  have hs0 : IntKind.i64.wrap (room - l.length) = room - l.length := IntWalk.i64_in _ (by omega)
  have hb : decide (room - (l.length : Int) < m.length) = false := decide_eq_false (by omega)
  clear h hc hr hm hB hbase
  go_enter Try.func55, Try.ntmps55
  go_wp2_with (go_at_call 91; refine (tcall _ g _ room synced left down H.out hl).mono ?_; rw [HC.out, errOf_0]; rintro e w1 ⟨rfl, ht, hf⟩; obtain ⟨q0, q1, q2, q3, q4⟩ := ht.cells; have T1 := Aside0.mk ht; have F1 := Aside0.mk hf; clear ht hf)
  go_quiet (fail)
  have R2 := Aside0.mk ((F1.out.drewN nq).Rtyp HR.out H.out (by decide))
  have M2 := Aside0.mk (C_fr0 HM.out (fun b hb hz ⟨ad, e, e2⟩ => (F1.out.drewN nq).block b hb (fun (hk : b = g) => HBA.out ad e hz (by rw [e2, hk]))))
  have T2 := Aside0.mk (T1.out.drewN nq)
  have F2 := Aside0.mk (F1.out.drewN nq)
  clear T1 F1 hs0
  generalize w1.drewN nq = w2 at R2 M2 T2 F2 ⊢
  clear q0 q1 q2 q3 q4
  obtain ⟨q0, q1, q2, q3, q4⟩ := T2.out.cells
  go_wp2_with ((with_reducible refine gate_builtin (b := .append) (xs := #[.tmp 29, .tmp 30]) rfl ?_); at_builtin; refine app_bytes base rfl 29 30 rfl (.slice A l.length c) l m B m.length d (fun _ => True) rfl rfl R2.out M2.out (fun _ _ => trivial) (Nat.le_trans HBASE.out F2.out.size) ?hl ?_; (case hl => omega); intro v5 w5 hr5 hg5 hown5; obtain ⟨A5, c5, e5, _, _⟩ := R_out hr5; rw [List.length_append] at e5; subst e5; have T5 := Aside0.mk (show Tp w5 g (.slice A l.length c) room synced down (callL down left) from blk_grown T2.out hg5 (Kd.R_ne R2.out T2.out (by decide))); have R5 := Aside0.mk hr5; have F5 := Aside0.mk ((F2.out.mono (S2 := TS g (.slice A l.length c)) (fun k hk => .inl hk)).grown hg5 (fun k hk => .inl (.inr hk))); have OW5 := Aside0.mk hown5; obtain ⟨r0, r1, r2, r3, r4⟩ := T5.out.cells; obtain ⟨f1, f2, f3, f4⟩ := T5.out.free; clear hr5 hg5 hown5)
  go_ret
  have FS := (Fr.refl (At g) w5).setAt 2 (.slice A5 (l.length + m.length) c5)
  refine ⟨rfl, A5, c5, T5.out.set2 _, FS.Rtyp R5.out T5.out (by decide), F5.out.trans FS (fun k (hk : k = g) => .inl (.inl hk)), ?_⟩
  rcases OW5.out with h | ⟨b, h1, h2⟩
  · exact .inl h
  · exact .inr ⟨b, h1, Nat.le_trans F2.out.size h2⟩

theorem tcrash_down (w : World) (g : Nat) (v : Value) (room synced left n : Int) (h : Tp w g v room synced true left) :
    Calls Try.prog 57 #[.pointer (some ⟨g, 0, none⟩), .int .i64 n] w fun e w' => e = .returned (.tuple #[]) ∧ w = w' := by
  obtain ⟨q0, q1, q2, q3, q4⟩ := h.cells
  clear h q0 q1 q2 q4
  go_enter Try.func57, Try.ntmps57
  go_wp2
  try simp only [Exit.inBlock, Exit.then]
  refine bodyPost_ret (results_none rfl _ _ _) rfl ?_
  exact ⟨rfl, rfl⟩

/-- How many bytes are left behind a crash. -/
def crashN (n s : Nat) (keep : Int) : Nat := s + (if keep ≤ 0 then 0 else if (n : Int) - s < keep then n - s else keep.toNat)
theorem crashN_le {n s : Nat} (h : s ≤ n) (keep : Int) : crashN n s keep ≤ n ∧ s ≤ crashN n s keep := by
  unfold crashN
  split
  · omega
  · split <;> omega
theorem crash_eq {n s : Nat} (h : s ≤ n) (hn : n ≤ 140737488355000) (keep : Int) : wrap64 ((s : Int) + if 0 < (if (n : Int) - s < keep then (n : Int) - s else keep) then (if (n : Int) - s < keep then (n : Int) - s else keep) else 0) = (crashN n s keep : Nat) := by
  have e : ((s : Int) + if 0 < (if (n : Int) - s < keep then (n : Int) - s else keep) then (if (n : Int) - s < keep then (n : Int) - s else keep) else 0) = (crashN n s keep : Nat) := by
    unfold crashN
    by_cases h1 : (n : Int) - s < keep
    · simp only [if_pos h1]
      by_cases h2 : 0 < (n : Int) - s
      · have h3 : ¬ keep ≤ 0 := by omega
        rw [if_pos h2, if_neg h3]; omega
      · have h3 : (n : Int) - s = 0 := by omega
        rw [if_neg h2]
        have h4 : n - s = 0 := by omega
        simp only [h4]; split <;> simp
    · simp only [if_neg h1]
      by_cases h2 : 0 < keep
      · have h3 : ¬ keep ≤ 0 := by omega
        rw [if_pos h2, if_neg h3]; omega
      · have h3 : keep ≤ 0 := by omega
        rw [if_neg h2, if_pos h3]; omega
  rw [e]
  have := (crashN_le h keep).1
  exact IntWalk.wrap64_in _ (by omega)

set_option maxHeartbeats 8000000 in
set_option maxRecDepth 100000 in
theorem tcrash (w : World) (g : Nat) (A : Option Addr) (c : Nat) (l : List Int) (base : Nat) (room left keep : Int) (s : Nat) (h : Tp w g (.slice A l.length c) room s false left) (hr : Kd.R (Kd.int .u8) 5 w base (fun _ => True) (.slice A l.length c) l) (hs : s ≤ l.length) (hlen : l.length ≤ 140737488355000) :
    Calls Try.prog 57 #[.pointer (some ⟨g, 0, none⟩), .int .i64 keep] w fun e w' => e = .returned (.tuple #[]) ∧ Tp w' g (.slice A (crashN l.length s keep) c) room (crashN l.length s keep) true (-1) ∧ Kd.R (Kd.int .u8) 5 w' base (fun _ => True) (.slice A (crashN l.length s keep) c) (l.take (crashN l.length s keep)) ∧ Fr (At g) w w' := by
  have ek := crash_eq hs hlen keep
  have hk2 := (crashN_le hs keep).1
  generalize crashN l.length s keep = k at ek hk2 ⊢
  have EK := Aside0.mk ek
  clear ek
  obtain ⟨q0, q1, q2, q3, q4⟩ := h.cells
  obtain ⟨f1, f2, f3, f4⟩ := h.free
  have H := Aside0.mk h
  have hrd := Kd.R_reads' hr
  have hsl := cutto A l c k hk2 hrd.2.1
  have htl : (l.take k).length = k := by rw [List.length_take]; omega
  rw [htl] at hsl
  have HR := Aside0.mk (Kd.R_take hr hk2)
  have H9 := Aside0.mk h
  clear hrd htl hr h
  go_enter Try.func57, Try.ntmps57
  go_wp2
  have hw0 : IntKind.i64.wrap ((l.length : Int) - s) = l.length - s := IntWalk.i64_in _ (by omega)
  refine start_ (n := 21) (S := fun w' => w'.cell? ⟨g, 1, none⟩ = some (.int .i64 s) ∧ w'.cell? ⟨g, 2, none⟩ = some (.slice A l.length c)) (ds := [20]) #[false, false, false, false, false, false, false, false, false, false, false, false, false, false, false, false, false, false, false, false, false] (by kernel_rfl) rfl rfl ⟨q1, q2⟩ (fun hHeld => ?_)
  refine pure_ (i := 0) (N := some 8) (v := ?_) (a' := ?_) #[true, false, false, false, false, false, false, false, false, false, false, false, false, false, false, false, false, false, false, false, false] rfl rfl (by kernel_rfl) (fun _ _ _ h => h) (Or.inl ⟨by rfl, ?_⟩) ?_ ?_
  rotate_left
  · intro w'
    go_simp
    with_reducible rfl
  rotate_left
  · simp only [Act.put, List.setIfInBounds_toArray, List.set_cons_zero, List.set_cons_succ, i64_w, i32_w]
    rfl
  refine pure_ (i := 1) (N := some 9) (v := ?_) (a' := ?_) #[true, true, false, false, false, false, false, false, false, false, false, false, false, false, false, false, false, false, false, false, false] rfl rfl (by kernel_rfl) (fun _ _ _ h => h) (Or.inl ⟨by rfl, ?_⟩) ?_ ?_
  rotate_left
  · intro w'
    go_simp
    with_reducible rfl
  rotate_left
  · simp only [Act.put, List.setIfInBounds_toArray, List.set_cons_zero, List.set_cons_succ, i64_w, i32_w]
    rfl
  refine pure_ (i := 2) (N := some 10) (v := ?_) (a' := ?_) #[true, true, true, false, false, false, false, false, false, false, false, false, false, false, false, false, false, false, false, false, false] rfl rfl (by kernel_rfl) (fun _ _ _ h => h) (Or.inl ⟨by rfl, ?_⟩) ?_ ?_
  rotate_left
  · intro w'
    go_simp
    with_reducible rfl
  rotate_left
  · simp only [Act.put, List.setIfInBounds_toArray, List.set_cons_zero, List.set_cons_succ, i64_w, i32_w]
    rfl
  refine pure_ (i := 4) (N := some 12) (v := ?_) (a' := ?_) #[true, true, true, false, true, false, false, false, false, false, false, false, false, false, false, false, false, false, false, false, false] rfl rfl (by kernel_rfl) (fun _ _ _ h => h) (Or.inl ⟨by rfl, ?_⟩) ?_ ?_
  rotate_left
  · intro w'
    go_simp
    with_reducible rfl
  rotate_left
  · simp only [Act.put, List.setIfInBounds_toArray, List.set_cons_zero, List.set_cons_succ, i64_w, i32_w]
    rfl
  refine pure_ (i := 5) (N := some 13) (v := ?_) (a' := ?_) #[true, true, true, false, true, true, false, false, false, false, false, false, false, false, false, false, false, false, false, false, false] rfl rfl (by kernel_rfl) (fun _ _ _ h => h) (Or.inl ⟨by rfl, ?_⟩) ?_ ?_
  rotate_left
  · intro w'
    go_simp
    with_reducible rfl
  rotate_left
  · simp only [Act.put, List.setIfInBounds_toArray, List.set_cons_zero, List.set_cons_succ, i64_w, i32_w]
    rfl
  refine pure_ (i := 6) (N := some 14) (v := ?_) (a' := ?_) #[true, true, true, false, true, true, true, false, false, false, false, false, false, false, false, false, false, false, false, false, false] rfl rfl (by kernel_rfl) (fun _ _ _ h => h) (Or.inl ⟨by rfl, ?_⟩) ?_ ?_
  rotate_left
  · intro w'
    go_simp
    with_reducible rfl
  rotate_left
  · simp only [Act.put, List.setIfInBounds_toArray, List.set_cons_zero, List.set_cons_succ, i64_w, i32_w]
    rfl
  refine pure_ (i := 7) (N := some 15) (v := ?_) (a' := ?_) #[true, true, true, false, true, true, true, true, false, false, false, false, false, false, false, false, false, false, false, false, false] rfl rfl (by kernel_rfl) (fun _ _ _ h => h) (Or.inl ⟨by rfl, ?_⟩) ?_ ?_
  rotate_left
  · intro w'
    go_simp
    with_reducible rfl
  rotate_left
  · simp only [Act.put, List.setIfInBounds_toArray, List.set_cons_zero, List.set_cons_succ, i64_w, i32_w]
    rfl
  refine pure_ (i := 10) (N := some 18) (v := ?_) (a' := ?_) #[true, true, true, false, true, true, true, true, false, false, true, false, false, false, false, false, false, false, false, false, false] rfl rfl (by kernel_rfl) (fun _ _ _ h => h) (Or.inl ⟨by rfl, ?_⟩) ?_ ?_
  rotate_left
  · intro w'
    go_simp
    with_reducible rfl
  rotate_left
  · simp only [Act.put, List.setIfInBounds_toArray, List.set_cons_zero, List.set_cons_succ, i64_w, i32_w]
    rfl
  refine pure_ (i := 11) (N := some 19) (v := ?_) (a' := ?_) #[true, true, true, false, true, true, true, true, false, false, true, true, false, false, false, false, false, false, false, false, false] rfl rfl (by kernel_rfl) (fun _ _ _ h => h) (Or.inl ⟨by rfl, ?_⟩) ?_ ?_
  rotate_left
  · intro w'
    go_simp
    with_reducible rfl
  rotate_left
  · simp only [Act.put, List.setIfInBounds_toArray, List.set_cons_zero, List.set_cons_succ, i64_w, i32_w]
    rfl
  refine pure_ (i := 12) (N := some 20) (v := ?_) (a' := ?_) #[true, true, true, false, true, true, true, true, false, false, true, true, true, false, false, false, false, false, false, false, false] rfl rfl (by kernel_rfl) (fun _ _ _ h => h) (Or.inl ⟨by rfl, ?_⟩) ?_ ?_
  rotate_left
  · intro w'
    go_simp
    with_reducible rfl
  rotate_left
  · simp only [Act.put, List.setIfInBounds_toArray, List.set_cons_zero, List.set_cons_succ, i64_w, i32_w]
    rfl
  refine take_ (i := 3) (N := some 11) (v := ?_) (a' := ?_) #[true, true, true, true, true, true, true, true, false, false, true, true, true, false, false, false, false, false, false, false, false] rfl rfl (by kernel_rfl) (fun _ _ _ h => h) (Or.inl ⟨by rfl, ?_⟩) hHeld ?_ ?_
  rotate_left
  · rintro w' ⟨s0, s1⟩
    go_simp
    with_reducible rfl
  rotate_left
  · simp only [Act.put, List.setIfInBounds_toArray, List.set_cons_zero, List.set_cons_succ, i64_w, i32_w]
    rfl
  refine take_ (i := 8) (N := some 16) (v := ?_) (a' := ?_) #[true, true, true, true, true, true, true, true, true, false, true, true, true, false, false, false, false, false, false, false, false] rfl rfl (by kernel_rfl) (fun _ _ _ h => h) (Or.inl ⟨by rfl, ?_⟩) hHeld ?_ ?_
  rotate_left
  · rintro w' ⟨s0, s1⟩
    go_simp
    with_reducible rfl
  rotate_left
  · simp only [Act.put, List.setIfInBounds_toArray, List.set_cons_zero, List.set_cons_succ, i64_w, i32_w]
    rfl
  refine pure_ (i := 9) (N := some 17) (v := ?_) (a' := ?_) #[true, true, true, true, true, true, true, true, true, true, true, true, true, false, false, false, false, false, false, false, false] rfl rfl (by kernel_rfl) (fun _ _ _ h => h) (Or.inl ⟨by rfl, ?_⟩) ?_ ?_
  rotate_left
  · intro w'
    go_simp
    with_reducible rfl
  rotate_left
  · simp only [Act.put, List.setIfInBounds_toArray, List.set_cons_zero, List.set_cons_succ, i64_w, i32_w]
    rfl
  refine take_ (i := 13) (N := some 21) (v := ?_) (a' := ?_) #[true, true, true, true, true, true, true, true, true, true, true, true, true, true, false, false, false, false, false, false, false] rfl rfl (by kernel_rfl) (fun _ _ _ h => h) (Or.inl ⟨by rfl, ?_⟩) hHeld ?_ ?_
  rotate_left
  · rintro w' ⟨s0, s1⟩
    go_simp
    with_reducible rfl
  rotate_left
  · simp only [Act.put, List.setIfInBounds_toArray, List.set_cons_zero, List.set_cons_succ, i64_w, i32_w]
    rfl
  refine pure_ (i := 14) (N := some 22) (v := ?_) (a' := ?_) #[true, true, true, true, true, true, true, true, true, true, true, true, true, true, true, false, false, false, false, false, false] rfl rfl (by kernel_rfl) (fun _ _ _ h => h) (Or.inl ⟨by rfl, ?_⟩) ?_ ?_
  rotate_left
  · intro w'
    go_simp
    with_reducible rfl
  rotate_left
  · simp only [Act.put, List.setIfInBounds_toArray, List.set_cons_zero, List.set_cons_succ, i64_w, i32_w]
    rfl
  refine pure_ (i := 15) (N := some 23) (v := ?_) (a' := ?_) #[true, true, true, true, true, true, true, true, true, true, true, true, true, true, true, true, false, false, false, false, false] rfl rfl (by kernel_rfl) (fun _ _ _ h => h) (Or.inl ⟨by rfl, ?_⟩) ?_ ?_
  rotate_left
  · intro w'
    go_simp
    with_reducible rfl
  rotate_left
  · simp only [Act.put, List.setIfInBounds_toArray, List.set_cons_zero, List.set_cons_succ, i64_w, i32_w]
    rfl
  refine pure_ (i := 16) (N := some 24) (v := ?_) (a' := ?_) #[true, true, true, true, true, true, true, true, true, true, true, true, true, true, true, true, true, false, false, false, false] rfl rfl (by kernel_rfl) (fun _ _ _ h => h) (Or.inl ⟨by rfl, ?_⟩) ?_ ?_
  rotate_left
  · intro w'
    go_simp
    with_reducible rfl
  rotate_left
  · simp only [Act.put, List.setIfInBounds_toArray, List.set_cons_zero, List.set_cons_succ, i64_w, i32_w]
    rfl
  refine pure_ (i := 17) (N := some 25) (v := ?_) (a' := ?_) #[true, true, true, true, true, true, true, true, true, true, true, true, true, true, true, true, true, true, false, false, false] rfl rfl (by kernel_rfl) (fun _ _ _ h => h) (Or.inl ⟨by rfl, ?_⟩) ?_ ?_
  rotate_left
  · intro w'
    go_simp
    with_reducible rfl
  rotate_left
  · simp only [Act.put, List.setIfInBounds_toArray, List.set_cons_zero, List.set_cons_succ, i64_w, i32_w]
    rfl
  refine pure_ (i := 18) (N := some 26) (v := ?_) (a' := ?_) #[true, true, true, true, true, true, true, true, true, true, true, true, true, true, true, true, true, true, true, false, false] rfl rfl (by kernel_rfl) (fun _ _ _ h => h) (Or.inl ⟨by rfl, ?_⟩) ?_ ?_
  rotate_left
  · intro w'
    go_simp
    with_reducible rfl
  rotate_left
  · simp only [Act.put, List.setIfInBounds_toArray, List.set_cons_zero, List.set_cons_succ, i64_w, i32_w]
    rfl
  refine pure_ (i := 19) (N := some 27) (v := ?_) (a' := ?_) #[true, true, true, true, true, true, true, true, true, true, true, true, true, true, true, true, true, true, true, true, false] rfl rfl (by kernel_rfl) (fun _ _ _ h => h) (Or.inl ⟨by rfl, ?_⟩) ?_ ?_
  rotate_left
  · intro w'
    go_simp
    with_reducible rfl
  rotate_left
  · simp only [Act.put, List.setIfInBounds_toArray, List.set_cons_zero, List.set_cons_succ, i64_w, i32_w]
    rfl
  refine last_ (i := 20) (N := none) #[true, true, true, true, true, true, true, true, true, true, true, true, true, true, true, true, true, true, true, true, true] rfl rfl (by kernel_rfl) (by decide) (fun K hK => ?_)
  refine skip_ (w1 := ?_) (by rfl) rfl ?_ ?_
  rotate_left
  · go_simp
    rfl
  refine hK.out _ _ ?_
  clear hK K
  refine done_ (by kernel_rfl) ?_
  rw [EK.out]
  generalize (if 0 < (if (l.length : Int) - s < keep then (l.length : Int) - s else keep) then (if (l.length : Int) - s < keep then (l.length : Int) - s else keep) else (0 : Int)) = y1
  generalize (if (l.length : Int) - s < keep then (l.length : Int) - s else keep) = y2
  have T1 := Aside0.mk ((H.out.set1 k).drew)
  have F1 := Aside0.mk (((Fr.refl (At g) w).setAt 1 (.int .i64 k)).drew)
  generalize World.drew (World.setCell _ _ _) = w1 at T1 F1 ⊢
  clear q0 q1 q2 q3 q4 f1 f2 f3 f4 H
  obtain ⟨q0, q1, q2, q3, q4⟩ := T1.out.cells
  obtain ⟨f1, f2, f3, f4⟩ := T1.out.free
  go_wp2
  refine start_ (n := 13) (S := fun w' => w'.cell? ⟨g, 1, none⟩ = some (.int .i64 k) ∧ w'.cell? ⟨g, 2, none⟩ = some (.slice A l.length c)) (ds := [12]) #[false, false, false, false, false, false, false, false, false, false, false, false, false] (by kernel_rfl) rfl rfl ⟨q1, q2⟩ (fun hHeld => ?_)
  refine pure_ (i := 0) (N := some 28) (v := ?_) (a' := ?_) #[true, false, false, false, false, false, false, false, false, false, false, false, false] rfl rfl (by kernel_rfl) (fun _ _ _ h => h) (Or.inl ⟨by rfl, ?_⟩) ?_ ?_
  rotate_left
  · intro w'
    go_simp
    with_reducible rfl
  rotate_left
  · simp only [Act.put, List.setIfInBounds_toArray, List.set_cons_zero, List.set_cons_succ, i64_w, i32_w]
    rfl
  refine pure_ (i := 1) (N := some 29) (v := ?_) (a' := ?_) #[true, true, false, false, false, false, false, false, false, false, false, false, false] rfl rfl (by kernel_rfl) (fun _ _ _ h => h) (Or.inl ⟨by rfl, ?_⟩) ?_ ?_
  rotate_left
  · intro w'
    go_simp
    with_reducible rfl
  rotate_left
  · simp only [Act.put, List.setIfInBounds_toArray, List.set_cons_zero, List.set_cons_succ, i64_w, i32_w]
    rfl
  refine pure_ (i := 2) (N := some 30) (v := ?_) (a' := ?_) #[true, true, true, false, false, false, false, false, false, false, false, false, false] rfl rfl (by kernel_rfl) (fun _ _ _ h => h) (Or.inl ⟨by rfl, ?_⟩) ?_ ?_
  rotate_left
  · intro w'
    go_simp
    with_reducible rfl
  rotate_left
  · simp only [Act.put, List.setIfInBounds_toArray, List.set_cons_zero, List.set_cons_succ, i64_w, i32_w]
    rfl
  refine pure_ (i := 3) (N := some 31) (v := ?_) (a' := ?_) #[true, true, true, true, false, false, false, false, false, false, false, false, false] rfl rfl (by kernel_rfl) (fun _ _ _ h => h) (Or.inl ⟨by rfl, ?_⟩) ?_ ?_
  rotate_left
  · intro w'
    go_simp
    with_reducible rfl
  rotate_left
  · simp only [Act.put, List.setIfInBounds_toArray, List.set_cons_zero, List.set_cons_succ, i64_w, i32_w]
    rfl
  refine pure_ (i := 5) (N := some 33) (v := ?_) (a' := ?_) #[true, true, true, true, false, true, false, false, false, false, false, false, false] rfl rfl (by kernel_rfl) (fun _ _ _ h => h) (Or.inl ⟨by rfl, ?_⟩) ?_ ?_
  rotate_left
  · intro w'
    go_simp
    with_reducible rfl
  rotate_left
  · simp only [Act.put, List.setIfInBounds_toArray, List.set_cons_zero, List.set_cons_succ, i64_w, i32_w]
    rfl
  refine pure_ (i := 6) (N := some 34) (v := ?_) (a' := ?_) #[true, true, true, true, false, true, true, false, false, false, false, false, false] rfl rfl (by kernel_rfl) (fun _ _ _ h => h) (Or.inl ⟨by rfl, ?_⟩) ?_ ?_
  rotate_left
  · intro w'
    go_simp
    with_reducible rfl
  rotate_left
  · simp only [Act.put, List.setIfInBounds_toArray, List.set_cons_zero, List.set_cons_succ, i64_w, i32_w]
    rfl
  refine pure_ (i := 7) (N := some 35) (v := ?_) (a' := ?_) #[true, true, true, true, false, true, true, true, false, false, false, false, false] rfl rfl (by kernel_rfl) (fun _ _ _ h => h) (Or.inl ⟨by rfl, ?_⟩) ?_ ?_
  rotate_left
  · intro w'
    go_simp
    with_reducible rfl
  rotate_left
  · simp only [Act.put, List.setIfInBounds_toArray, List.set_cons_zero, List.set_cons_succ, i64_w, i32_w]
    rfl
  refine take_ (i := 4) (N := some 32) (v := ?_) (a' := ?_) #[true, true, true, true, true, true, true, true, false, false, false, false, false] rfl rfl (by kernel_rfl) (fun _ _ _ h => h) (Or.inl ⟨by rfl, ?_⟩) hHeld ?_ ?_
  rotate_left
  · rintro w' ⟨s0, s1⟩
    go_simp
    with_reducible rfl
  rotate_left
  · simp only [Act.put, List.setIfInBounds_toArray, List.set_cons_zero, List.set_cons_succ, i64_w, i32_w]
    rfl
  refine take_ (i := 8) (N := some 36) (v := ?_) (a' := ?_) #[true, true, true, true, true, true, true, true, true, false, false, false, false] rfl rfl (by kernel_rfl) (fun _ _ _ h => h) (Or.inl ⟨by rfl, ?_⟩) hHeld ?_ ?_
  rotate_left
  · rintro w' ⟨s0, s1⟩
    go_simp
    with_reducible rfl
  rotate_left
  · simp only [Act.put, List.setIfInBounds_toArray, List.set_cons_zero, List.set_cons_succ, i64_w, i32_w]
    rfl
  refine pure_ (i := 9) (N := some 37) (v := ?_) (a' := ?_) #[true, true, true, true, true, true, true, true, true, true, false, false, false] rfl rfl (by kernel_rfl) (fun _ _ _ h => h) (Or.inl ⟨by rfl, ?_⟩) ?_ ?_
  rotate_left
  · intro w'
    go_simp
    with_reducible rfl
  rotate_left
  · simp only [Act.put, List.setIfInBounds_toArray, List.set_cons_zero, List.set_cons_succ, i64_w, i32_w]
    rfl
  refine pure_ (i := 10) (N := some 38) (v := ?_) (a' := ?_) #[true, true, true, true, true, true, true, true, true, true, true, false, false] rfl rfl (by kernel_rfl) (fun _ _ _ h => h) (Or.inl ⟨by rfl, ?_⟩) ?_ ?_
  rotate_left
  · intro w'
    go_simp
    with_reducible rfl
  rotate_left
  · simp only [Act.put, List.setIfInBounds_toArray, List.set_cons_zero, List.set_cons_succ, i64_w, i32_w]
    rfl
  refine pure_ (i := 11) (N := some 39) (v := ?_) (a' := ?_) #[true, true, true, true, true, true, true, true, true, true, true, true, false] rfl rfl (by kernel_rfl) (fun _ _ _ h => h) (Or.inl ⟨by rfl, ?_⟩) ?_ ?_
  rotate_left
  · intro w'
    go_simp
    with_reducible rfl
  rotate_left
  · simp only [Act.put, List.setIfInBounds_toArray, List.set_cons_zero, List.set_cons_succ, i64_w, i32_w]
    rfl
  refine last_ (i := 12) (N := none) #[true, true, true, true, true, true, true, true, true, true, true, true, true] rfl rfl (by kernel_rfl) (by decide) (fun K hK => ?_)
  refine skip_ (w1 := ?_) (by rfl) rfl ?_ ?_
  rotate_left
  · go_simp
    rfl
  refine hK.out _ _ ?_
  clear hK K
  refine done_ (by kernel_rfl) ?_
  have T2 := Aside0.mk ((T1.out.set2 (.slice A k c)).drew)
  have F2 := Aside0.mk ((F1.out.setAt 2 (.slice A k c)).drew)
  have R2 := Aside0.mk (F2.out.Rtyp HR.out H9.out (by decide))
  generalize World.drew (World.setCell _ _ _) = w2 at T2 F2 R2 ⊢
  clear q0 q1 q2 q3 q4 f1 f2 f3 f4 T1
  obtain ⟨q0, q1, q2, q3, q4⟩ := T2.out.cells
  obtain ⟨f1, f2, f3, f4⟩ := T2.out.free
  go_wp2
  go_end0
  have F3 := ((Fr.refl (At g) w2).setAt 3 (.bool true)).setAt 4 (.int .i64 (-1))
  exact ⟨rfl, (T2.out.set3 true).set4 (-1), F3.Rtyp R2.out T2.out (by decide), F2.out.trans F3 (fun _ h => .inl h)⟩

end Go.Proofs.Ythlcognpfangkaa
