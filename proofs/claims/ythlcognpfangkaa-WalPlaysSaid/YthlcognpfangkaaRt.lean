/- The walks of the document's tape (no condition but its block). -/
import Derived.Test.YthlcognpfangkaaTa
namespace Go.Proofs.Ythlcognpfangkaa
open Go.RowKit Go.Proofs.YthlcognpfangkaaW.PrintWords Go.Proofs.YthlcognpfangkaaW.PrintLast Go.Proofs.YthlcognpfangkaaW.PrintMore
set_option linter.unusedVariables false
set_option linter.unusedSimpArgs false
attribute [local go_sem] max2_int min2_int max_two min_two

/-- The block of the document's tape. -/
def Rf (w : World) (g : Nat) (room synced left : Int) (b : ByteArray) (down : Bool) : Prop := w.heap[g]? = some (.cells #[.int .i64 room, .int .i64 synced, .int .i64 left, .string b, .bool down] 92 (0, 0))
section
variable {w : World} {g : Nat} {room synced left : Int} {b : ByteArray} {down : Bool}
theorem Rf.cells (h : Rf w g room synced left b down) : w.cell? ⟨g, 0, none⟩ = some (.int .i64 room) ∧ w.cell? ⟨g, 1, none⟩ = some (.int .i64 synced) ∧ w.cell? ⟨g, 2, none⟩ = some (.int .i64 left) ∧ w.cell? ⟨g, 3, none⟩ = some (.string b) ∧ w.cell? ⟨g, 4, none⟩ = some (.bool down) :=
  ⟨(blk_cell h 0).trans rfl, (blk_cell h 1).trans rfl, (blk_cell h 2).trans rfl, (blk_cell h 3).trans rfl, (blk_cell h 4).trans rfl⟩
theorem Rf.free (h : Rf w g room synced left b down) : w.frozen? ⟨g, 0, none⟩ = false ∧ w.frozen? ⟨g, 1, none⟩ = false ∧ w.frozen? ⟨g, 2, none⟩ = false ∧ w.frozen? ⟨g, 3, none⟩ = false ∧ w.frozen? ⟨g, 4, none⟩ = false := ⟨blk_frozen h 0, blk_frozen h 1, blk_frozen h 2, blk_frozen h 3, blk_frozen h 4⟩
theorem Rf.set0 (h : Rf w g room synced left b down) (x : Int) : Rf (w.setCell ⟨g, 0, none⟩ (.int .i64 x)) g x synced left b down := blk_set h 0 _
theorem Rf.set1 (h : Rf w g room synced left b down) (x : Int) : Rf (w.setCell ⟨g, 1, none⟩ (.int .i64 x)) g room x left b down := blk_set h 1 _
theorem Rf.set2 (h : Rf w g room synced left b down) (x : Int) : Rf (w.setCell ⟨g, 2, none⟩ (.int .i64 x)) g room synced x b down := blk_set h 2 _
theorem Rf.set3 (h : Rf w g room synced left b down) (x : ByteArray) : Rf (w.setCell ⟨g, 3, none⟩ (.string x)) g room synced left x down := blk_set h 3 _
theorem Rf.set4 (h : Rf w g room synced left b down) (x : Bool) : Rf (w.setCell ⟨g, 4, none⟩ (.bool x)) g room synced left b x := blk_set h 4 _
theorem Rf.drewN (h : Rf w g room synced left b down) (n : Nat) : Rf (w.drewN n) g room synced left b down := h
theorem Rf.drew (h : Rf w g room synced left b down) : Rf w.drew g room synced left b down := h
end

theorem rcall (w : World) (g : Nat) (room synced left : Int) (b : ByteArray) (down : Bool) (h : Rf w g room synced left b down) (hl : left ≤ 9223372036854775807) :
    Calls Try.prog 93 #[.pointer (some ⟨g, 0, none⟩)] w fun e w' => e = .returned (.int .i64 (callC down left)) ∧ Rf w' g room synced (callL down left) b down ∧ Fr (At g) w w' := by
  obtain ⟨q0, q1, q2, q3, q4⟩ := h.cells
  obtain ⟨f0, f1, f2, f3, f4⟩ := h.free
  have H := Aside0.mk h
  clear h q0 q1 q3 f0 f1 f3 f4
  cases down with
  | true =>
    have e1 : callC true left = 9 := rfl
    have e2 : callL true left = left := rfl
    rw [e1, e2]
    clear e1 e2
    go_enter Try.func93, Try.ntmps93
    go_wp2
    go_ret
    exact ⟨rfl, H.out, Fr.refl _ _⟩
  | false =>
    by_cases h0 : left = 0
    · subst h0
      have e1 : callC false 0 = 8 := rfl
      have e2 : callL false 0 = -1 := rfl
      rw [e1, e2]
      clear e1 e2
      go_enter Try.func93, Try.ntmps93
      go_wp2
      go_ret
      exact ⟨rfl, H.out.set2 _, (Fr.refl _ _).setAt _ _⟩
    · have e1 : callC false left = 0 := by simp [callC, h0]
      have h0b : (left == 0) = false := beq_eq_false_iff_ne.mpr h0
      by_cases h1 : 0 < left
      · have e2 : callL false left = left - 1 := by simp [callL, h0, h1]
        have h1b : decide (0 < left) = true := decide_eq_true h1
        rw [e1, e2]
        clear e1 e2 h0
        go_enter Try.func93, Try.ntmps93
        go_wp2
        go_ret
        exact ⟨rfl, H.out.set2 _, (Fr.refl _ _).setAt _ _⟩
      · have e2 : callL false left = left := by simp [callL, h0, h1]
        have h1b : decide (0 < left) = false := decide_eq_false h1
        rw [e1, e2]
        clear e1 e2 h0
        go_enter Try.func93, Try.ntmps93
        go_wp2
        go_ret
        exact ⟨rfl, H.out, Fr.refl _ _⟩

theorem rsync (w : World) (g : Nat) (room synced left : Int) (b : ByteArray) (down : Bool) (h : Rf w g room synced left b down) (hl : left ≤ 9223372036854775807) :
    Calls Try.prog 62 #[.pointer (some ⟨g, 0, none⟩)] w fun e w' => e = .returned (.int .i64 (callC down left)) ∧ Rf w' g room (if callC down left = 0 then (b.size : Int) else synced) (callL down left) b down ∧ Fr (At g) w w' := by
  have H := Aside0.mk h
  clear h
  by_cases hc : callC down left = 0
  · rw [if_pos hc, hc]
    have HC := Aside0.mk hc
    clear hc
    go_enter Try.func62, Try.ntmps62
    go_wp2_with (go_at_call 93; refine (rcall _ g room synced left b down H.out hl).mono ?_; rw [HC.out]; rintro e w1 ⟨rfl, ht, hf⟩; obtain ⟨q0, q1, q2, q3, q4⟩ := ht.cells; obtain ⟨f0, f1, f2, f3, f4⟩ := ht.free; have T1 := Aside0.mk ht; have F1 := Aside0.mk hf; clear ht hf)
    go_ret
    exact ⟨rfl, T1.out.set1 _, F1.out.setAt _ _⟩
  · rw [if_neg hc]
    have hcb : (((callC down left : Nat) : Int) == 0) = false := beq_eq_false_iff_ne.mpr (by omega)
    generalize hcc : ((callC down left : Nat) : Int) = cc at hcb
    have HCC := Aside0.mk hcc
    clear hc hcc
    go_enter Try.func62, Try.ntmps62
    go_wp2_with (go_at_call 93; refine (rcall _ g room synced left b down H.out hl).mono ?_; rw [HCC.out]; rintro e w1 ⟨rfl, ht, hf⟩; have T1 := Aside0.mk ht; have F1 := Aside0.mk hf; clear ht hf)
    go_ret
    exact ⟨rfl, T1.out, F1.out⟩

theorem rappend_err (w : World) (g : Nat) (room synced left : Int) (b : ByteArray) (down : Bool) (s : ByteArray) (h : Rf w g room synced left b down) (hl : left ≤ 9223372036854775807) (hc : callC down left ≠ 0) :
    Calls Try.prog 61 #[.pointer (some ⟨g, 0, none⟩), .string s] w fun e w' => e = .returned (.int .i64 (callC down left)) ∧ Rf w' g room synced (callL down left) b down ∧ Fr (At g) w w' := by
  have H := Aside0.mk h
  have hcb : (((callC down left : Nat) : Int) == 0) = false := beq_eq_false_iff_ne.mpr (by omega)
  generalize hcc : ((callC down left : Nat) : Int) = cc at hcb
  have HCC := Aside0.mk hcc
  clear hc h hcc
  go_enter Try.func61, Try.ntmps61
  go_wp2_with (go_at_call 93; refine (rcall _ g room synced left b down H.out hl).mono ?_; rw [HCC.out]; rintro e w1 ⟨rfl, ht, hf⟩; obtain ⟨q0, q1, q2, q3, q4⟩ := ht.cells; have T1 := Aside0.mk ht; have F1 := Aside0.mk hf; clear ht hf)
  go_quiet (fail)
  clear q0 q1 q2 q3 q4
  go_wp2
  go_ret
  exact ⟨rfl, T1.out.drewN _, F1.out.drewN _⟩

theorem rappend_full (w : World) (g : Nat) (room synced left : Int) (b : ByteArray) (down : Bool) (s : ByteArray) (h : Rf w g room synced left b down) (hl : left ≤ 9223372036854775807) (hc : callC down left = 0) (hb : b.size ≤ 140737488355328) (hs : s.size ≤ 140737488355328) (hr : room < (b.size : Int) + s.size) :
    Calls Try.prog 61 #[.pointer (some ⟨g, 0, none⟩), .string s] w fun e w' => e = .returned (.int .i64 6) ∧ Rf w' g room synced (callL down left) b down ∧ Fr (At g) w w' := by
  have H := Aside0.mk h
  have HC := Aside0.mk hc
  have h1 : decide (room < (b.size : Int) + s.size) = true := decide_eq_true hr
  clear hc h
  go_enter Try.func61, Try.ntmps61
  go_wp2_with (go_at_call 93; refine (rcall _ g room synced left b down H.out hl).mono ?_; rw [HC.out]; rintro e w1 ⟨rfl, ht, hf⟩; obtain ⟨q0, q1, q2, q3, q4⟩ := ht.cells; have T1 := Aside0.mk ht; have F1 := Aside0.mk hf; clear ht hf)
  go_quiet (fail)
  clear q0 q1 q2 q3 q4
  go_wp2
  go_ret
  exact ⟨rfl, T1.out.drewN _, F1.out.drewN _⟩

theorem rappend (w : World) (g : Nat) (room synced left : Int) (b : ByteArray) (down : Bool) (s : ByteArray) (h : Rf w g room synced left b down) (hl : left ≤ 9223372036854775807) (hc : callC down left = 0) (hb : b.size ≤ 140737488355328) (hs : s.size ≤ 140737488355328) (hr : (b.size : Int) + s.size ≤ room) :
    Calls Try.prog 61 #[.pointer (some ⟨g, 0, none⟩), .string s] w fun e w' => e = .returned (.int .i64 0) ∧ Rf w' g room synced (callL down left) (b ++ s) down ∧ Fr (At g) w w' := by
  have H := Aside0.mk h
  have HC := Aside0.mk hc
  have h1 : decide (room < (b.size : Int) + s.size) = false := decide_eq_false (by omega)
  have hsz : (9223372036854775807 < b.size + s.size) = False := eq_false (by omega)
  clear hc h
  go_enter Try.func61, Try.ntmps61
  go_wp2_with (go_at_call 93; refine (rcall _ g room synced left b down H.out hl).mono ?_; rw [HC.out]; rintro e w1 ⟨rfl, ht, hf⟩; obtain ⟨q0, q1, q2, q3, q4⟩ := ht.cells; obtain ⟨f0, f1, f2, f3, f4⟩ := ht.free; have T1 := Aside0.mk ht; have F1 := Aside0.mk hf; clear ht hf)
  go_quiet (fail)
  go_wp2
  go_ret
  exact ⟨rfl, (T1.out.drewN _).set3 _, (F1.out.drewN _).setAt _ _⟩

theorem rcut_down (w : World) (g : Nat) (room synced left n : Int) (b : ByteArray) (h : Rf w g room synced left b true) :
    Calls Try.prog 64 #[.pointer (some ⟨g, 0, none⟩), .int .i64 n] w fun e w' => e = .returned (.int .i64 9) ∧ w = w' := by
  obtain ⟨q0, q1, q2, q3, q4⟩ := h.cells
  obtain ⟨f0, f1, f2, f3, f4⟩ := h.free
  have H := Aside0.mk h
  clear h q0 q1 q2 q3 f0 f1 f2 f3 f4
  go_enter Try.func64, Try.ntmps64
  go_wp2
  go_ret
  exact ⟨rfl, rfl⟩
theorem rcut_no (w : World) (g : Nat) (room synced left n : Int) (b : ByteArray) (h : Rf w g room synced left b false) (hn : n < 0 ∨ (b.size : Int) < n) :
    Calls Try.prog 64 #[.pointer (some ⟨g, 0, none⟩), .int .i64 n] w fun e w' => e = .returned (.int .i64 1) ∧ w = w' := by
  obtain ⟨q0, q1, q2, q3, q4⟩ := h.cells
  obtain ⟨f0, f1, f2, f3, f4⟩ := h.free
  have H := Aside0.mk h
  clear h q0 q1 q2 f0 f1 f2 f3 f4
  by_cases h1 : n < 0
  · have hb : decide (n < 0) = true := decide_eq_true h1
    clear hn
    go_enter Try.func64, Try.ntmps64
    go_wp2
    go_ret
    exact ⟨rfl, rfl⟩
  · have hb : decide (n < 0) = false := decide_eq_false h1
    have hb2 : decide ((b.size : Int) < n) = true := decide_eq_true (by omega)
    clear hn
    go_enter Try.func64, Try.ntmps64
    go_wp2
    go_ret
    exact ⟨rfl, rfl⟩
theorem rcut (w : World) (g : Nat) (room synced left : Int) (n : Nat) (b : ByteArray) (h : Rf w g room synced left b false) (hn : n ≤ b.size) :
    Calls Try.prog 64 #[.pointer (some ⟨g, 0, none⟩), .int .i64 n] w fun e w' => e = .returned (.int .i64 0) ∧ Rf w' g room n left (b.extract 0 n) false ∧ Fr (At g) w w' := by
  obtain ⟨q0, q1, q2, q3, q4⟩ := h.cells
  obtain ⟨f0, f1, f2, f3, f4⟩ := h.free
  have H := Aside0.mk h
  clear h q0 q2 f0 f2
  have hb : decide ((n : Int) < 0) = false := decide_eq_false (by omega)
  have hb2 : decide ((b.size : Int) < n) = false := decide_eq_false (by omega)
  go_enter Try.func64, Try.ntmps64
  go_wp2
  go_ret
  exact ⟨rfl, (H.out.set3 _).set1 _, ((Fr.refl (At g) w).setAt _ _).setAt _ _⟩

theorem rcrash_down (w : World) (g : Nat) (room synced left n : Int) (b : ByteArray) (h : Rf w g room synced left b true) :
    Calls Try.prog 66 #[.pointer (some ⟨g, 0, none⟩), .int .i64 n] w fun e w' => e = .returned (.tuple #[]) ∧ w = w' := by
  obtain ⟨q0, q1, q2, q3, q4⟩ := h.cells
  obtain ⟨f0, f1, f2, f3, f4⟩ := h.free
  have H := Aside0.mk h
  clear h q0 q1 q2 q3 f0 f1 f2 f3 f4
  go_enter Try.func66, Try.ntmps66
  go_wp2
  try simp only [Exit.inBlock, Exit.then]
  refine bodyPost_ret (results_none rfl _ _ _) rfl ?_
  exact ⟨rfl, rfl⟩

set_option maxHeartbeats 8000000 in
set_option maxRecDepth 100000 in
theorem rcrash_a (w : World) (g : Nat) (room left keep : Int) (s k : Nat) (b : ByteArray) (h : Rf w g room s left b false) (hs : s ≤ b.size) (hb : b.size ≤ 140737488355000) (hk : k ≤ b.size) (h1 : keep < 0) (hk3 : (s : Int) = k) :
    Calls Try.prog 66 #[.pointer (some ⟨g, 0, none⟩), .int .i64 keep] w fun e w' => e = .returned (.tuple #[]) ∧ Rf w' g room k (-1) (b.extract 0 k) true ∧ Fr (At g) w w' := by
  obtain ⟨q0, q1, q2, q3, q4⟩ := h.cells
  obtain ⟨f0, f1, f2, f3, f4⟩ := h.free
  have H := Aside0.mk h
  clear h q0 q2 f0 f2
  have hw0 : IntKind.i64.wrap ((b.size : Int) - s) = b.size - s := IntWalk.i64_in _ (by omega)
  have hb1 : decide (keep < (b.size : Int) - s) = true := decide_eq_true (by omega)
  have hb2 : decide (keep < 0) = true := decide_eq_true h1
  obtain rfl : s = k := by omega
  go_enter Try.func66, Try.ntmps66
  go_wp2
  go_quiet (fail)
  go_wp2
  have T1 := Aside0.mk ((H.out.drewN nq).set1 s)
  have F1 := Aside0.mk (((Fr.refl (At g) w).drewN nq).setAt 1 (.int .i64 s))
  generalize World.setCell _ _ _ = w1 at T1 F1 ⊢
  clear q1 q3 q4 f1 f3 f4 H
  obtain ⟨q0, q1, q2, q3, q4⟩ := T1.out.cells
  obtain ⟨f0, f1, f2, f3, f4⟩ := T1.out.free
  refine start_ (n := 13) (S := fun w' => w'.cell? ⟨g, 1, none⟩ = some (.int .i64 s) ∧ w'.cell? ⟨g, 3, none⟩ = some (.string b)) (ds := [12]) #[false, false, false, false, false, false, false, false, false, false, false, false, false] (by kernel_rfl) rfl rfl ⟨q1, q3⟩ (fun hHeld => ?_)
  refine pure_ (i := 0) (N := some 34) (v := ?_) (a' := ?_) #[true, false, false, false, false, false, false, false, false, false, false, false, false] rfl rfl (by kernel_rfl) (fun _ _ _ h => h) (Or.inl ⟨by rfl, ?_⟩) ?_ ?_
  rotate_left
  · intro w'
    go_simp
    with_reducible rfl
  rotate_left
  · simp only [Act.put, List.setIfInBounds_toArray, List.set_cons_zero, List.set_cons_succ, i64_w, i32_w]
    rfl
  refine pure_ (i := 1) (N := some 35) (v := ?_) (a' := ?_) #[true, true, false, false, false, false, false, false, false, false, false, false, false] rfl rfl (by kernel_rfl) (fun _ _ _ h => h) (Or.inl ⟨by rfl, ?_⟩) ?_ ?_
  rotate_left
  · intro w'
    go_simp
    with_reducible rfl
  rotate_left
  · simp only [Act.put, List.setIfInBounds_toArray, List.set_cons_zero, List.set_cons_succ, i64_w, i32_w]
    rfl
  refine pure_ (i := 2) (N := some 36) (v := ?_) (a' := ?_) #[true, true, true, false, false, false, false, false, false, false, false, false, false] rfl rfl (by kernel_rfl) (fun _ _ _ h => h) (Or.inl ⟨by rfl, ?_⟩) ?_ ?_
  rotate_left
  · intro w'
    go_simp
    with_reducible rfl
  rotate_left
  · simp only [Act.put, List.setIfInBounds_toArray, List.set_cons_zero, List.set_cons_succ, i64_w, i32_w]
    rfl
  refine pure_ (i := 3) (N := some 37) (v := ?_) (a' := ?_) #[true, true, true, true, false, false, false, false, false, false, false, false, false] rfl rfl (by kernel_rfl) (fun _ _ _ h => h) (Or.inl ⟨by rfl, ?_⟩) ?_ ?_
  rotate_left
  · intro w'
    go_simp
    with_reducible rfl
  rotate_left
  · simp only [Act.put, List.setIfInBounds_toArray, List.set_cons_zero, List.set_cons_succ, i64_w, i32_w]
    rfl
  refine pure_ (i := 5) (N := some 39) (v := ?_) (a' := ?_) #[true, true, true, true, false, true, false, false, false, false, false, false, false] rfl rfl (by kernel_rfl) (fun _ _ _ h => h) (Or.inl ⟨by rfl, ?_⟩) ?_ ?_
  rotate_left
  · intro w'
    go_simp
    with_reducible rfl
  rotate_left
  · simp only [Act.put, List.setIfInBounds_toArray, List.set_cons_zero, List.set_cons_succ, i64_w, i32_w]
    rfl
  refine pure_ (i := 6) (N := some 40) (v := ?_) (a' := ?_) #[true, true, true, true, false, true, true, false, false, false, false, false, false] rfl rfl (by kernel_rfl) (fun _ _ _ h => h) (Or.inl ⟨by rfl, ?_⟩) ?_ ?_
  rotate_left
  · intro w'
    go_simp
    with_reducible rfl
  rotate_left
  · simp only [Act.put, List.setIfInBounds_toArray, List.set_cons_zero, List.set_cons_succ, i64_w, i32_w]
    rfl
  refine pure_ (i := 7) (N := some 41) (v := ?_) (a' := ?_) #[true, true, true, true, false, true, true, true, false, false, false, false, false] rfl rfl (by kernel_rfl) (fun _ _ _ h => h) (Or.inl ⟨by rfl, ?_⟩) ?_ ?_
  rotate_left
  · intro w'
    go_simp
    with_reducible rfl
  rotate_left
  · simp only [Act.put, List.setIfInBounds_toArray, List.set_cons_zero, List.set_cons_succ, i64_w, i32_w]
    rfl
  refine take_ (i := 4) (N := some 38) (v := ?_) (a' := ?_) #[true, true, true, true, true, true, true, true, false, false, false, false, false] rfl rfl (by kernel_rfl) (fun _ _ _ h => h) (Or.inl ⟨by rfl, ?_⟩) hHeld ?_ ?_
  rotate_left
  · rintro w' ⟨s0, s1⟩
    go_simp
    with_reducible rfl
  rotate_left
  · simp only [Act.put, List.setIfInBounds_toArray, List.set_cons_zero, List.set_cons_succ, i64_w, i32_w]
    rfl
  refine take_ (i := 8) (N := some 42) (v := ?_) (a' := ?_) #[true, true, true, true, true, true, true, true, true, false, false, false, false] rfl rfl (by kernel_rfl) (fun _ _ _ h => h) (Or.inl ⟨by rfl, ?_⟩) hHeld ?_ ?_
  rotate_left
  · rintro w' ⟨s0, s1⟩
    go_simp
    with_reducible rfl
  rotate_left
  · simp only [Act.put, List.setIfInBounds_toArray, List.set_cons_zero, List.set_cons_succ, i64_w, i32_w]
    rfl
  refine pure_ (i := 9) (N := some 43) (v := ?_) (a' := ?_) #[true, true, true, true, true, true, true, true, true, true, false, false, false] rfl rfl (by kernel_rfl) (fun _ _ _ h => h) (Or.inl ⟨by rfl, ?_⟩) ?_ ?_
  rotate_left
  · intro w'
    go_simp
    with_reducible rfl
  rotate_left
  · simp only [Act.put, List.setIfInBounds_toArray, List.set_cons_zero, List.set_cons_succ, i64_w, i32_w]
    rfl
  refine pure_ (i := 10) (N := some 44) (v := ?_) (a' := ?_) #[true, true, true, true, true, true, true, true, true, true, true, false, false] rfl rfl (by kernel_rfl) (fun _ _ _ h => h) (Or.inl ⟨by rfl, ?_⟩) ?_ ?_
  rotate_left
  · intro w'
    go_simp
    with_reducible rfl
  rotate_left
  · simp only [Act.put, List.setIfInBounds_toArray, List.set_cons_zero, List.set_cons_succ, i64_w, i32_w]
    rfl
  refine pure_ (i := 11) (N := some 45) (v := ?_) (a' := ?_) #[true, true, true, true, true, true, true, true, true, true, true, true, false] rfl rfl (by kernel_rfl) (fun _ _ _ h => h) (Or.inl ⟨by rfl, ?_⟩) ?_ ?_
  rotate_left
  · intro w'
    go_simp
    with_reducible rfl
  rotate_left
  · simp only [Act.put, List.setIfInBounds_toArray, List.set_cons_zero, List.set_cons_succ, i64_w, i32_w]
    rfl
  refine last_ (i := 12) (N := none) #[true, true, true, true, true, true, true, true, true, true, true, true, true] rfl rfl (by kernel_rfl) (by decide) (fun K hK => ?_)
  refine skip_ (w1 := ?_) (by rfl) rfl ?_ ?_
  rotate_left
  · go_simp
    rfl
  refine hK.out _ _ ?_
  clear hK K
  refine done_ (by kernel_rfl) ?_
  have T2 := Aside0.mk ((T1.out.set3 (b.extract 0 s)).drew)
  have F2 := Aside0.mk ((F1.out.setAt 3 (.string (b.extract 0 s))).drew)
  generalize World.drew (World.setCell _ _ _) = w2 at T2 F2 ⊢
  clear q0 q1 q2 q3 q4 f0 f1 f2 f3 f4 T1
  obtain ⟨q0, q1, q2, q3, q4⟩ := T2.out.cells
  obtain ⟨f0, f1, f2, f3, f4⟩ := T2.out.free
  go_wp2
  go_end0
  exact ⟨rfl, (T2.out.set4 true).set2 (-1), (F2.out.setAt _ _).setAt _ _⟩

set_option maxHeartbeats 8000000 in
set_option maxRecDepth 100000 in
theorem rcrash_b (w : World) (g : Nat) (room left keep : Int) (s k : Nat) (b : ByteArray) (h : Rf w g room s left b false) (hs : s ≤ b.size) (hb : b.size ≤ 140737488355000) (hk : k ≤ b.size) (h0 : 0 ≤ keep) (h1 : keep < (b.size : Int) - s) (hk3 : (s : Int) + keep = k) :
    Calls Try.prog 66 #[.pointer (some ⟨g, 0, none⟩), .int .i64 keep] w fun e w' => e = .returned (.tuple #[]) ∧ Rf w' g room k (-1) (b.extract 0 k) true ∧ Fr (At g) w w' := by
  obtain ⟨q0, q1, q2, q3, q4⟩ := h.cells
  obtain ⟨f0, f1, f2, f3, f4⟩ := h.free
  have H := Aside0.mk h
  clear h q0 q2 f0 f2
  have hw0 : IntKind.i64.wrap ((b.size : Int) - s) = b.size - s := IntWalk.i64_in _ (by omega)
  have hb1 : decide (keep < (b.size : Int) - s) = true := decide_eq_true h1
  have hb2 : decide (keep < 0) = false := decide_eq_false (by omega)
  go_enter Try.func66, Try.ntmps66
  go_wp2
  go_quiet (fail)
  go_wp2
  have T1 := Aside0.mk ((H.out.drewN nq).set1 k)
  have F1 := Aside0.mk (((Fr.refl (At g) w).drewN nq).setAt 1 (.int .i64 k))
  generalize World.setCell _ _ _ = w1 at T1 F1 ⊢
  clear q1 q3 q4 f1 f3 f4 H
  obtain ⟨q0, q1, q2, q3, q4⟩ := T1.out.cells
  obtain ⟨f0, f1, f2, f3, f4⟩ := T1.out.free
  refine start_ (n := 13) (S := fun w' => w'.cell? ⟨g, 1, none⟩ = some (.int .i64 k) ∧ w'.cell? ⟨g, 3, none⟩ = some (.string b)) (ds := [12]) #[false, false, false, false, false, false, false, false, false, false, false, false, false] (by kernel_rfl) rfl rfl ⟨q1, q3⟩ (fun hHeld => ?_)
  refine pure_ (i := 0) (N := some 34) (v := ?_) (a' := ?_) #[true, false, false, false, false, false, false, false, false, false, false, false, false] rfl rfl (by kernel_rfl) (fun _ _ _ h => h) (Or.inl ⟨by rfl, ?_⟩) ?_ ?_
  rotate_left
  · intro w'
    go_simp
    with_reducible rfl
  rotate_left
  · simp only [Act.put, List.setIfInBounds_toArray, List.set_cons_zero, List.set_cons_succ, i64_w, i32_w]
    rfl
  refine pure_ (i := 1) (N := some 35) (v := ?_) (a' := ?_) #[true, true, false, false, false, false, false, false, false, false, false, false, false] rfl rfl (by kernel_rfl) (fun _ _ _ h => h) (Or.inl ⟨by rfl, ?_⟩) ?_ ?_
  rotate_left
  · intro w'
    go_simp
    with_reducible rfl
  rotate_left
  · simp only [Act.put, List.setIfInBounds_toArray, List.set_cons_zero, List.set_cons_succ, i64_w, i32_w]
    rfl
  refine pure_ (i := 2) (N := some 36) (v := ?_) (a' := ?_) #[true, true, true, false, false, false, false, false, false, false, false, false, false] rfl rfl (by kernel_rfl) (fun _ _ _ h => h) (Or.inl ⟨by rfl, ?_⟩) ?_ ?_
  rotate_left
  · intro w'
    go_simp
    with_reducible rfl
  rotate_left
  · simp only [Act.put, List.setIfInBounds_toArray, List.set_cons_zero, List.set_cons_succ, i64_w, i32_w]
    rfl
  refine pure_ (i := 3) (N := some 37) (v := ?_) (a' := ?_) #[true, true, true, true, false, false, false, false, false, false, false, false, false] rfl rfl (by kernel_rfl) (fun _ _ _ h => h) (Or.inl ⟨by rfl, ?_⟩) ?_ ?_
  rotate_left
  · intro w'
    go_simp
    with_reducible rfl
  rotate_left
  · simp only [Act.put, List.setIfInBounds_toArray, List.set_cons_zero, List.set_cons_succ, i64_w, i32_w]
    rfl
  refine pure_ (i := 5) (N := some 39) (v := ?_) (a' := ?_) #[true, true, true, true, false, true, false, false, false, false, false, false, false] rfl rfl (by kernel_rfl) (fun _ _ _ h => h) (Or.inl ⟨by rfl, ?_⟩) ?_ ?_
  rotate_left
  · intro w'
    go_simp
    with_reducible rfl
  rotate_left
  · simp only [Act.put, List.setIfInBounds_toArray, List.set_cons_zero, List.set_cons_succ, i64_w, i32_w]
    rfl
  refine pure_ (i := 6) (N := some 40) (v := ?_) (a' := ?_) #[true, true, true, true, false, true, true, false, false, false, false, false, false] rfl rfl (by kernel_rfl) (fun _ _ _ h => h) (Or.inl ⟨by rfl, ?_⟩) ?_ ?_
  rotate_left
  · intro w'
    go_simp
    with_reducible rfl
  rotate_left
  · simp only [Act.put, List.setIfInBounds_toArray, List.set_cons_zero, List.set_cons_succ, i64_w, i32_w]
    rfl
  refine pure_ (i := 7) (N := some 41) (v := ?_) (a' := ?_) #[true, true, true, true, false, true, true, true, false, false, false, false, false] rfl rfl (by kernel_rfl) (fun _ _ _ h => h) (Or.inl ⟨by rfl, ?_⟩) ?_ ?_
  rotate_left
  · intro w'
    go_simp
    with_reducible rfl
  rotate_left
  · simp only [Act.put, List.setIfInBounds_toArray, List.set_cons_zero, List.set_cons_succ, i64_w, i32_w]
    rfl
  refine take_ (i := 4) (N := some 38) (v := ?_) (a' := ?_) #[true, true, true, true, true, true, true, true, false, false, false, false, false] rfl rfl (by kernel_rfl) (fun _ _ _ h => h) (Or.inl ⟨by rfl, ?_⟩) hHeld ?_ ?_
  rotate_left
  · rintro w' ⟨s0, s1⟩
    go_simp
    with_reducible rfl
  rotate_left
  · simp only [Act.put, List.setIfInBounds_toArray, List.set_cons_zero, List.set_cons_succ, i64_w, i32_w]
    rfl
  refine take_ (i := 8) (N := some 42) (v := ?_) (a' := ?_) #[true, true, true, true, true, true, true, true, true, false, false, false, false] rfl rfl (by kernel_rfl) (fun _ _ _ h => h) (Or.inl ⟨by rfl, ?_⟩) hHeld ?_ ?_
  rotate_left
  · rintro w' ⟨s0, s1⟩
    go_simp
    with_reducible rfl
  rotate_left
  · simp only [Act.put, List.setIfInBounds_toArray, List.set_cons_zero, List.set_cons_succ, i64_w, i32_w]
    rfl
  refine pure_ (i := 9) (N := some 43) (v := ?_) (a' := ?_) #[true, true, true, true, true, true, true, true, true, true, false, false, false] rfl rfl (by kernel_rfl) (fun _ _ _ h => h) (Or.inl ⟨by rfl, ?_⟩) ?_ ?_
  rotate_left
  · intro w'
    go_simp
    with_reducible rfl
  rotate_left
  · simp only [Act.put, List.setIfInBounds_toArray, List.set_cons_zero, List.set_cons_succ, i64_w, i32_w]
    rfl
  refine pure_ (i := 10) (N := some 44) (v := ?_) (a' := ?_) #[true, true, true, true, true, true, true, true, true, true, true, false, false] rfl rfl (by kernel_rfl) (fun _ _ _ h => h) (Or.inl ⟨by rfl, ?_⟩) ?_ ?_
  rotate_left
  · intro w'
    go_simp
    with_reducible rfl
  rotate_left
  · simp only [Act.put, List.setIfInBounds_toArray, List.set_cons_zero, List.set_cons_succ, i64_w, i32_w]
    rfl
  refine pure_ (i := 11) (N := some 45) (v := ?_) (a' := ?_) #[true, true, true, true, true, true, true, true, true, true, true, true, false] rfl rfl (by kernel_rfl) (fun _ _ _ h => h) (Or.inl ⟨by rfl, ?_⟩) ?_ ?_
  rotate_left
  · intro w'
    go_simp
    with_reducible rfl
  rotate_left
  · simp only [Act.put, List.setIfInBounds_toArray, List.set_cons_zero, List.set_cons_succ, i64_w, i32_w]
    rfl
  refine last_ (i := 12) (N := none) #[true, true, true, true, true, true, true, true, true, true, true, true, true] rfl rfl (by kernel_rfl) (by decide) (fun K hK => ?_)
  refine skip_ (w1 := ?_) (by rfl) rfl ?_ ?_
  rotate_left
  · go_simp
    rfl
  refine hK.out _ _ ?_
  clear hK K
  refine done_ (by kernel_rfl) ?_
  have T2 := Aside0.mk ((T1.out.set3 (b.extract 0 k)).drew)
  have F2 := Aside0.mk ((F1.out.setAt 3 (.string (b.extract 0 k))).drew)
  generalize World.drew (World.setCell _ _ _) = w2 at T2 F2 ⊢
  clear q0 q1 q2 q3 q4 f0 f1 f2 f3 f4 T1
  obtain ⟨q0, q1, q2, q3, q4⟩ := T2.out.cells
  obtain ⟨f0, f1, f2, f3, f4⟩ := T2.out.free
  go_wp2
  go_end0
  exact ⟨rfl, (T2.out.set4 true).set2 (-1), (F2.out.setAt _ _).setAt _ _⟩

set_option maxHeartbeats 8000000 in
set_option maxRecDepth 100000 in
theorem rcrash_c (w : World) (g : Nat) (room left keep : Int) (s k : Nat) (b : ByteArray) (h : Rf w g room s left b false) (hs : s ≤ b.size) (hb : b.size ≤ 140737488355000) (hk : k ≤ b.size) (h1 : (b.size : Int) - s ≤ keep) (hk3 : (s : Int) + ((b.size : Int) - s) = k) :
    Calls Try.prog 66 #[.pointer (some ⟨g, 0, none⟩), .int .i64 keep] w fun e w' => e = .returned (.tuple #[]) ∧ Rf w' g room k (-1) (b.extract 0 k) true ∧ Fr (At g) w w' := by
  obtain ⟨q0, q1, q2, q3, q4⟩ := h.cells
  obtain ⟨f0, f1, f2, f3, f4⟩ := h.free
  have H := Aside0.mk h
  clear h q0 q2 f0 f2
  have hw0 : IntKind.i64.wrap ((b.size : Int) - s) = b.size - s := IntWalk.i64_in _ (by omega)
  have hb1 : decide (keep < (b.size : Int) - s) = false := decide_eq_false (by omega)
  have hb2 : decide ((b.size : Int) - s < 0) = false := decide_eq_false (by omega)
  obtain rfl : b.size = k := by omega
  rw [ByteArray.extract_zero_size]
  go_enter Try.func66, Try.ntmps66
  go_wp2
  go_quiet (fail)
  go_wp2
  have T1 := Aside0.mk ((H.out.drewN nq).set1 b.size)
  have F1 := Aside0.mk (((Fr.refl (At g) w).drewN nq).setAt 1 (.int .i64 b.size))
  generalize World.setCell _ _ _ = w1 at T1 F1 ⊢
  clear q1 q3 q4 f1 f3 f4 H
  obtain ⟨q0, q1, q2, q3, q4⟩ := T1.out.cells
  obtain ⟨f0, f1, f2, f3, f4⟩ := T1.out.free
  refine start_ (n := 13) (S := fun w' => w'.cell? ⟨g, 1, none⟩ = some (.int .i64 b.size) ∧ w'.cell? ⟨g, 3, none⟩ = some (.string b)) (ds := [12]) #[false, false, false, false, false, false, false, false, false, false, false, false, false] (by kernel_rfl) rfl rfl ⟨q1, q3⟩ (fun hHeld => ?_)
  refine pure_ (i := 0) (N := some 34) (v := ?_) (a' := ?_) #[true, false, false, false, false, false, false, false, false, false, false, false, false] rfl rfl (by kernel_rfl) (fun _ _ _ h => h) (Or.inl ⟨by rfl, ?_⟩) ?_ ?_
  rotate_left
  · intro w'
    go_simp
    with_reducible rfl
  rotate_left
  · simp only [Act.put, List.setIfInBounds_toArray, List.set_cons_zero, List.set_cons_succ, i64_w, i32_w]
    rfl
  refine pure_ (i := 1) (N := some 35) (v := ?_) (a' := ?_) #[true, true, false, false, false, false, false, false, false, false, false, false, false] rfl rfl (by kernel_rfl) (fun _ _ _ h => h) (Or.inl ⟨by rfl, ?_⟩) ?_ ?_
  rotate_left
  · intro w'
    go_simp
    with_reducible rfl
  rotate_left
  · simp only [Act.put, List.setIfInBounds_toArray, List.set_cons_zero, List.set_cons_succ, i64_w, i32_w]
    rfl
  refine pure_ (i := 2) (N := some 36) (v := ?_) (a' := ?_) #[true, true, true, false, false, false, false, false, false, false, false, false, false] rfl rfl (by kernel_rfl) (fun _ _ _ h => h) (Or.inl ⟨by rfl, ?_⟩) ?_ ?_
  rotate_left
  · intro w'
    go_simp
    with_reducible rfl
  rotate_left
  · simp only [Act.put, List.setIfInBounds_toArray, List.set_cons_zero, List.set_cons_succ, i64_w, i32_w]
    rfl
  refine pure_ (i := 3) (N := some 37) (v := ?_) (a' := ?_) #[true, true, true, true, false, false, false, false, false, false, false, false, false] rfl rfl (by kernel_rfl) (fun _ _ _ h => h) (Or.inl ⟨by rfl, ?_⟩) ?_ ?_
  rotate_left
  · intro w'
    go_simp
    with_reducible rfl
  rotate_left
  · simp only [Act.put, List.setIfInBounds_toArray, List.set_cons_zero, List.set_cons_succ, i64_w, i32_w]
    rfl
  refine pure_ (i := 5) (N := some 39) (v := ?_) (a' := ?_) #[true, true, true, true, false, true, false, false, false, false, false, false, false] rfl rfl (by kernel_rfl) (fun _ _ _ h => h) (Or.inl ⟨by rfl, ?_⟩) ?_ ?_
  rotate_left
  · intro w'
    go_simp
    with_reducible rfl
  rotate_left
  · simp only [Act.put, List.setIfInBounds_toArray, List.set_cons_zero, List.set_cons_succ, i64_w, i32_w]
    rfl
  refine pure_ (i := 6) (N := some 40) (v := ?_) (a' := ?_) #[true, true, true, true, false, true, true, false, false, false, false, false, false] rfl rfl (by kernel_rfl) (fun _ _ _ h => h) (Or.inl ⟨by rfl, ?_⟩) ?_ ?_
  rotate_left
  · intro w'
    go_simp
    with_reducible rfl
  rotate_left
  · simp only [Act.put, List.setIfInBounds_toArray, List.set_cons_zero, List.set_cons_succ, i64_w, i32_w]
    rfl
  refine pure_ (i := 7) (N := some 41) (v := ?_) (a' := ?_) #[true, true, true, true, false, true, true, true, false, false, false, false, false] rfl rfl (by kernel_rfl) (fun _ _ _ h => h) (Or.inl ⟨by rfl, ?_⟩) ?_ ?_
  rotate_left
  · intro w'
    go_simp
    with_reducible rfl
  rotate_left
  · simp only [Act.put, List.setIfInBounds_toArray, List.set_cons_zero, List.set_cons_succ, i64_w, i32_w]
    rfl
  refine take_ (i := 4) (N := some 38) (v := ?_) (a' := ?_) #[true, true, true, true, true, true, true, true, false, false, false, false, false] rfl rfl (by kernel_rfl) (fun _ _ _ h => h) (Or.inl ⟨by rfl, ?_⟩) hHeld ?_ ?_
  rotate_left
  · rintro w' ⟨s0, s1⟩
    go_simp
    with_reducible rfl
  rotate_left
  · simp only [Act.put, List.setIfInBounds_toArray, List.set_cons_zero, List.set_cons_succ, i64_w, i32_w]
    rfl
  refine take_ (i := 8) (N := some 42) (v := ?_) (a' := ?_) #[true, true, true, true, true, true, true, true, true, false, false, false, false] rfl rfl (by kernel_rfl) (fun _ _ _ h => h) (Or.inl ⟨by rfl, ?_⟩) hHeld ?_ ?_
  rotate_left
  · rintro w' ⟨s0, s1⟩
    go_simp
    with_reducible rfl
  rotate_left
  · simp only [Act.put, List.setIfInBounds_toArray, List.set_cons_zero, List.set_cons_succ, i64_w, i32_w]
    rfl
  refine pure_ (i := 9) (N := some 43) (v := ?_) (a' := ?_) #[true, true, true, true, true, true, true, true, true, true, false, false, false] rfl rfl (by kernel_rfl) (fun _ _ _ h => h) (Or.inl ⟨by rfl, ?_⟩) ?_ ?_
  rotate_left
  · intro w'
    go_simp
    with_reducible rfl
  rotate_left
  · simp only [Act.put, List.setIfInBounds_toArray, List.set_cons_zero, List.set_cons_succ, i64_w, i32_w]
    rfl
  refine pure_ (i := 10) (N := some 44) (v := ?_) (a' := ?_) #[true, true, true, true, true, true, true, true, true, true, true, false, false] rfl rfl (by kernel_rfl) (fun _ _ _ h => h) (Or.inl ⟨by rfl, ?_⟩) ?_ ?_
  rotate_left
  · intro w'
    go_simp
    with_reducible rfl
  rotate_left
  · simp only [Act.put, List.setIfInBounds_toArray, List.set_cons_zero, List.set_cons_succ, i64_w, i32_w]
    rfl
  refine pure_ (i := 11) (N := some 45) (v := ?_) (a' := ?_) #[true, true, true, true, true, true, true, true, true, true, true, true, false] rfl rfl (by kernel_rfl) (fun _ _ _ h => h) (Or.inl ⟨by rfl, ?_⟩) ?_ ?_
  rotate_left
  · intro w'
    go_simp
    with_reducible rfl
  rotate_left
  · simp only [Act.put, List.setIfInBounds_toArray, List.set_cons_zero, List.set_cons_succ, i64_w, i32_w]
    rfl
  refine last_ (i := 12) (N := none) #[true, true, true, true, true, true, true, true, true, true, true, true, true] rfl rfl (by kernel_rfl) (by decide) (fun K hK => ?_)
  refine skip_ (w1 := ?_) (by rfl) rfl ?_ ?_
  rotate_left
  · go_simp
    rfl
  refine hK.out _ _ ?_
  clear hK K
  refine done_ (by kernel_rfl) ?_
  have T2 := Aside0.mk ((T1.out.set3 b).drew)
  have F2 := Aside0.mk ((F1.out.setAt 3 (.string b)).drew)
  generalize World.drew (World.setCell _ _ _) = w2 at T2 F2 ⊢
  clear q0 q1 q2 q3 q4 f0 f1 f2 f3 f4 T1
  obtain ⟨q0, q1, q2, q3, q4⟩ := T2.out.cells
  obtain ⟨f0, f1, f2, f3, f4⟩ := T2.out.free
  go_wp2
  go_end0
  exact ⟨rfl, (T2.out.set4 true).set2 (-1), (F2.out.setAt _ _).setAt _ _⟩

theorem rcrash (w : World) (g : Nat) (room left keep : Int) (s : Nat) (b : ByteArray) (h : Rf w g room s left b false) (hs : s ≤ b.size) (hb : b.size ≤ 140737488355000) :
    Calls Try.prog 66 #[.pointer (some ⟨g, 0, none⟩), .int .i64 keep] w fun e w' => e = .returned (.tuple #[]) ∧ Rf w' g room (crashN b.size s keep) (-1) (b.extract 0 (crashN b.size s keep)) true ∧ Fr (At g) w w' := by
  have hk := (crashN_le hs keep).1
  have he : crashN b.size s keep = s + (if keep ≤ 0 then 0 else if (b.size : Int) - s < keep then b.size - s else keep.toNat) := rfl
  by_cases h1 : keep < 0
  · rw [if_pos (show keep ≤ 0 by omega)] at he
    exact rcrash_a w g room left keep s _ b h hs hb hk h1 (by omega)
  · by_cases h2 : keep < (b.size : Int) - s
    · refine rcrash_b w g room left keep s _ b h hs hb hk (by omega) h2 ?_
      by_cases h3 : keep ≤ 0
      · rw [if_pos h3] at he; omega
      · rw [if_neg h3, if_neg (by omega)] at he; omega
    · refine rcrash_c w g room left keep s _ b h hs hb hk (by omega) ?_
      by_cases h3 : keep ≤ 0
      · rw [if_pos h3] at he; omega
      · rw [if_neg h3] at he
        by_cases h4 : (b.size : Int) - s < keep
        · rw [if_pos h4] at he; omega
        · rw [if_neg h4] at he; omega

end Go.Proofs.Ythlcognpfangkaa
