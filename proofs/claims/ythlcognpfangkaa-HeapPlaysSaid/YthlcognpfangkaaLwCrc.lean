/- The walks of the four laws of layer 2: each returns true (the arguments' bytes readable, each a byte, their lengths within the reach). -/
import Derived.Test.YthlcognpfangkaaCq
import Derived.Lib.SlBytesConst
namespace Go.Proofs.Ythlcognpfangkaa
open Go.RowKit Go.Proofs.YthlcognpfangkaaW.PrintWords Go.Proofs.YthlcognpfangkaaW.PrintLast Go.Proofs.YthlcognpfangkaaW.PrintMore
set_option linter.unusedVariables false
set_option linter.unusedSimpArgs false


set_option maxHeartbeats 8000000 in
set_option maxRecDepth 100000 in
theorem mopen_bad (w : World) (A : Option Addr) (c : Nat) (l : List Int) (hr : Kd.C (Kd.int .u8) w A l.length l) (hc : l.length ≤ c) (hl : isBytes l) (hn : l.length ≤ 140737488355000) (h4 : 4 ≤ l.length) (hno : l ≠ sealL (l.take (l.length - 4))) :
    Calls Try.prog 50 #[.slice A l.length c] w fun e w' => e = .returned (.tuple #[.slice none 0 0, .int .i64 7]) ∧ Fr No w w' := by
  obtain ⟨n, hnn⟩ : ∃ n, l.length - 4 = n := ⟨_, rfl⟩
  rw [hnn] at hno
  have h1 : decide ((l.length : Int) - 4 < 0) = false := decide_eq_false (by omega)
  have htl : (l.take n).length = n := by rw [List.length_take]; omega
  have hrt := Kd.C_take hr (m := n) (by omega)
  have hqb := bytes_take hl n
  have hsl := cutto A l c n (by omega) hc
  rw [htl] at hsl
  have e1 : (l.length : Int) - 4 = (n : Int) := by omega
  generalize l.take n = q at hno htl hrt hqb
  have HRT := Aside0.mk hrt
  have HTL := Aside0.mk htl
  have HR := Aside0.mk hr
  have HC := Aside0.mk hc
  have HQB := Aside0.mk hqb
  have HQB2 := Aside0.mk (show ∀ c ∈ q, 0 ≤ c ∧ c ≤ 255 from hqb)
  have hst : ((strOfNums (sealL q)).toList == (strOfNums l).toList) = false := by
    rw [str_inj (sealL_range q hqb) hl]
    exact decide_eq_false (fun h => hno h.symm)
  generalize hsx : strOfNums (sealL q) = sx at hst
  generalize hsy : strOfNums l = sy at hst
  have HSX := Aside0.mk hsx
  have HSY := Aside0.mk hsy
  clear hr hc hl hno htl hrt hnn hqb hsx hsy
  go_enter Try.func50, Try.ntmps50
  go_wp2
  refine start_ (n := 8) (S := fun w' => (convert 47 9 (.slice A l.length c)).run Try.prog w' = .ok (.string sy) w') (ds := []) #[false, false, false, false, false, false, false, false] (by kernel_rfl) rfl rfl ((by rw [← HSY.out]; exact cv (Kd.C_drew HR.out))) (fun hHeld => ?_)
  refine pure_ (i := 0) (N := some 10) (v := ?_) (a' := ?_) #[true, false, false, false, false, false, false, false] rfl rfl (by kernel_rfl) (fun _ _ _ h => h) (Or.inl ⟨by rfl, ?_⟩) ?_ ?_
  rotate_left
  · intro w'
    go_simp
    with_reducible rfl
  rotate_left
  · simp only [Act.put, List.setIfInBounds_toArray, List.set_cons_zero, List.set_cons_succ, i64_w, i32_w]
    rfl
  refine pure_ (i := 1) (N := some 11) (v := ?_) (a' := ?_) #[true, true, false, false, false, false, false, false] rfl rfl (by kernel_rfl) (fun _ _ _ h => h) (Or.inl ⟨by rfl, ?_⟩) ?_ ?_
  rotate_left
  · intro w'
    go_simp
    with_reducible rfl
  rotate_left
  · simp only [Act.put, List.setIfInBounds_toArray, List.set_cons_zero, List.set_cons_succ, i64_w, i32_w]
    rfl
  refine pure_ (i := 2) (N := some 12) (v := ?_) (a' := ?_) #[true, true, true, false, false, false, false, false] rfl rfl (by kernel_rfl) (fun _ _ _ h => h) (Or.inl ⟨by rfl, ?_⟩) ?_ ?_
  rotate_left
  · intro w'
    go_simp
    with_reducible rfl
  rotate_left
  · simp only [Act.put, List.setIfInBounds_toArray, List.set_cons_zero, List.set_cons_succ, i64_w, i32_w]
    rfl
  refine pure_ (i := 5) (N := some 15) (v := ?_) (a' := ?_) #[true, true, true, false, false, true, false, false] rfl rfl (by kernel_rfl) (fun _ _ _ h => h) (Or.inl ⟨by rfl, ?_⟩) ?_ ?_
  rotate_left
  · intro w'
    go_simp
    with_reducible rfl
  rotate_left
  · simp only [Act.put, List.setIfInBounds_toArray, List.set_cons_zero, List.set_cons_succ, i64_w, i32_w]
    rfl
  refine take_ (i := 6) (N := some 16) (v := ?_) (a' := ?_) #[true, true, true, false, false, true, true, false] rfl rfl (by kernel_rfl) (fun _ _ _ h => h) (Or.inl ⟨by rfl, ?_⟩) hHeld ?_ ?_
  rotate_left
  · intro w' s0
    go_simp
    with_reducible rfl
  rotate_left
  · simp only [Act.put, List.setIfInBounds_toArray, List.set_cons_zero, List.set_cons_succ, i64_w, i32_w]
    rfl
  refine one_ (i := 3) (N := some 13) #[true, true, true, true, false, true, true, false] rfl rfl (by kernel_rfl) (by decide) (fun K hK => ?_)
  refine goes_ Try.func48 (by kernel_rfl) rfl #[.slice A n c] (by rfl) rfl rfl (by simp only [List.map_toArray, List.map_cons, List.map_nil]; rfl) ?_
  with_reducible refine (calls_of_args (args' := #[.slice A q.length c]) (by rw [HTL.out]) (rseal_calls _ A c q (Kd.C_drew HRT.out) (by have := HC.out; have := HTL.out; omega) HQB2.out (by have := HTL.out; omega))).mono ?_
  rintro e w1 ⟨v1, rfl, hr1, hf1⟩
  refine ⟨_, rfl, ?_⟩
  have F1 := Aside0.mk ((Fr.refl No w).drew.on hf1)
  obtain ⟨A1, c1, e1, _, hrd1⟩ := R_out hr1
  subst e1
  have cv1 := cv (c := c1) hrd1
  rw [HSX.out] at cv1
  refine hK.out _ _ ((by rw [← HSY.out]; exact cv (C_on HR.out F1.out))) (fun hHeld => ?_)
  clear hK K
  refine norm_ (a' := ?_) ?_ ?_
  rotate_left
  · show Act.put _ (some 13) _ = _
    simp only [Act.put, List.setIfInBounds_toArray, List.set_cons_zero, List.set_cons_succ, i64_w, i32_w]
    rfl
  refine one_ (i := 4) (N := some 14) #[true, true, true, true, true, true, true, false] rfl rfl (by kernel_rfl) (by decide) (fun K hK => ?_)
  refine value_ (w1 := ?_) (v := ?_) (by rfl) rfl ?_ ?_
  rotate_left 2
  · go_simp
    constructor
    · rfl
    · rfl
  refine hK.out _ _ (hHeld) (fun hHeld => ?_)
  clear hK K
  refine norm_ (a' := ?_) ?_ ?_
  rotate_left
  · show Act.put _ (some 14) _ = _
    simp only [Act.put, List.setIfInBounds_toArray, List.set_cons_zero, List.set_cons_succ, i64_w, i32_w]
    rfl
  refine pure_ (i := 7) (N := some 17) (v := ?_) (a' := ?_) #[true, true, true, true, true, true, true, true] rfl rfl (by kernel_rfl) (fun _ _ _ h => h) (Or.inl ⟨by rfl, ?_⟩) ?_ ?_
  rotate_left
  · intro w'
    go_simp
    with_reducible rfl
  rotate_left
  · simp only [Act.put, List.setIfInBounds_toArray, List.set_cons_zero, List.set_cons_succ, i64_w, i32_w]
    rfl
  refine done_ (by kernel_rfl) ?_
  go_wp2
  go_ret2
  exact ⟨rfl, F1.out⟩

set_option maxHeartbeats 8000000 in
set_option maxRecDepth 100000 in
theorem mopen_yes (w : World) (A : Option Addr) (c : Nat) (l : List Int) (hr : Kd.C (Kd.int .u8) w A l.length l) (hc : l.length ≤ c) (hl : isBytes l) (hn : l.length ≤ 140737488355000) (h4 : 4 ≤ l.length) (hyes : l = sealL (l.take (l.length - 4))) :
    Calls Try.prog 50 #[.slice A l.length c] w fun e w' => e = .returned (.tuple #[.slice A (l.length - 4) c, .int .i64 0]) ∧ Fr No w w' := by
  obtain ⟨n, hnn⟩ : ∃ n, l.length - 4 = n := ⟨_, rfl⟩
  rw [hnn] at hyes ⊢
  have h1 : decide ((l.length : Int) - 4 < 0) = false := decide_eq_false (by omega)
  have htl : (l.take n).length = n := by rw [List.length_take]; omega
  have hrt := Kd.C_take hr (m := n) (by omega)
  have hqb := bytes_take hl n
  have hsl := cutto A l c n (by omega) hc
  rw [htl] at hsl
  have e1 : (l.length : Int) - 4 = (n : Int) := by omega
  generalize l.take n = q at hyes htl hrt hqb
  have HRT := Aside0.mk hrt
  have HTL := Aside0.mk htl
  have HR := Aside0.mk hr
  have HC := Aside0.mk hc
  have HQB := Aside0.mk hqb
  have HQB2 := Aside0.mk (show ∀ c ∈ q, 0 ≤ c ∧ c ≤ 255 from hqb)
  have hst : ((strOfNums (sealL q)).toList == (strOfNums l).toList) = true := by
    rw [str_inj (sealL_range q hqb) hl]
    exact decide_eq_true hyes.symm
  generalize hsx : strOfNums (sealL q) = sx at hst
  generalize hsy : strOfNums l = sy at hst
  have HSX := Aside0.mk hsx
  have HSY := Aside0.mk hsy
  clear hr hc hl hyes htl hrt hnn hqb hsx hsy
  go_enter Try.func50, Try.ntmps50
  go_wp2
  refine start_ (n := 8) (S := fun w' => (convert 47 9 (.slice A l.length c)).run Try.prog w' = .ok (.string sy) w') (ds := []) #[false, false, false, false, false, false, false, false] (by kernel_rfl) rfl rfl ((by rw [← HSY.out]; exact cv (Kd.C_drew HR.out))) (fun hHeld => ?_)
  refine pure_ (i := 0) (N := some 10) (v := ?_) (a' := ?_) #[true, false, false, false, false, false, false, false] rfl rfl (by kernel_rfl) (fun _ _ _ h => h) (Or.inl ⟨by rfl, ?_⟩) ?_ ?_
  rotate_left
  · intro w'
    go_simp
    with_reducible rfl
  rotate_left
  · simp only [Act.put, List.setIfInBounds_toArray, List.set_cons_zero, List.set_cons_succ, i64_w, i32_w]
    rfl
  refine pure_ (i := 1) (N := some 11) (v := ?_) (a' := ?_) #[true, true, false, false, false, false, false, false] rfl rfl (by kernel_rfl) (fun _ _ _ h => h) (Or.inl ⟨by rfl, ?_⟩) ?_ ?_
  rotate_left
  · intro w'
    go_simp
    with_reducible rfl
  rotate_left
  · simp only [Act.put, List.setIfInBounds_toArray, List.set_cons_zero, List.set_cons_succ, i64_w, i32_w]
    rfl
  refine pure_ (i := 2) (N := some 12) (v := ?_) (a' := ?_) #[true, true, true, false, false, false, false, false] rfl rfl (by kernel_rfl) (fun _ _ _ h => h) (Or.inl ⟨by rfl, ?_⟩) ?_ ?_
  rotate_left
  · intro w'
    go_simp
    with_reducible rfl
  rotate_left
  · simp only [Act.put, List.setIfInBounds_toArray, List.set_cons_zero, List.set_cons_succ, i64_w, i32_w]
    rfl
  refine pure_ (i := 5) (N := some 15) (v := ?_) (a' := ?_) #[true, true, true, false, false, true, false, false] rfl rfl (by kernel_rfl) (fun _ _ _ h => h) (Or.inl ⟨by rfl, ?_⟩) ?_ ?_
  rotate_left
  · intro w'
    go_simp
    with_reducible rfl
  rotate_left
  · simp only [Act.put, List.setIfInBounds_toArray, List.set_cons_zero, List.set_cons_succ, i64_w, i32_w]
    rfl
  refine take_ (i := 6) (N := some 16) (v := ?_) (a' := ?_) #[true, true, true, false, false, true, true, false] rfl rfl (by kernel_rfl) (fun _ _ _ h => h) (Or.inl ⟨by rfl, ?_⟩) hHeld ?_ ?_
  rotate_left
  · intro w' s0
    go_simp
    with_reducible rfl
  rotate_left
  · simp only [Act.put, List.setIfInBounds_toArray, List.set_cons_zero, List.set_cons_succ, i64_w, i32_w]
    rfl
  refine one_ (i := 3) (N := some 13) #[true, true, true, true, false, true, true, false] rfl rfl (by kernel_rfl) (by decide) (fun K hK => ?_)
  refine goes_ Try.func48 (by kernel_rfl) rfl #[.slice A n c] (by rfl) rfl rfl (by simp only [List.map_toArray, List.map_cons, List.map_nil]; rfl) ?_
  with_reducible refine (calls_of_args (args' := #[.slice A q.length c]) (by rw [HTL.out]) (rseal_calls _ A c q (Kd.C_drew HRT.out) (by have := HC.out; have := HTL.out; omega) HQB2.out (by have := HTL.out; omega))).mono ?_
  rintro e w1 ⟨v1, rfl, hr1, hf1⟩
  refine ⟨_, rfl, ?_⟩
  have F1 := Aside0.mk ((Fr.refl No w).drew.on hf1)
  obtain ⟨A1, c1, e1, _, hrd1⟩ := R_out hr1
  subst e1
  have cv1 := cv (c := c1) hrd1
  rw [HSX.out] at cv1
  refine hK.out _ _ ((by rw [← HSY.out]; exact cv (C_on HR.out F1.out))) (fun hHeld => ?_)
  clear hK K
  refine norm_ (a' := ?_) ?_ ?_
  rotate_left
  · show Act.put _ (some 13) _ = _
    simp only [Act.put, List.setIfInBounds_toArray, List.set_cons_zero, List.set_cons_succ, i64_w, i32_w]
    rfl
  refine one_ (i := 4) (N := some 14) #[true, true, true, true, true, true, true, false] rfl rfl (by kernel_rfl) (by decide) (fun K hK => ?_)
  refine value_ (w1 := ?_) (v := ?_) (by rfl) rfl ?_ ?_
  rotate_left 2
  · go_simp
    constructor
    · rfl
    · rfl
  refine hK.out _ _ (hHeld) (fun hHeld => ?_)
  clear hK K
  refine norm_ (a' := ?_) ?_ ?_
  rotate_left
  · show Act.put _ (some 14) _ = _
    simp only [Act.put, List.setIfInBounds_toArray, List.set_cons_zero, List.set_cons_succ, i64_w, i32_w]
    rfl
  refine pure_ (i := 7) (N := some 17) (v := ?_) (a' := ?_) #[true, true, true, true, true, true, true, true] rfl rfl (by kernel_rfl) (fun _ _ _ h => h) (Or.inl ⟨by rfl, ?_⟩) ?_ ?_
  rotate_left
  · intro w'
    go_simp
    with_reducible rfl
  rotate_left
  · simp only [Act.put, List.setIfInBounds_toArray, List.set_cons_zero, List.set_cons_succ, i64_w, i32_w]
    rfl
  refine done_ (by kernel_rfl) ?_
  go_wp2
  go_ret2
  exact ⟨rfl, F1.out⟩

/-- '[]byte("..")': a row whose bytes are read. -/
theorem lit_reads (w : World) (l : List Int) (fr : Nat × Nat) (hl : l.length ≤ 9223372036854775807) : Kd.C (Kd.int .u8) (w.alloc (.cells (l.map (Value.int .u8)).toArray 5 fr)) (some ⟨w.heap.size, 0, none⟩) l.length l := by
  refine ⟨rfl, hl, fun hn => ⟨_, rfl, fun j p hj => ⟨[.int .u8 p], rfl, rfl, fun i u hu => ?_⟩⟩⟩
  match i, hu with
  | 0, hu =>
    have hb : (w.alloc (.cells (l.map (Value.int .u8)).toArray 5 fr)).heap[w.heap.size]? = some (.cells (l.map (Value.int .u8)).toArray 5 fr) := blk_new w _
    have := cell_of_row _ _ j _ _ _ hb
    show (w.alloc _).cell? ((⟨w.heap.size, 0, none⟩ : Addr).add (j * 1 + 0)) = some u
    rw [add_plain, show j * 1 + 0 = j by omega, this]
    simp only [List.getElem?_toArray, List.getElem?_map, hj]
    exact hu
theorem sum_ex : sumN [49, 50, 51, 52, 53, 54, 55, 56, 57] = 3421780262 := by decide +kernel

set_option maxRecDepth 100000 in
theorem up02 (w : World) : Calls Try.prog 44 #[] w fun e w' => e = .returned (.bool true) ∧ Fr No w w' := by
  have kc := fun (w : World) (C : Array Value) (n c : Nat) => Lib.run_convert_bytes_const (P := Try.prog) w 47 5 C n c Try.underlying47 Try.underlying5
  have hl : isBytes [49, 50, 51, 52, 53, 54, 55, 56, 57] := by unfold isBytes; simp
  have HL := Aside0.mk hl
  clear hl
  go_enter Try.func44, Try.ntmps44
  go_wp2_with (fail)
  refine (open_short _ none 0 0 (by omega)).mono ?_
  rintro e w1 ⟨rfl, rfl⟩
  go_wp2_with (fail)
  refine (sum_calls _ (some ⟨w.heap.size, 0, none⟩) 9 [49, 50, 51, 52, 53, 54, 55, 56, 57] (lit_reads w [49, 50, 51, 52, 53, 54, 55, 56, 57] (9, 10) (by simp)) (by simp) HL.out).mono ?_
  rw [sum_ex]
  rintro e w2 ⟨rfl, hf⟩
  have F2 := Aside0.mk (((Fr.refl No w).alloc _).on hf)
  clear hf kc
  go_wp2
  go_ret
  exact ⟨rfl, F2.out⟩


end Go.Proofs.Ythlcognpfangkaa
