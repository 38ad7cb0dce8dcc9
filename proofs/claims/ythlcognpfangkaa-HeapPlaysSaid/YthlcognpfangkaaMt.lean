/- The walk of the reference's Reader.Text (no condition but the reader's block). -/
import Derived.Test.YthlcognpfangkaaMr
namespace Go.Proofs.Ythlcognpfangkaa
open Go.RowKit Go.Proofs.YthlcognpfangkaaW.PrintWords Go.Proofs.YthlcognpfangkaaW.PrintLast Go.Proofs.YthlcognpfangkaaW.PrintMore
set_option linter.unusedVariables false
set_option linter.unusedSimpArgs false

section
variable {ops : Array Oper} {o : Oper} {a : Act} {Kc : Act → World → Prop} {Q : Exit → Act → World → Prop}
/-- '[]byte{}' as one step of a region that draws. -/
theorem lit_step {W : World} (base : Nat) (hw : Region.wanted o (yielded ops a.tmps) = true) (N : Tmp) (hd : o.dst = some N)
    (hrun : (execOp a.eval o).run Try.prog W = .ok (.value (.slice (some ⟨W.heap.size, 0, none⟩) 0 0)) (W.alloc (.cells #[] 5)))
    (hbase : base ≤ W.heap.size)
    (h : ∀ v1 w1, Kd.R (Kd.int .u8) 5 w1 base (fun _ => True) v1 [] → W.grownBy w1 none → Kc (a.put o.dst v1) w1) : if Region.wanted o (yielded ops a.tmps) = true then Oper.wp Try.prog o a W Kc Q else Kc (a.put o.dst undef) W :=
  Kd.R_lit_step (Kd.int .u8) (w0 := W) base 5 hw (N := N) hd (xs := ([] : List Int)) (inner := []) (ok := fun _ => True) (okp := fun _ => True) hrun (Reps.none _ _) (fun _ hk => hk) trivial (Below.refl _ _) hbase (by simp) (fun v1 w1 h1 _ h2 _ => h v1 w1 h1 h2)
/-- An append of bytes that are read, as one step of a region that draws. -/
theorem app_step {W : World} (base : Nat) (hw : Region.wanted o (yielded ops a.tmps) = true) (s x : Tmp) (ho : o.op = .call { callee := .builtin .append, args := #[.tmp s, .tmp x], argTypes := #[47, 47] })
    (v : Value) (xs ys : List Int) (A : Option Addr) (m c : Nat) (hs : a.eval (.tmp s) = v) (hx : a.eval (.tmp x) = .slice A m c)
    (HO : Kd.R (Kd.int .u8) 5 W base (fun _ => True) v xs) (HR : Kd.C (Kd.int .u8) W A m ys) (hbase : base ≤ W.heap.size) (hl : xs.length + m ≤ 140737488355328)
    (h : ∀ v1 w1, Kd.R (Kd.int .u8) 5 w1 base (fun _ => True) v1 (xs ++ ys) → W.grownBy w1 v.ownBlock → Kc (a.put o.dst v1) w1) : if Region.wanted o (yielded ops a.tmps) = true then Oper.wp Try.prog o a W Kc Q else Kc (a.put o.dst undef) W :=
  Kd.R_append_rows_step (Kd.int .u8) (w0 := W) base hw (.tmp s) (.tmp x) 47 5 (.int .u8 0) 1 ho Try.underlying47 PWordPuts.info5 rfl (by decide) (by omega) v xs ys A m c (fun _ => True) (fun _ => False) hs hx HO HR (fun _ _ h => h) (fun _ h => h.elim) (fun _ _ => trivial) (Below.refl _ _) hbase (by omega) (fun v1 w1 h1 _ h2 _ => h v1 w1 h1 h2)
end

theorem mtext_bad (w : World) (g : Nat) (A : Option Addr) (n c : Nat) (a b most : Int) (h : Mb w g A n c a b) (hb : 0 ≤ b) :
    Calls Try.prog 39 #[.pointer (some ⟨g, 0, none⟩), .int .i64 most] w fun e w' => e = .returned (.slice none 0 0) ∧ Mb w' g A n c a b ∧ Fr (At g) w w' := by
  have hh := h.cells.2.1
  have H := Aside0.mk h
  have hb1 : decide (0 ≤ b) = true := decide_eq_true hb
  clear h
  go_enter Try.func39, Try.ntmps39
  go_wp2_with (first | (go_at_call 41; refine (mword_bad _ g A n c a b 2 H.out hb).mono ?_; rintro e w1 ⟨rfl, hr, hf⟩; have hc := hr.cells.2.2.1; have HR := Aside0.mk hr; have HF := Aside0.mk hf; clear hr hf))
  go_ret
  exact ⟨rfl, HR.out, HF.out⟩

theorem mtext_short (w : World) (g : Nat) (A : Option Addr) (n c a : Nat) (most : Int) (h : Mb w g A n c a (-1)) (hn : a ≤ n) (hl : n ≤ 9223372036854775000) (hs : n < a + 2) :
    Calls Try.prog 39 #[.pointer (some ⟨g, 0, none⟩), .int .i64 most] w fun e w' => e = .returned (.slice none 0 0) ∧ Mb w' g A n c a a ∧ Fr (At g) w w' := by
  have hh := h.cells.2.1
  have H := Aside0.mk h
  have hb1 : decide (0 ≤ (a : Int)) = true := decide_eq_true (by omega)
  clear h
  go_enter Try.func39, Try.ntmps39
  go_wp2_with (first | (go_at_call 41; refine (mword_no _ g A n c a 2 H.out hn hl (.inr (by omega))).mono ?_; rintro e w1 ⟨rfl, hr, hf⟩; have hc := hr.cells.2.2.1; have HR := Aside0.mk hr; have HF := Aside0.mk hf; clear hr hf))
  go_ret
  exact ⟨rfl, HR.out, HF.out⟩

theorem mtext_long (w0 w : World) (g : Nat) (A : Option Addr) (c : Nat) (l : List Int) (a N : Nat) (most : Int) (hB : Below w0.heap.size w0 w) (hg : w0.heap.size ≤ g) (hr : Kd.C (Kd.int .u8) w0 A l.length l) (hc : l.length ≤ c) (hb : ∀ x ∈ l, 0 ≤ x ∧ x ≤ 255)
    (h : Mb w g A l.length c a (-1)) (hy : a + 2 ≤ l.length) (hl : l.length ≤ 9223372036854700000) (hN : mNum ((l.drop a).take 2) = N) (hN2 : N ≤ 65535) (hno : most < N ∨ l.length < a + 2 + N) :
    Calls Try.prog 39 #[.pointer (some ⟨g, 0, none⟩), .int .i64 most] w fun e w' => e = .returned (.slice none 0 0) ∧ Mb w' g A l.length c a a ∧ Fr (At g) w w' := by
  have hh := h.cells.2.1
  have H := Aside0.mk h
  have HB := Aside0.mk hB
  have HG := Aside0.mk hg
  have HC := Aside0.mk hc
  have HR0 := Aside0.mk hr
  have HBY := Aside0.mk hb
  have HN := Aside0.mk hN
  clear h hB hg hr hc hb hN
  have e2 : ((a : Int) + 2) = ((a + 2 : Nat) : Int) := by omega
  by_cases hm : most < N
  · have hm1 : decide (most < (N : Int)) = true := decide_eq_true hm
    clear hno e2
    go_enter Try.func39, Try.ntmps39
    go_wp2_with (first | (go_at_call 41; refine (mword_yes w0 _ g A c l a 2 HB.out HG.out HR0.out HC.out HBY.out H.out (.inr (.inl rfl)) hy (by omega)).mono ?_; rintro e w1 ⟨rfl, hr, hf⟩; rw [HN.out]; obtain ⟨q0, q1, q2, q3, q4⟩ := hr.cells; have HR := Aside0.mk hr; have HF := Aside0.mk hf; clear hr hf))
    go_quiet (fail)
    go_wp2
    go_ret
    exact ⟨rfl, ((HR.out.drewN _).set1 a).set2 a, (((HF.out.drewN _).setAt _ _).setAt _ _)⟩
  · have hm1 : decide (most < (N : Int)) = false := decide_eq_false hm
    have hm2 : l.length < a + 2 + N := by omega
    have hs0 : IntKind.i64.wrap ((a : Int) + 2 + N) = a + 2 + N := IntWalk.i64_in _ (by omega)
    have hm3 : decide ((l.length : Int) < (a : Int) + 2 + N) = true := decide_eq_true (by omega)
    clear hno e2
    go_enter Try.func39, Try.ntmps39
    go_wp2_with (first | (go_at_call 41; refine (mword_yes w0 _ g A c l a 2 HB.out HG.out HR0.out HC.out HBY.out H.out (.inr (.inl rfl)) hy (by omega)).mono ?_; rintro e w1 ⟨rfl, hr, hf⟩; rw [HN.out]; obtain ⟨q0, q1, q2, q3, q4⟩ := hr.cells; have HR := Aside0.mk hr; have HF := Aside0.mk hf; clear hr hf))
    go_quiet (fail)
    go_wp2
    go_ret
    exact ⟨rfl, ((HR.out.drewN _).set1 a).set2 a, (((HF.out.drewN _).setAt _ _).setAt _ _)⟩

set_option maxHeartbeats 8000000 in
set_option maxRecDepth 100000 in
theorem mtext_yes (w0 w : World) (g : Nat) (A : Option Addr) (c : Nat) (l : List Int) (a N : Nat) (most : Int) (hB : Below w0.heap.size w0 w) (hg : w0.heap.size ≤ g) (hr : Kd.C (Kd.int .u8) w0 A l.length l) (hc : l.length ≤ c) (hb : ∀ x ∈ l, 0 ≤ x ∧ x ≤ 255)
    (h : Mb w g A l.length c a (-1)) (hy : a + 2 ≤ l.length) (hl : l.length ≤ 9223372036854700000) (hN : mNum ((l.drop a).take 2) = N) (hN2 : N ≤ 65535) (hm : N ≤ most) (hy2 : a + 2 + N ≤ l.length) :
    Calls Try.prog 39 #[.pointer (some ⟨g, 0, none⟩), .int .i64 most] w fun e w' => ∃ v, e = .returned v ∧ Kd.R (Kd.int .u8) 5 w' w.heap.size (fun _ => True) v ((l.drop (a + 2)).take N) ∧ Mb w' g A l.length c (a + 2 + N : Nat) (-1) ∧ Fr (At g) w w' := by
  have hgw := blk_lt h
  have hh := h.cells.2.1
  have H := Aside0.mk h
  have HB := Aside0.mk hB
  have HG := Aside0.mk hg
  have HC := Aside0.mk hc
  have HR0 := Aside0.mk hr
  have HBY := Aside0.mk hb
  have HN := Aside0.mk hN
  have hm1 : decide (most < (N : Int)) = false := decide_eq_false (by omega)
  have hs0 : IntKind.i64.wrap ((a : Int) + 2 + N) = a + 2 + N := IntWalk.i64_in _ (by omega)
  have hm3 : decide ((l.length : Int) < (a : Int) + 2 + N) = false := decide_eq_false (by omega)
  have hcut : Kd.C (Kd.int .u8) w0 (cutA A c (a + 2)) N ((l.drop (a + 2)).take N) := by
    have := cutA_reads hr (lo := a + 2) (hi := a + 2 + N) (by omega) (by omega) hc
    rw [List.drop_take, show a + 2 + N - (a + 2) = N from by omega] at this
    have e : ((l.drop (a + 2)).take N).length = N := by rw [List.length_take, List.length_drop]; omega
    rw [e] at this
    exact this
  have HQ := Aside0.mk hcut
  obtain ⟨i0, hi, hz0, hz1, hz2⟩ := info_parts PWordPuts.info5
  have hsl := cut_mid (P := Try.prog) 47 5 .i64 .i64 Try.underlying47 hi 1 hz1 A l.length c ((a : Int) + 2) ((a : Int) + 2 + N) (by omega) (by omega) (by omega) hc
  rw [show ((a : Int) + 2).toNat = a + 2 by omega, show ((a : Int) + 2 + N).toNat - (a + 2) = N by omega] at hsl
  unfold cutA at HQ
  generalize (if c = a + 2 then A else A.map (·.add ((a + 2) * 1))) = A' at HQ hsl
  clear h hB hg hr hc hb hN hcut hz0 hz1 hz2 hi
  go_enter Try.func39, Try.ntmps39
  go_wp2_with (first | (go_at_call 41; refine (mword_yes w0 _ g A c l a 2 HB.out HG.out HR0.out HC.out HBY.out H.out (.inr (.inl rfl)) hy (by omega)).mono ?_; rintro e w1 ⟨rfl, hr, hf⟩; rw [HN.out]; obtain ⟨q0, q1, q2, q3, q4⟩ := hr.cells; have HR := Aside0.mk hr; have HF := Aside0.mk hf; clear hr hf))
  go_quiet (fail)
  go_wp2
  have HR2 := Aside0.mk (HR.out.drewN nq)
  have HF2 := Aside0.mk (HF.out.drewN nq)
  generalize w1.drewN nq = w2 at HR2 HF2 ⊢
  clear q0 q1 q2 q3 q4 HR HF
  refine start_ (n := 18) (S := fun w' => w'.cell? ⟨g, 0, none⟩ = some (.slice A l.length c) ∧ w'.cell? ⟨g, 1, none⟩ = some (.int .i64 ((a : Int) + 2))) (ds := []) #[false, false, false, false, false, false, false, false, false, false, false, false, false, false, false, false, false, false] (by kernel_rfl) rfl rfl ⟨HR2.out.cells.1, HR2.out.cells.2.1⟩ (fun hHeld => ?_)
  refine pure_ (i := 1) (N := some 46) (v := ?_) (a' := ?_) #[false, true, false, false, false, false, false, false, false, false, false, false, false, false, false, false, false, false] rfl rfl (by kernel_rfl) (fun _ _ _ h => h) (Or.inl ⟨by rfl, ?_⟩) ?_ ?_
  rotate_left
  · intro w'
    go_simp
    with_reducible rfl
  rotate_left
  · simp only [Act.put, List.setIfInBounds_toArray, List.set_cons_zero, List.set_cons_succ, i64_w, i32_w]
    rfl
  refine pure_ (i := 2) (N := some 47) (v := ?_) (a' := ?_) #[false, true, true, false, false, false, false, false, false, false, false, false, false, false, false, false, false, false] rfl rfl (by kernel_rfl) (fun _ _ _ h => h) (Or.inl ⟨by rfl, ?_⟩) ?_ ?_
  rotate_left
  · intro w'
    go_simp
    with_reducible rfl
  rotate_left
  · simp only [Act.put, List.setIfInBounds_toArray, List.set_cons_zero, List.set_cons_succ, i64_w, i32_w]
    rfl
  refine pure_ (i := 3) (N := some 48) (v := ?_) (a' := ?_) #[false, true, true, true, false, false, false, false, false, false, false, false, false, false, false, false, false, false] rfl rfl (by kernel_rfl) (fun _ _ _ h => h) (Or.inl ⟨by rfl, ?_⟩) ?_ ?_
  rotate_left
  · intro w'
    go_simp
    with_reducible rfl
  rotate_left
  · simp only [Act.put, List.setIfInBounds_toArray, List.set_cons_zero, List.set_cons_succ, i64_w, i32_w]
    rfl
  refine pure_ (i := 5) (N := some 50) (v := ?_) (a' := ?_) #[false, true, true, true, false, true, false, false, false, false, false, false, false, false, false, false, false, false] rfl rfl (by kernel_rfl) (fun _ _ _ h => h) (Or.inl ⟨by rfl, ?_⟩) ?_ ?_
  rotate_left
  · intro w'
    go_simp
    with_reducible rfl
  rotate_left
  · simp only [Act.put, List.setIfInBounds_toArray, List.set_cons_zero, List.set_cons_succ, i64_w, i32_w]
    rfl
  refine pure_ (i := 6) (N := some 51) (v := ?_) (a' := ?_) #[false, true, true, true, false, true, true, false, false, false, false, false, false, false, false, false, false, false] rfl rfl (by kernel_rfl) (fun _ _ _ h => h) (Or.inl ⟨by rfl, ?_⟩) ?_ ?_
  rotate_left
  · intro w'
    go_simp
    with_reducible rfl
  rotate_left
  · simp only [Act.put, List.setIfInBounds_toArray, List.set_cons_zero, List.set_cons_succ, i64_w, i32_w]
    rfl
  refine pure_ (i := 7) (N := some 52) (v := ?_) (a' := ?_) #[false, true, true, true, false, true, true, true, false, false, false, false, false, false, false, false, false, false] rfl rfl (by kernel_rfl) (fun _ _ _ h => h) (Or.inl ⟨by rfl, ?_⟩) ?_ ?_
  rotate_left
  · intro w'
    go_simp
    with_reducible rfl
  rotate_left
  · simp only [Act.put, List.setIfInBounds_toArray, List.set_cons_zero, List.set_cons_succ, i64_w, i32_w]
    rfl
  refine pure_ (i := 9) (N := some 54) (v := ?_) (a' := ?_) #[false, true, true, true, false, true, true, true, false, true, false, false, false, false, false, false, false, false] rfl rfl (by kernel_rfl) (fun _ _ _ h => h) (Or.inl ⟨by rfl, ?_⟩) ?_ ?_
  rotate_left
  · intro w'
    go_simp
    with_reducible rfl
  rotate_left
  · simp only [Act.put, List.setIfInBounds_toArray, List.set_cons_zero, List.set_cons_succ, i64_w, i32_w]
    rfl
  refine pure_ (i := 10) (N := some 55) (v := ?_) (a' := ?_) #[false, true, true, true, false, true, true, true, false, true, true, false, false, false, false, false, false, false] rfl rfl (by kernel_rfl) (fun _ _ _ h => h) (Or.inl ⟨by rfl, ?_⟩) ?_ ?_
  rotate_left
  · intro w'
    go_simp
    with_reducible rfl
  rotate_left
  · simp only [Act.put, List.setIfInBounds_toArray, List.set_cons_zero, List.set_cons_succ, i64_w, i32_w]
    rfl
  refine pure_ (i := 11) (N := some 56) (v := ?_) (a' := ?_) #[false, true, true, true, false, true, true, true, false, true, true, true, false, false, false, false, false, false] rfl rfl (by kernel_rfl) (fun _ _ _ h => h) (Or.inl ⟨by rfl, ?_⟩) ?_ ?_
  rotate_left
  · intro w'
    go_simp
    with_reducible rfl
  rotate_left
  · simp only [Act.put, List.setIfInBounds_toArray, List.set_cons_zero, List.set_cons_succ, i64_w, i32_w]
    rfl
  refine pure_ (i := 13) (N := some 58) (v := ?_) (a' := ?_) #[false, true, true, true, false, true, true, true, false, true, true, true, false, true, false, false, false, false] rfl rfl (by kernel_rfl) (fun _ _ _ h => h) (Or.inl ⟨by rfl, ?_⟩) ?_ ?_
  rotate_left
  · intro w'
    go_simp
    with_reducible rfl
  rotate_left
  · simp only [Act.put, List.setIfInBounds_toArray, List.set_cons_zero, List.set_cons_succ, i64_w, i32_w]
    rfl
  refine take_ (i := 4) (N := some 49) (v := ?_) (a' := ?_) #[false, true, true, true, true, true, true, true, false, true, true, true, false, true, false, false, false, false] rfl rfl (by kernel_rfl) (fun _ _ _ h => h) (Or.inl ⟨by rfl, ?_⟩) hHeld ?_ ?_
  rotate_left
  · rintro w' ⟨s0, s1⟩
    go_simp
    with_reducible rfl
  rotate_left
  · simp only [Act.put, List.setIfInBounds_toArray, List.set_cons_zero, List.set_cons_succ, i64_w, i32_w]
    rfl
  refine take_ (i := 8) (N := some 53) (v := ?_) (a' := ?_) #[false, true, true, true, true, true, true, true, true, true, true, true, false, true, false, false, false, false] rfl rfl (by kernel_rfl) (fun _ _ _ h => h) (Or.inl ⟨by rfl, ?_⟩) hHeld ?_ ?_
  rotate_left
  · rintro w' ⟨s0, s1⟩
    go_simp
    with_reducible rfl
  rotate_left
  · simp only [Act.put, List.setIfInBounds_toArray, List.set_cons_zero, List.set_cons_succ, i64_w, i32_w]
    rfl
  refine take_ (i := 12) (N := some 57) (v := ?_) (a' := ?_) #[false, true, true, true, true, true, true, true, true, true, true, true, true, true, false, false, false, false] rfl rfl (by kernel_rfl) (fun _ _ _ h => h) (Or.inl ⟨by rfl, ?_⟩) hHeld ?_ ?_
  rotate_left
  · rintro w' ⟨s0, s1⟩
    go_simp
    with_reducible rfl
  rotate_left
  · simp only [Act.put, List.setIfInBounds_toArray, List.set_cons_zero, List.set_cons_succ, i64_w, i32_w]
    rfl
  refine pure_ (i := 14) (N := some 59) (v := ?_) (a' := ?_) #[false, true, true, true, true, true, true, true, true, true, true, true, true, true, true, false, false, false] rfl rfl (by kernel_rfl) (fun _ _ _ h => h) (Or.inl ⟨by rfl, ?_⟩) ?_ ?_
  rotate_left
  · intro w'
    go_simp
    with_reducible rfl
  rotate_left
  · simp only [Act.put, List.setIfInBounds_toArray, List.set_cons_zero, List.set_cons_succ, i64_w, i32_w]
    rfl
  refine pure_ (i := 15) (N := some 60) (v := ?_) (a' := ?_) #[false, true, true, true, true, true, true, true, true, true, true, true, true, true, true, true, false, false] rfl rfl (by kernel_rfl) (fun _ _ _ h => h) (Or.inl ⟨by rfl, ?_⟩) ?_ ?_
  rotate_left
  · intro w'
    go_simp
    with_reducible rfl
  rotate_left
  · simp only [Act.put, List.setIfInBounds_toArray, List.set_cons_zero, List.set_cons_succ, i64_w, i32_w]
    rfl
  refine one_ (i := 0) (N := some 45) #[true, true, true, true, true, true, true, true, true, true, true, true, true, true, true, true, false, false] rfl rfl (by kernel_rfl) (by decide) (fun K hK => ?_)
  refine lit_step w.heap.size (by rfl) 45 rfl ?hr HF2.out.drew.size ?_
  (case hr => first | (go_simp; done) | (go_simp; rfl))
  intro v3 w3 hr3 hg3
  have HO3 := Aside0.mk hr3
  have HR3 := Aside0.mk (show Mb w3 g A l.length c (a + 2 : Nat) (-1) from (Fr.new hg3).blk HR2.out (fun h => h))
  have HF3 := Aside0.mk (HF2.out.drew.trans (Fr.new hg3) (fun _ h => h.elim))
  clear hr3 hg3
  refine hK.out _ _ ⟨HR3.out.cells.1, HR3.out.cells.2.1⟩ (fun hHeld => ?_)
  clear hK K
  refine norm_ (a' := ?_) ?_ ?_
  rotate_left
  · show Act.put _ (some 45) _ = _
    simp only [Act.put, List.setIfInBounds_toArray, List.set_cons_zero, List.set_cons_succ, i64_w, i32_w]
    rfl
  refine one_ (i := 16) (N := some 61) #[true, true, true, true, true, true, true, true, true, true, true, true, true, true, true, true, true, false] rfl rfl (by kernel_rfl) (by decide) (fun K hK => ?_)
  refine app_step w.heap.size (by rfl) 45 60 rfl v3 [] _ A' N (c - (a + 2)) (by rfl) (by rfl) HO3.out (Kd.C_below HQ.out (HF3.out.belowOf HB.out (fun k (hk : k = g) => by have := HG.out; omega) HB.out.size)) HF3.out.size ?hl ?_
  (case hl => simp; omega)
  intro v5 w5 hr5 hg5
  rw [List.nil_append] at hr5
  have HO5 := Aside0.mk hr5
  have HF5 := Aside0.mk (HF3.out.own HO3.out (Nat.le_refl _) hg5)
  have HR5 := Aside0.mk (show Mb w5 g A l.length c (a + 2 : Nat) (-1) from blk_grown HR3.out hg5 (Kd.R_ne HO3.out HR3.out (by decide)))
  clear hr5 hg5
  refine hK.out _ _ ⟨HR5.out.cells.1, HR5.out.cells.2.1⟩ (fun hHeld => ?_)
  clear hK K
  refine norm_ (a' := ?_) ?_ ?_
  rotate_left
  · show Act.put _ (some 61) _ = _
    simp only [Act.put, List.setIfInBounds_toArray, List.set_cons_zero, List.set_cons_succ, i64_w, i32_w]
    rfl
  refine pure_ (i := 17) (N := some 7) (v := ?_) (a' := ?_) #[true, true, true, true, true, true, true, true, true, true, true, true, true, true, true, true, true, true] rfl rfl (by kernel_rfl) (fun _ _ _ h => h) (Or.inl ⟨by rfl, ?_⟩) ?_ ?_
  rotate_left
  · intro w'
    go_simp
    with_reducible rfl
  rotate_left
  · simp only [Act.put, List.setIfInBounds_toArray, List.set_cons_zero, List.set_cons_succ, i64_w, i32_w]
    rfl
  refine done_ (by kernel_rfl) ?_
  obtain ⟨r0, r1, r2, r3, r4⟩ := HR5.out.cells
  go_wp2
  go_ret
  exact ⟨_, rfl, ((Fr.refl (At g) w5).setAt 1 _).Rlow HO5.out (fun k (hk : k = g) => by omega), HR5.out.set1 _, HF5.out.setAt _ _⟩

end Go.Proofs.Ythlcognpfangkaa
