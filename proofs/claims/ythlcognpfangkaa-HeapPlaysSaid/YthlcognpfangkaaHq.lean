/- A heap of whole numbers: the walks of New, Len, Peek, Push, Pop (no condition but the state). -/
import Derived.Test.YthlcognpfangkaaHs
namespace Go.Proofs.Ythlcognpfangkaa
open Go.RowKit Go.Proofs.YthlcognpfangkaaW.PrintWords Go.Proofs.YthlcognpfangkaaW.PrintLast Go.Proofs.YthlcognpfangkaaW.PrintMore
set_option linter.unusedVariables false
set_option linter.unusedSimpArgs false
attribute [local go_sem] max2_int min2_int max_two min_two

theorem info128 : (Try.prog.info? 128).map (fun i => (i.zero, i.size, i.bytes)) = some (some (.agg #[.int .i64 0, .int .i64 0]), 2, 16) := by kernel_rfl
theorem HI128 : ∃ i, Try.prog.info? 128 = some i := by
  obtain ⟨i0, hi, _⟩ := info_parts info128
  exact ⟨i0, hi⟩
section
variable {ops : Array Oper} {o : Oper} {a : Act} {Kc : Act → World → Prop} {Q : Exit → Act → World → Prop}
/-- append(l, e) as one step of a region that draws. -/
theorem app_e2_step {W : World} (base : Nat) (hw : Region.wanted o (yielded ops a.tmps) = true) (s x : Tmp) (ho : o.op = .call { callee := .builtin .append, args := #[.tmp s, .tmp x], argTypes := #[124, 124] })
    (v : Value) (xs : List (Int × Int)) (e1 e2 : Int) (hs : a.eval (.tmp s) = v) (hx : a.eval (.tmp x) = .slice (some ⟨W.heap.size, 0, none⟩) 1 1)
    (HO : Kd.R E2 128 W base (fun _ => True) v xs) (hbase : base ≤ W.heap.size) (hl : (xs.length + 1) * 16 ≤ 140737488355328)
    (h : ∀ v1 w1, Kd.R E2 128 w1 base (fun _ => True) v1 (xs ++ [(e1, e2)]) → W.grownBy w1 v.ownBlock → Kc (a.put o.dst v1) w1) : if Region.wanted o (yielded ops a.tmps) = true then Oper.wp Try.prog o a (W.alloc (.cells #[.int .i64 e1, .int .i64 e2] 128)) Kc Q else Kc (a.put o.dst undef) (W.alloc (.cells #[.int .i64 e1, .int .i64 e2] 128)) :=
  Kd.R_append_step E2 (w0 := W) base hw (.tmp s) (.tmp x) 124 128 (.agg #[.int .i64 0, .int .i64 0]) 16 ho Try.underlying124 info128 (by kernel_rfl) (by decide) (by omega) v xs (e1, e2) [.int .i64 e1, .int .i64 e2] (fun _ => True) (fun _ => False) hs hx ⟨[.int .i64 e1], [.int .i64 e2], rfl, rfl, rfl⟩ (fun _ hk => hk.elim) (fun _ _ => trivial) HO (Below.refl _ _) hbase hl (fun v1 w1 h1 _ h2 _ => h v1 w1 h1 h2)
end

theorem hnew {w0 : World} (w : World) (f : FuncId) (caps : Array Value) (hfr : Fr No w0 w) :
    Calls Try.prog 26 #[.func (.func f) #[] caps] w fun e w' => ∃ g, e = .returned (.pointer (some ⟨g, 0, none⟩)) ∧ HI w0 w' g (.func (.func f) #[] caps) none 0 [] 0 := by
  have HFR := Aside0.mk hfr
  have hu := Try.underlying126
  clear hfr
  go_enter Try.func26, Try.ntmps26
  go_wp2
  go_ret
  exact ⟨_, rfl, ⟨blk_new w _, Kd.R_nil _ _ _ _ _, HFR.out.size, HFR.out.alloc _⟩⟩

section
variable {w0 w : World} {g : Nat} {fv : Value} {A : Option Addr} {c : Nat} {l : List (Int × Int)} {t : Int}
theorem HI.len (h : HI w0 w g fv A c l t) : Calls Try.prog 81 #[.pointer (some ⟨g, 0, none⟩)] w fun e w' => e = .returned (.int .i64 l.length) ∧ w = w' := by
  obtain ⟨q0, q1, q2⟩ := h.hb.cells
  clear h q0 q2
  go_enter Try.func81, Try.ntmps81
  go_wp2
  go_ret
  exact ⟨rfl, rfl⟩
theorem HI.peek_no (h : HI w0 w g fv A c l t) (hl : l.length = 0) : Calls Try.prog 80 #[.pointer (some ⟨g, 0, none⟩)] w fun e w' => e = .returned (.tuple #[.int .i64 0, .bool false]) ∧ w = w' := by
  obtain ⟨q0, q1, q2⟩ := h.hb.cells
  rw [hl] at q1
  clear h q0 q2 hl
  go_enter Try.func80, Try.ntmps80
  go_wp2
  go_ret2
  exact ⟨rfl, rfl⟩
theorem HI.peek (h : HI w0 w g fv A c l t) (hl : 0 < l.length) : Calls Try.prog 80 #[.pointer (some ⟨g, 0, none⟩)] w fun e w' => e = .returned (.tuple #[.int .i64 (l.getD 0 (0, 0)).1, .bool true]) ∧ w = w' := by
  obtain ⟨gr, rfl⟩ := h.form hl
  obtain ⟨q0, q1, q2⟩ := h.hb.cells
  obtain ⟨a0, _, _, _⟩ := E2_elem h.r 0 hl
  have hb : ((l.length : Int) == 0) = false := by simp; intro e; rw [e] at hl; simp at hl
  have hn : (0 : Int) < l.length := by omega
  rw [Nat.zero_mul] at a0
  generalize (l.getD 0 (0, 0)).1 = x at a0 ⊢
  generalize l.length = n at q1 hb hn hl
  clear h q0 q2
  go_enter Try.func80, Try.ntmps80
  go_wp2
  go_ret2
  exact ⟨rfl, rfl⟩
end


set_option maxHeartbeats 8000000 in
set_option maxRecDepth 100000 in
theorem HI.push {w0 w : World} {g : Nat} {f : FuncId} {caps : Array Value} {A : Option Addr} {c : Nat} {l : List (Int × Int)} {t : Int} {κ : Int → Int} {D : Int → Prop} (h : HI w0 w g (.func (.func f) #[] caps) A c l t) (hv : LessV w0 (.func (.func f) #[] caps) κ D) (hD : ∀ e ∈ l, D e.1) (x : Int) (hx : D x) (hh : HeapL (kE κ) tE (0, 0) l) (ht0 : 0 ≤ t) (ht1 : t ≤ 1000000) (hl : l.length ≤ 1000000) :
    Calls Try.prog 28 #[.pointer (some ⟨g, 0, none⟩), .int .i64 x] w fun e w' => e = .returned (.tuple #[]) ∧ ∃ A' c' l', HI w0 w' g (.func (.func f) #[] caps) A' c' l' (t + 1) ∧ HeapL (kE κ) tE (0, 0) l' ∧ l'.Perm (l ++ [(x, t + 1)]) := by
  have hs1 : IntKind.i64.wrap (t + 1) = t + 1 := IntWalk.i64_in _ (by omega)
  have H := Aside0.mk h
  have HV := Aside0.mk hv
  have HHD := Aside0.mk (show ∀ e ∈ l ++ [(x, t + 1)], D e.1 from fun e he => (List.mem_append.1 he).elim (hD e) (fun he => by rw [List.mem_singleton.1 he]; exact hx))
  have HU := Aside0.mk (UpL.start hh (x, t + 1))
  have HLN := Aside0.mk (show (l.length + 1) * 16 ≤ 140737488355328 by omega)
  have HL9 := Aside0.mk (show (l ++ [(x, t + 1)]).length ≤ 1000001 by simp; omega)
  obtain ⟨q0, q1, q2⟩ := h.hb.cells
  obtain ⟨f1, f2⟩ := h.hb.free
  have hf9 := (Fr.refl (At g) w).setAt 2 (.int .i64 (t + 1))
  have H1 := Aside0.mk (show HI w0 (w.setCell ⟨g, 2, none⟩ (.int .i64 (t + 1))) g (.func (.func f) #[] caps) A c l (t + 1) from ⟨h.hb.set2 _, Kd.R_set h.r h.hb (by intro q hq; simp [Kd.pair, Kd.int, Kd.scalar] at hq; omega) 2 _, h.ge, h.fr.trans hf9 (fun k (hk : k = g) => .inr (by rw [hk]; exact h.ge))⟩)
  clear h hv hD hx hh q0 q1 f1 hf9 ht0 ht1
  go_enter Try.func28, Try.ntmps28
  go_wp2_with (fail)
  generalize w.setCell ⟨g, 2, none⟩ (.int .i64 (t + 1)) = w1 at H1 ⊢
  clear q2 f2 hs1
  obtain ⟨q0, q1, q2⟩ := H1.out.hb.cells
  have HD := Aside0.mk (H1.out.no (Fr.refl No w1).drew)
  have HDA := Aside0.mk (HD.out.no ((Fr.refl No w1.drew).alloc (.cells #[.int .i64 x, .int .i64 (t + 1)] 128)))
  have q1a := HDA.out.hb.cells.2.1
  have q2a := HDA.out.hb.cells.2.2
  clear q0
  refine start_ (n := 16) (S := fun w' => w'.cell? ⟨g, 1, none⟩ = some (.slice A l.length c) ∧ w'.cell? ⟨g, 2, none⟩ = some (.int .i64 (t + 1))) (ds := [15]) #[false, false, false, false, false, false, false, false, false, false, false, false, false, false, false, false] (by kernel_rfl) rfl rfl ⟨q1, q2⟩ (fun hHeld => ?_)
  refine pure_ (i := 0) (N := some 12) (v := ?_) (a' := ?_) #[true, false, false, false, false, false, false, false, false, false, false, false, false, false, false, false] rfl rfl (by kernel_rfl) (fun _ _ _ h => h) (Or.inl ⟨by rfl, ?_⟩) ?_ ?_
  rotate_left
  · intro w'
    go_simp
    with_reducible rfl
  rotate_left
  · simp only [Act.put, List.setIfInBounds_toArray, List.set_cons_zero, List.set_cons_succ, i64_w, i32_w]
    rfl
  refine pure_ (i := 1) (N := some 13) (v := ?_) (a' := ?_) #[true, true, false, false, false, false, false, false, false, false, false, false, false, false, false, false] rfl rfl (by kernel_rfl) (fun _ _ _ h => h) (Or.inl ⟨by rfl, ?_⟩) ?_ ?_
  rotate_left
  · intro w'
    go_simp
    with_reducible rfl
  rotate_left
  · simp only [Act.put, List.setIfInBounds_toArray, List.set_cons_zero, List.set_cons_succ, i64_w, i32_w]
    rfl
  refine pure_ (i := 2) (N := some 14) (v := ?_) (a' := ?_) #[true, true, true, false, false, false, false, false, false, false, false, false, false, false, false, false] rfl rfl (by kernel_rfl) (fun _ _ _ h => h) (Or.inl ⟨by rfl, ?_⟩) ?_ ?_
  rotate_left
  · intro w'
    go_simp
    with_reducible rfl
  rotate_left
  · simp only [Act.put, List.setIfInBounds_toArray, List.set_cons_zero, List.set_cons_succ, i64_w, i32_w]
    rfl
  refine pure_ (i := 3) (N := some 15) (v := ?_) (a' := ?_) #[true, true, true, true, false, false, false, false, false, false, false, false, false, false, false, false] rfl rfl (by kernel_rfl) (fun _ _ _ h => h) (Or.inl ⟨by rfl, ?_⟩) ?_ ?_
  rotate_left
  · intro w'
    go_simp
    with_reducible rfl
  rotate_left
  · simp only [Act.put, List.setIfInBounds_toArray, List.set_cons_zero, List.set_cons_succ, i64_w, i32_w]
    rfl
  refine pure_ (i := 5) (N := some 17) (v := ?_) (a' := ?_) #[true, true, true, true, false, true, false, false, false, false, false, false, false, false, false, false] rfl rfl (by kernel_rfl) (fun _ _ _ h => h) (Or.inl ⟨by rfl, ?_⟩) ?_ ?_
  rotate_left
  · intro w'
    go_simp
    with_reducible rfl
  rotate_left
  · simp only [Act.put, List.setIfInBounds_toArray, List.set_cons_zero, List.set_cons_succ, i64_w, i32_w]
    rfl
  refine pure_ (i := 6) (N := some 18) (v := ?_) (a' := ?_) #[true, true, true, true, false, true, true, false, false, false, false, false, false, false, false, false] rfl rfl (by kernel_rfl) (fun _ _ _ h => h) (Or.inl ⟨by rfl, ?_⟩) ?_ ?_
  rotate_left
  · intro w'
    go_simp
    with_reducible rfl
  rotate_left
  · simp only [Act.put, List.setIfInBounds_toArray, List.set_cons_zero, List.set_cons_succ, i64_w, i32_w]
    rfl
  refine pure_ (i := 7) (N := some 19) (v := ?_) (a' := ?_) #[true, true, true, true, false, true, true, true, false, false, false, false, false, false, false, false] rfl rfl (by kernel_rfl) (fun _ _ _ h => h) (Or.inl ⟨by rfl, ?_⟩) ?_ ?_
  rotate_left
  · intro w'
    go_simp
    with_reducible rfl
  rotate_left
  · simp only [Act.put, List.setIfInBounds_toArray, List.set_cons_zero, List.set_cons_succ, i64_w, i32_w]
    rfl
  refine pure_ (i := 8) (N := some 20) (v := ?_) (a' := ?_) #[true, true, true, true, false, true, true, true, true, false, false, false, false, false, false, false] rfl rfl (by kernel_rfl) (fun _ _ _ h => h) (Or.inl ⟨by rfl, ?_⟩) ?_ ?_
  rotate_left
  · intro w'
    go_simp
    with_reducible rfl
  rotate_left
  · simp only [Act.put, List.setIfInBounds_toArray, List.set_cons_zero, List.set_cons_succ, i64_w, i32_w]
    rfl
  refine take_ (i := 4) (N := some 16) (v := ?_) (a' := ?_) #[true, true, true, true, true, true, true, true, true, false, false, false, false, false, false, false] rfl rfl (by kernel_rfl) (fun _ _ _ h => h) (Or.inl ⟨by rfl, ?_⟩) hHeld ?_ ?_
  rotate_left
  · rintro w' ⟨s0, s1⟩
    go_simp
    with_reducible rfl
  rotate_left
  · simp only [Act.put, List.setIfInBounds_toArray, List.set_cons_zero, List.set_cons_succ, i64_w, i32_w]
    rfl
  refine take_ (i := 9) (N := some 21) (v := ?_) (a' := ?_) #[true, true, true, true, true, true, true, true, true, true, false, false, false, false, false, false] rfl rfl (by kernel_rfl) (fun _ _ _ h => h) (Or.inl ⟨by rfl, ?_⟩) hHeld ?_ ?_
  rotate_left
  · rintro w' ⟨s0, s1⟩
    go_simp
    with_reducible rfl
  rotate_left
  · simp only [Act.put, List.setIfInBounds_toArray, List.set_cons_zero, List.set_cons_succ, i64_w, i32_w]
    rfl
  refine pure_ (i := 10) (N := some 22) (v := ?_) (a' := ?_) #[true, true, true, true, true, true, true, true, true, true, true, false, false, false, false, false] rfl rfl (by kernel_rfl) (fun _ _ _ h => h) (Or.inl ⟨by rfl, ?_⟩) ?_ ?_
  rotate_left
  · intro w'
    go_simp
    with_reducible rfl
  rotate_left
  · simp only [Act.put, List.setIfInBounds_toArray, List.set_cons_zero, List.set_cons_succ, i64_w, i32_w]
    rfl
  refine one_ (i := 11) (N := some 23) #[true, true, true, true, true, true, true, true, true, true, true, true, false, false, false, false] rfl rfl (by kernel_rfl) (by decide) (fun K hK => ?_)
  refine value_ (w1 := ?_) (v := ?_) (by rfl) rfl ?_ ?_
  rotate_left 2
  · go_simp
    constructor
    · rfl
    · rfl
  refine hK.out _ _ ⟨q1a, q2a⟩ (fun hHeld => ?_)
  clear hK K
  refine norm_ (a' := ?_) ?_ ?_
  rotate_left
  · show Act.put _ (some 23) _ = _
    simp only [Act.put, List.setIfInBounds_toArray, List.set_cons_zero, List.set_cons_succ, i64_w, i32_w]
    rfl
  refine one_ (i := 12) (N := some 24) #[true, true, true, true, true, true, true, true, true, true, true, true, true, false, false, false] rfl rfl (by kernel_rfl) (by decide) (fun K hK => ?_)
  refine app_e2_step w0.heap.size (by rfl) 16 23 (by rfl) (.slice A l.length c) l x (t + 1) (by rfl) (by rfl) HD.out.r HD.out.fr.size HLN.out ?_
  intro v5 w5 hr5 hg5
  obtain ⟨A5, c5, e5⟩ := Kd.R_slice hr5
  rw [List.length_append, List.length_singleton] at e5
  subst e5
  have B5 := Aside0.mk (show Hb w5 g (.func (.func f) #[] caps) (.slice A l.length c) (t + 1) from blk_grown HD.out.hb hg5 (Kd.R_ne HD.out.r HD.out.hb (by decide)))
  have R5 := Aside0.mk hr5
  have F5 := Aside0.mk (HD.out.fr.grown hg5 (fun q hq => .inr (Kd.R_base HD.out.r q hq)))
  obtain ⟨y0, y1, y2⟩ := B5.out.cells
  obtain ⟨f1, f2⟩ := B5.out.free
  clear hr5 hg5 y0
  refine hK.out _ _ ⟨B5.out.cells.2.1, B5.out.cells.2.2⟩ (fun hHeld => ?_)
  clear hK K
  refine norm_ (a' := ?_) ?_ ?_
  rotate_left
  · show Act.put _ (some 24) _ = _
    simp only [Act.put, List.setIfInBounds_toArray, List.set_cons_zero, List.set_cons_succ, i64_w, i32_w]
    rfl
  refine pure_ (i := 13) (N := some 25) (v := ?_) (a' := ?_) #[true, true, true, true, true, true, true, true, true, true, true, true, true, true, false, false] rfl rfl (by kernel_rfl) (fun _ _ _ h => h) (Or.inl ⟨by rfl, ?_⟩) ?_ ?_
  rotate_left
  · intro w'
    go_simp
    with_reducible rfl
  rotate_left
  · simp only [Act.put, List.setIfInBounds_toArray, List.set_cons_zero, List.set_cons_succ, i64_w, i32_w]
    rfl
  refine pure_ (i := 14) (N := some 26) (v := ?_) (a' := ?_) #[true, true, true, true, true, true, true, true, true, true, true, true, true, true, true, false] rfl rfl (by kernel_rfl) (fun _ _ _ h => h) (Or.inl ⟨by rfl, ?_⟩) ?_ ?_
  rotate_left
  · intro w'
    go_simp
    with_reducible rfl
  rotate_left
  · simp only [Act.put, List.setIfInBounds_toArray, List.set_cons_zero, List.set_cons_succ, i64_w, i32_w]
    rfl
  refine last_ (i := 15) (N := none) #[true, true, true, true, true, true, true, true, true, true, true, true, true, true, true, true] rfl rfl (by kernel_rfl) (by decide) (fun K hK => ?_)
  refine skip_ (w1 := ?_) (by rfl) rfl ?_ ?_
  rotate_left
  · go_simp
    rfl
  refine hK.out _ _ ?_
  clear hK K
  refine done_ (by kernel_rfl) ?_
  have HZ := Aside0.mk (show HI w0 (w5.setCell ⟨g, 1, none⟩ (.slice A5 (l.length + 1) c5)) g (.func (.func f) #[] caps) A5 c5 (l ++ [(x, t + 1)]) (t + 1) from ⟨by rw [List.length_append, List.length_singleton]; exact B5.out.set1 _, by rw [List.length_append, List.length_singleton]; exact Kd.R_set R5.out B5.out (by intro q hq; simp [Kd.pair, Kd.int, Kd.scalar] at hq; omega) 1 _, H1.out.ge, F5.out.trans ((Fr.refl (At g) w5).setAt 1 _) (fun k (hk : k = g) => .inr (by rw [hk]; exact H1.out.ge))⟩)
  clear q1 q2 q1a q2a y1 y2 f1 f2 HD HDA H1 B5 R5 F5
  have hlen : (l ++ [(x, t + 1)]).length = l.length + 1 := by simp
  have HLEN := Aside0.mk hlen
  generalize w5.setCell ⟨g, 1, none⟩ (.slice A5 (l.length + 1) c5) = w6 at HZ ⊢
  obtain ⟨z0, z1, z2⟩ := HZ.out.hb.cells
  rw [hlen] at z1
  have hs2 : IntKind.i64.wrap (((l.length : Int) + 1) - 1) = l.length := by rw [IntWalk.i64_in _ (by omega)]; omega
  clear z0 z2 hlen
  go_wp2_with (fail)
  go_loopg [4] l.length (fun kq v4 w' => ∃ l' : List (Int × Int), v4 = .int .i64 kq ∧ Aside0 (HI w0 w' g (.func (.func f) #[] caps) A5 c5 l' (t + 1)) ∧ Aside0 (UpL (kE κ) tE (0, 0) (l ++ [(x, t + 1)]) l' kq))
  case atStart => exact ⟨l ++ [(x, t + 1)], rfl, HZ, HU⟩
  case round =>
    clear HZ HU z1 hs2
    obtain ⟨l', rfl, HH, UU⟩ := hrel
    have hll := UU.out.perm.length_eq
    have HPL := Aside0.mk hll
    have hlt := UU.out.lti
    have hml := HL9.out
    rw [hll] at hlt
    have hkb : gk ≤ 1000001 := by omega
    clear hll hlt hml
    by_cases h0 : 0 < gk
    · have hb0 : decide (0 < gk) = true := decide_eq_true h0
      have hb1 : decide ((0 : Int) < gk) = true := decide_eq_true (by omega)
      have hw : IntKind.i64.wrap ((gk : Int) - 1) = ((gk - 1 : Nat) : Int) := by rw [IntWalk.i64_in _ (by omega)]; omega
      have hq : Int.tdiv (((gk - 1 : Nat) : Int)) 2 = ((par gk : Nat) : Int) := by unfold par; rfl
      have hq2 : (((gk - 1 : Nat) : Int)) / 2 = ((par gk : Nat) : Int) := by unfold par; rfl
      have hpl : par gk < l'.length ∧ gk < l'.length := ⟨by have := UU.out.lti; unfold par; omega, UU.out.lti⟩
      have HPQ := Aside0.mk hpl
      have HDL := Aside0.mk (show ∀ e ∈ l', D e.1 from fun e he => HHD.out e (UU.out.perm.mem_iff.1 he))
      clear hpl
      by_cases hc : hlt (kE κ) tE (l'.getD gk (0, 0)) (l'.getD (par gk) (0, 0))
      · have HC := Aside0.mk hc
        have HDE := Aside0.mk (decide_eq_true hc)
        clear hc
        go_wp2_with (go_at_call 84; refine (HI.ahead HH.out HV.out HDL.out gk (par gk) HPQ.out.2 HPQ.out.1).mono ?_; rw [HDE.out]; rintro e w7 ⟨rfl, hf7⟩; have H7 := Aside0.mk (HH.out.no hf7); clear hf7)
        refine (HI.swap H7.out gk (par gk) HPQ.out.2 HPQ.out.1).mono ?_
        rintro e w8 ⟨rfl, h8⟩
        have H8 := Aside0.mk h8
        have U8 := Aside0.mk (UU.out.step h0 HC.out)
        clear h8
        go_wp2_with (fail)
        go_roundg (par gk)
        case measure => unfold par; omega
        case rel => exact ⟨_, rfl, H8, U8⟩
      · have HC := Aside0.mk hc
        have HDE := Aside0.mk (decide_eq_false hc)
        clear hc
        go_wp2_with (go_at_call 84; refine (HI.ahead HH.out HV.out HDL.out gk (par gk) HPQ.out.2 HPQ.out.1).mono ?_; rw [HDE.out]; rintro e w7 ⟨rfl, hf7⟩; have H7 := Aside0.mk (HH.out.no hf7); clear hf7)
        go_end0
        exact ⟨rfl, A5, c5, l', H7.out, UU.out.done (.inr HC.out), UU.out.perm⟩
    · have hb0 : decide (0 < gk) = false := decide_eq_false h0
      have hb1 : decide ((0 : Int) < gk) = false := decide_eq_false (by omega)
      have hz : gk = 0 := by omega
      have HZ0 := Aside0.mk hz
      clear hz
      go_wp2_with (fail)
      go_end0
      exact ⟨rfl, A5, c5, l', HH.out, UU.out.done (.inl HZ0.out), UU.out.perm⟩


theorem HI.pop_no {w0 w : World} {g : Nat} {fv : Value} {A : Option Addr} {c : Nat} {l : List (Int × Int)} {t : Int} (h : HI w0 w g fv A c l t) (hl : l.length = 0) :
    Calls Try.prog 29 #[.pointer (some ⟨g, 0, none⟩)] w fun e w' => e = .returned (.tuple #[.int .i64 0, .bool false]) ∧ w = w' := by
  have H := Aside0.mk h
  have HL := Aside0.mk hl
  clear h hl
  go_enter Try.func29, Try.ntmps29
  go_wp2_with (fail)
  refine (HI.peek_no H.out HL.out).mono ?_
  rintro e w1 ⟨rfl, rfl⟩
  go_wp2
  go_ret2
  exact ⟨rfl, rfl⟩

set_option maxHeartbeats 8000000 in
set_option maxRecDepth 100000 in
theorem HI.pop {w0 w : World} {g : Nat} {f : FuncId} {caps : Array Value} {A : Option Addr} {c : Nat} {l : List (Int × Int)} {t : Int} {κ : Int → Int} {D : Int → Prop} (n : Nat) (h : HI w0 w g (.func (.func f) #[] caps) A c l t) (hv : LessV w0 (.func (.func f) #[] caps) κ D) (hD : ∀ e ∈ l, D e.1) (hh : HeapL (kE κ) tE (0, 0) l) (hl : l.length = n + 1) (hl9 : n ≤ 1000000) :
    Calls Try.prog 29 #[.pointer (some ⟨g, 0, none⟩)] w fun e w' => e = .returned (.tuple #[.int .i64 (l.getD 0 (0, 0)).1, .bool true]) ∧ ∃ l', HI w0 w' g (.func (.func f) #[] caps) A c l' t ∧ HeapL (kE κ) tE (0, 0) l' ∧ l.Perm (l.getD 0 (0, 0) :: l') := by
  obtain ⟨d1, d2, d3⟩ := DnL.start hh hl
  have H := Aside0.mk h
  have HV := Aside0.mk hv
  have HPM := Aside0.mk d2
  have HDN := Aside0.mk d1
  have HR3 := Aside0.mk d3
  have HHD := Aside0.mk (show ∀ e ∈ (swp (0, 0) l 0 n).take n, D e.1 from fun e he => hD e (d2.mem_iff.2 (List.mem_cons_of_mem _ he)))
  have HL := Aside0.mk hl
  have HN9 := Aside0.mk hl9
  clear h hv hD hh hl d1 d2 d3 hl9
  generalize hx0 : (l.getD 0 (0, 0)).1 = x0
  have HX0 := Aside0.mk hx0
  clear hx0
  go_enter Try.func29, Try.ntmps29
  go_wp2_with (fail)
  refine (HI.peek H.out (by rw [HL.out]; omega)).mono ?_
  rw [HX0.out]
  rintro e w1 ⟨rfl, rfl⟩
  obtain ⟨q0, q1, q2⟩ := H.out.hb.cells
  rw [HL.out] at q1
  have hn9 := HN9.out
  have hs1 : IntKind.i64.wrap (((n + 1 : Nat) : Int) - 1) = n := by rw [IntWalk.i64_in _ (by omega)]; omega
  have hs2 : IntKind.i64.wrap (((n : Int) + 1) - 1) = n := by rw [IntWalk.i64_in _ (by omega)]; omega
  clear q0 q2
  go_wp2_with (fail)
  clear q1 hs1 hs2
  refine (HI.swap H.out 0 n (by rw [HL.out]; omega) (by rw [HL.out]; omega)).mono ?_
  rintro e w2 ⟨rfl, h2⟩
  have H2 := Aside0.mk h2
  have hls : (swp (0, 0) l 0 n).length = n + 1 := by rw [swp_length]; exact HL.out
  have hcp := (Kd.R_reads' h2.r).2.1
  rw [hls] at hcp
  have hct := cut_to (P := Try.prog) 124 128 .i64 Try.underlying124 HI128.choose_spec A (n + 1) c (n : Int) (by omega) (by omega) hcp
  rw [Int.toNat_natCast] at hct
  have hrt := Kd.R_take (m := n) h2.r (by rw [hls]; omega)
  have hb2 := h2.hb
  rw [hls] at hb2
  obtain ⟨q0, q1, q2⟩ := hb2.cells
  obtain ⟨f1, f2⟩ := hb2.free
  have HZ := Aside0.mk (show HI w0 (w2.setCell ⟨g, 1, none⟩ (.slice A n c)) g (.func (.func f) #[] caps) A c ((swp (0, 0) l 0 n).take n) t from ⟨by rw [HR3.out]; exact hb2.set1 _, by rw [HR3.out]; exact Kd.R_set hrt hb2 (by intro q hq; simp [Kd.pair, Kd.int, Kd.scalar] at hq; omega) 1 _, h2.ge, h2.fr.trans ((Fr.refl (At g) w2).setAt 1 _) (fun k (hk : k = g) => .inr (by rw [hk]; exact h2.ge))⟩)
  clear h2 hls hcp hrt hb2 q0 q2 f2 H2
  generalize (swp (0, 0) l 0 n).take n = r0 at HZ HDN HR3 HPM HHD
  go_wp2_with (fail)
  generalize w2.setCell ⟨g, 1, none⟩ (.slice A n c) = w3 at HZ ⊢
  clear q1 f1 hct
  go_loopg [7] n (fun kq v7 w' => ∃ (i : Nat) (l' : List (Int × Int)), v7 = .int .i64 i ∧ i + kq = n ∧ (i < n ∨ n = 0) ∧ Aside0 (HI w0 w' g (.func (.func f) #[] caps) A c l' t) ∧ Aside0 (DnL (kE κ) tE (0, 0) r0 l' i))
  case atStart => exact ⟨0, r0, rfl, by omega, by omega, HZ, HDN⟩
  case round =>
    clear HZ HDN
    obtain ⟨i, l', rfl, hik, hin, HH, DD⟩ := hrel
    have HLL := Aside0.mk (show l'.length = n from DD.out.perm.length_eq.trans HR3.out)
    have HDL := Aside0.mk (show ∀ e ∈ l', D e.1 from fun e he => HHD.out e (DD.out.perm.mem_iff.1 he))
    have hi9 : i ≤ 1000000 := by omega
    have HIN := Aside0.mk hin
    have HIK := Aside0.mk hik
    clear hin hik
    go_wp2_with (fail)
    go_loopg [8, 9] 2 (fun jq v8 v9 w'' => ∃ (b k : Nat), v8 = .int .i64 b ∧ v9 = .int .i64 k ∧ k + jq = 2 * i + 3 ∧ b ≤ 1000000 ∧ Aside0 (HI w0 w'' g (.func (.func f) #[] caps) A c l' t) ∧ Aside0 ((n = 0 ∧ b = i) ∨ BsL (kE κ) tE (0, 0) l' i k b))
    case atStart => exact ⟨i, 2 * i + 1, rfl, by go_num, by omega, hi9, HH, ⟨by
      rcases HIN.out with h | h
      · exact .inr (BsL.start (by rw [HLL.out]; exact h))
      · exact .inl ⟨h, rfl⟩⟩⟩
    case round =>
      clear HH
      obtain ⟨b, k, rfl, rfl, hkj, hb9, HH, BB⟩ := hrel
      by_cases hm : n < 2 * i + 3
      · have hmi : (n : Int) < 2 * (i : Int) + 3 := by omega
        by_cases ht : k < n
        · have htb : decide ((k : Int) < n) = true := decide_eq_true (by omega)
          have htb2 : decide (k < n) = true := decide_eq_true ht
          have hkn : k < n := by omega
          have BB2 := Aside0.mk (BB.out.resolve_left (fun h => by have := h.1; omega))
          have HK := Aside0.mk (show k < l'.length ∧ b < l'.length from ⟨by rw [HLL.out]; omega, BB2.out.lt⟩)
          clear BB
          have hk9 : k ≤ 1000000 := by omega
          by_cases hc : hlt (kE κ) tE (l'.getD k (0, 0)) (l'.getD b (0, 0))
          · have HC := Aside0.mk hc
            have HDE := Aside0.mk (decide_eq_true hc)
            clear hc
            go_wp2_with (fail)
            refine (HI.ahead HH.out HV.out HDL.out k b HK.out.1 HK.out.2).mono ?_
            rw [HDE.out]
            rintro e w7 ⟨rfl, hf7⟩
            have H7 := Aside0.mk (HH.out.no hf7)
            clear hf7
            go_wp2_with (fail)
            go_roundg (2 * i + 3 - (k + 1))
            case measure => omega
            case rel => exact ⟨k, k + 1, rfl, by go_num, by omega, hk9, H7, ⟨.inr (BB2.out.yes HK.out.1 HC.out)⟩⟩
          · have HC := Aside0.mk hc
            have HDE := Aside0.mk (decide_eq_false hc)
            clear hc
            go_wp2_with (fail)
            refine (HI.ahead HH.out HV.out HDL.out k b HK.out.1 HK.out.2).mono ?_
            rw [HDE.out]
            rintro e w7 ⟨rfl, hf7⟩
            have H7 := Aside0.mk (HH.out.no hf7)
            clear hf7
            go_wp2_with (fail)
            go_roundg (2 * i + 3 - (k + 1))
            case measure => omega
            case rel => exact ⟨b, k + 1, rfl, by go_num, by omega, hb9, H7, ⟨.inr (BB2.out.no HC.out)⟩⟩
        · have htb : decide ((k : Int) < n) = false := decide_eq_false (by omega)
          have htb2 : decide (k < n) = false := decide_eq_false ht
          by_cases hbi : b = i
          · have hbb : ((b : Int) == i) = true := by simp; omega
            have HBI := Aside0.mk hbi
            have HKE := Aside0.mk (show k = 2 * i + 3 ∨ l'.length ≤ k from by rw [HLL.out]; omega)
            clear hbi
            go_wp2_with (fail)
            go_ret2
            refine ⟨rfl, l', HH.out, ?_, HPM.out.trans (DD.out.perm.symm.cons _)⟩
            rcases BB.out with h | h
            · exact fun j h0 hj => by have := HLL.out; have := h.1; omega
            · exact BsL.over DD.out h HKE.out HBI.out
          · have hbb : ((b : Int) == i) = false := by simp; omega
            have BB2 := Aside0.mk (BB.out.resolve_left (fun h => hbi h.2))
            obtain ⟨n1, n2⟩ := BsL.next DD.out BB2.out (by rw [HLL.out]; omega) (by omega) hbi
            have D8 := Aside0.mk n1
            have HBL := Aside0.mk (show i < l'.length ∧ b < l'.length from ⟨by have := BB2.out.lt; omega, BB2.out.lt⟩)
            have HBN := Aside0.mk (show b < n from by rw [← HLL.out]; exact BB2.out.lt)
            clear hbi n1 BB BB2
            go_wp2_with (fail)
            refine (HI.swap HH.out i b HBL.out.1 HBL.out.2).mono ?_
            rintro e w8 ⟨rfl, h8⟩
            have H8 := Aside0.mk h8
            clear h8
            go_wp2_with (fail)
            go_roundg (n - b)
            case measure => have := HIK.out; have := HBN.out; omega
            case rel => exact ⟨b, _, rfl, by have := HBN.out; omega, .inl HBN.out, H8, D8⟩
      · have hmi : ¬ (n : Int) < 2 * (i : Int) + 3 := by omega
        by_cases ht : k < 2 * i + 3
        · have htb : decide ((k : Int) < 2 * (i : Int) + 3) = true := decide_eq_true (by omega)
          have hkn : k < n := by omega
          have BB2 := Aside0.mk (BB.out.resolve_left (fun h => by have := h.1; omega))
          have HK := Aside0.mk (show k < l'.length ∧ b < l'.length from ⟨by rw [HLL.out]; omega, BB2.out.lt⟩)
          clear BB
          have hk9 : k ≤ 1000000 := by omega
          by_cases hc : hlt (kE κ) tE (l'.getD k (0, 0)) (l'.getD b (0, 0))
          · have HC := Aside0.mk hc
            have HDE := Aside0.mk (decide_eq_true hc)
            clear hc
            go_wp2_with (fail)
            refine (HI.ahead HH.out HV.out HDL.out k b HK.out.1 HK.out.2).mono ?_
            rw [HDE.out]
            rintro e w7 ⟨rfl, hf7⟩
            have H7 := Aside0.mk (HH.out.no hf7)
            clear hf7
            go_wp2_with (fail)
            go_roundg (2 * i + 3 - (k + 1))
            case measure => omega
            case rel => exact ⟨k, k + 1, rfl, by go_num, by omega, hk9, H7, ⟨.inr (BB2.out.yes HK.out.1 HC.out)⟩⟩
          · have HC := Aside0.mk hc
            have HDE := Aside0.mk (decide_eq_false hc)
            clear hc
            go_wp2_with (fail)
            refine (HI.ahead HH.out HV.out HDL.out k b HK.out.1 HK.out.2).mono ?_
            rw [HDE.out]
            rintro e w7 ⟨rfl, hf7⟩
            have H7 := Aside0.mk (HH.out.no hf7)
            clear hf7
            go_wp2_with (fail)
            go_roundg (2 * i + 3 - (k + 1))
            case measure => omega
            case rel => exact ⟨b, k + 1, rfl, by go_num, by omega, hb9, H7, ⟨.inr (BB2.out.no HC.out)⟩⟩
        · have htb : decide ((k : Int) < 2 * (i : Int) + 3) = false := decide_eq_false (by omega)
          by_cases hbi : b = i
          · have hbb : ((b : Int) == i) = true := by simp; omega
            have HBI := Aside0.mk hbi
            have HKE := Aside0.mk (show k = 2 * i + 3 ∨ l'.length ≤ k from by rw [HLL.out]; omega)
            clear hbi
            go_wp2_with (fail)
            go_ret2
            refine ⟨rfl, l', HH.out, ?_, HPM.out.trans (DD.out.perm.symm.cons _)⟩
            rcases BB.out with h | h
            · exact fun j h0 hj => by have := HLL.out; have := h.1; omega
            · exact BsL.over DD.out h HKE.out HBI.out
          · have hbb : ((b : Int) == i) = false := by simp; omega
            have BB2 := Aside0.mk (BB.out.resolve_left (fun h => hbi h.2))
            obtain ⟨n1, n2⟩ := BsL.next DD.out BB2.out (by rw [HLL.out]; omega) (by omega) hbi
            have D8 := Aside0.mk n1
            have HBL := Aside0.mk (show i < l'.length ∧ b < l'.length from ⟨by have := BB2.out.lt; omega, BB2.out.lt⟩)
            have HBN := Aside0.mk (show b < n from by rw [← HLL.out]; exact BB2.out.lt)
            clear hbi n1 BB BB2
            go_wp2_with (fail)
            refine (HI.swap HH.out i b HBL.out.1 HBL.out.2).mono ?_
            rintro e w8 ⟨rfl, h8⟩
            have H8 := Aside0.mk h8
            clear h8
            go_wp2_with (fail)
            go_roundg (n - b)
            case measure => have := HIK.out; have := HBN.out; omega
            case rel => exact ⟨b, _, rfl, by have := HBN.out; omega, .inl HBN.out, H8, D8⟩


end Go.Proofs.Ythlcognpfangkaa
