/- A heap of whole numbers in memory: its state; the walks of the less values and of ahead (no condition but the state). -/
import Derived.Test.YthlcognpfangkaaHp
import Derived.Test.YthlcognpfangkaaWal1
namespace Go.Proofs.Ythlcognpfangkaa
open Go.RowKit Go.Proofs.YthlcognpfangkaaW.PrintWords Go.Proofs.YthlcognpfangkaaW.PrintLast Go.Proofs.YthlcognpfangkaaW.PrintMore
set_option linter.unusedVariables false
set_option linter.unusedSimpArgs false

/-- The block of a heap of whole numbers. -/
def Hb (w : World) (g : Nat) (fv v : Value) (t : Int) : Prop := w.heap[g]? = some (.cells #[fv, v, .int .i64 t] 126 (0, 0))
section
variable {w : World} {g : Nat} {fv v : Value} {t : Int}
theorem Hb.cells (h : Hb w g fv v t) : w.cell? ⟨g, 0, none⟩ = some fv ∧ w.cell? ⟨g, 1, none⟩ = some v ∧ w.cell? ⟨g, 2, none⟩ = some (.int .i64 t) :=
  ⟨(blk_cell h 0).trans rfl, (blk_cell h 1).trans rfl, (blk_cell h 2).trans rfl⟩
theorem Hb.free (h : Hb w g fv v t) : w.frozen? ⟨g, 1, none⟩ = false ∧ w.frozen? ⟨g, 2, none⟩ = false := ⟨blk_frozen h 1, blk_frozen h 2⟩
theorem Hb.set1 (h : Hb w g fv v t) (x : Value) : Hb (w.setCell ⟨g, 1, none⟩ x) g fv x t := blk_set h 1 _
theorem Hb.set2 (h : Hb w g fv v t) (x : Int) : Hb (w.setCell ⟨g, 2, none⟩ (.int .i64 x)) g fv v x := blk_set h 2 _
end
/-- Entries of whole numbers: one, and its turn. -/
abbrev E2 : Kd (Int × Int) := Kd.pair (Kd.int .i64) (Kd.int .i64)
/-- A heap that was made since w0. -/
structure HI (w0 w : World) (g : Nat) (fv : Value) (A : Option Addr) (c : Nat) (l : List (Int × Int)) (t : Int) : Prop where
  hb : Hb w g fv (.slice A l.length c) t
  r : Kd.R E2 128 w w0.heap.size (fun _ => True) (.slice A l.length c) l
  ge : w0.heap.size ≤ g
  fr : Fr No w0 w
theorem HI.no {w0 w : World} {g : Nat} {fv : Value} {A : Option Addr} {c : Nat} {l : List (Int × Int)} {t : Int} (h : HI w0 w g fv A c l t) {W : World} (hf : Fr No w W) : HI w0 W g fv A c l t :=
  ⟨hf.blk h.hb (fun h => h.elim), hf.Rlow h.r (fun _ h => h.elim), h.ge, h.fr.on hf⟩
theorem E2_elem {w : World} {base gr n c : Nat} {ok : Nat → Prop} {xs : List (Int × Int)} (h : Kd.R E2 128 w base ok (.slice (some ⟨gr, 0, none⟩) n c) xs) (i : Nat) (hi : i < n) :
    w.cell? ⟨gr, i * 2, none⟩ = some (.int .i64 (xs.getD i (0, 0)).1) ∧ w.cell? ⟨gr, i * 2 + 1, none⟩ = some (.int .i64 (xs.getD i (0, 0)).2) ∧ w.frozen? ⟨gr, i * 2, none⟩ = false ∧ w.frozen? ⟨gr, i * 2 + 1, none⟩ = false := by
  obtain ⟨cs, hl, hM, hc, hf⟩ := Kd.R_elem h (0, 0) (i : Int) (by omega) (by omega)
  rw [Int.toNat_natCast] at hM hc hf
  obtain ⟨c0, c1, rfl, h0, h1⟩ := hM
  obtain rfl := (show c0 = [Value.int .i64 _] from h0)
  obtain rfl := (show c1 = [Value.int .i64 _] from h1)
  exact ⟨hc 0 _ rfl, hc 1 _ rfl, hf 0, hf 1⟩

theorem goesV_ {ops : Array Oper} {Q : Exit → Act → World → Prop} {P : Program} {oi : Oper} {N : Option Tmp} {a : Act} {w : World} {K : Act → World → Prop} {f : FuncId} {fn : Func} {as_ : Array Operand} {ts : Array TypeId} {op : Operand} {caps : Array Value} (hf : P.funcs[f]? = some fn) (hname : (fn.name == "runtime.NumGoroutine") = false) (hb : fn.body.isSome = true) (args : Array Value)
    (hw : Region.wanted oi (yielded ops a.tmps) = true) (hN : oi.dst = N) (hop : oi.op = .call { callee := .value op, args := as_, argTypes := ts }) (hv : a.eval op = .func (.func f) #[] caps) (hargs : as_.map a.eval ++ caps = args)
    (h : Calls P f args w fun e w' => ∃ v, e = .returned v ∧ K (a.put N v) w') : if Region.wanted oi (yielded ops a.tmps) = true then Oper.wp P oi a w K Q else K (a.put N undef) w := by
  refine call_ f args hw hN ?_ h
  have he := enters_ hf hname hb args w
  unfold execOp
  simp [hop, resolve, Deferred.ofValue, invoke, hv, hargs, he]

instance {E : Type} (κ τ : E → Int) (a b : E) : Decidable (hlt κ τ a b) := by unfold hlt; infer_instance
/-- 'a < b'. -/
theorem less79 (a b : Int) (w : World) : Calls Try.prog 79 #[.int .i64 a, .int .i64 b] w fun e w' => e = .returned (.bool (decide (a < b))) ∧ w = w' := by
  go_enter Try.func79, Try.ntmps79
  go_wp2
  go_ret
  exact ⟨rfl, rfl⟩
/-- 'l[a] < l[b]', l captured. -/
theorem less27 (a b n c gc : Nat) (A : Addr) (x y : Int) (w : World) (hq : w.cell? ⟨gc, 0, none⟩ = some (.slice (some A) n c)) (ha : a < n) (hb : b < n) (hx : w.cell? (A.add a) = some (.int .i64 x)) (hy : w.cell? (A.add b) = some (.int .i64 y)) :
    Calls Try.prog 27 #[.int .i64 a, .int .i64 b, .pointer (some ⟨gc, 0, none⟩)] w fun e w' => e = .returned (.bool (decide (x < y))) ∧ Drawn0 w w' := by
  have h0 : (0 : Int) ≤ a := by omega
  have h1 : (a : Int) < n := by omega
  have h2 : (0 : Int) ≤ b := by omega
  have h3 : (b : Int) < n := by omega
  clear ha hb
  go_enter Try.func27, Try.ntmps27
  go_wp2_with (fail)
  go_quiet (fail)
  go_wp2
  go_ret
  exact ⟨rfl, ⟨⟨_, rfl⟩⟩⟩
/-- A function value that tells of two which one is less, whatever else lies in memory. -/
structure LessV (w0 : World) (fv : Value) (κ : Int → Int) (D : Int → Prop) : Prop where
  is : ∃ (f : FuncId) (fn : Func) (caps : Array Value), fv = .func (.func f) #[] caps ∧ Try.prog.funcs[f]? = some fn ∧ (fn.name == "runtime.NumGoroutine") = false ∧ fn.body.isSome = true ∧
    ∀ W, Fr No w0 W → ∀ a b : Int, D a → D b → Calls Try.prog f (#[.int .i64 a, .int .i64 b] ++ caps) W fun e w' => e = .returned (.bool (decide (κ a < κ b))) ∧ Fr No W w'
/-- The two copies, and the heap's less. -/
structure AB (W : World) (g ga gb : Nat) (fv : Value) (x1 t1 x2 t2 : Int) : Prop where
  f : W.cell? ⟨g, 0, none⟩ = some fv
  a : W.heap[ga]? = some (.cells #[.int .i64 x1, .int .i64 t1] 128 (0, 0))
  b : W.heap[gb]? = some (.cells #[.int .i64 x2, .int .i64 t2] 128 (0, 0))
section
variable {W : World} {g ga gb : Nat} {fv : Value} {x1 t1 x2 t2 : Int}
theorem AB.no (h : AB W g ga gb fv x1 t1 x2 t2) {W2 : World} (hf : Fr No W W2) : AB W2 g ga gb fv x1 t1 x2 t2 := ⟨pw_cell_below hf.no h.f, hf.blk h.a (fun h => h.elim), hf.blk h.b (fun h => h.elim)⟩
theorem AB.cells (h : AB W g ga gb fv x1 t1 x2 t2) : W.cell? ⟨g, 0, none⟩ = some fv ∧ W.cell? ⟨ga, 0, none⟩ = some (.int .i64 x1) ∧ W.cell? ⟨ga, 1, none⟩ = some (.int .i64 t1) ∧ W.cell? ⟨gb, 0, none⟩ = some (.int .i64 x2) ∧ W.cell? ⟨gb, 1, none⟩ = some (.int .i64 t2) :=
  ⟨h.f, (blk_cell h.a 0).trans rfl, (blk_cell h.a 1).trans rfl, (blk_cell h.b 0).trans rfl, (blk_cell h.b 1).trans rfl⟩
end


set_option maxHeartbeats 8000000 in
set_option maxRecDepth 100000 in
theorem aheadA {w0 w : World} {g gr : Nat} {n c i k : Nat} {t x1 t1 x2 t2 : Int} {f : FuncId} {fn : Func} {caps : Array Value} (h : Hb w g (.func (.func f) #[] caps) (.slice (some ⟨gr, 0, none⟩) n c) t) (hfr : Fr No w0 w) (hi : i < n) (hk : k < n)
    (a0 : w.cell? ⟨gr, i * 2, none⟩ = some (.int .i64 x1)) (a1 : w.cell? ⟨gr, i * 2 + 1, none⟩ = some (.int .i64 t1)) (b0 : w.cell? ⟨gr, k * 2, none⟩ = some (.int .i64 x2)) (b1 : w.cell? ⟨gr, k * 2 + 1, none⟩ = some (.int .i64 t2))
    (hf1 : Try.prog.funcs[f]? = some fn) (hf2 : (fn.name == "runtime.NumGoroutine") = false) (hf3 : fn.body.isSome = true) (h12 : ∀ W, Fr No w0 W → Calls Try.prog f (#[.int .i64 x1, .int .i64 x2] ++ caps) W fun e w' => e = .returned (.bool true) ∧ Fr No W w') :
    Calls Try.prog 84 #[.pointer (some ⟨g, 0, none⟩), .int .i64 i, .int .i64 k] w fun e w' => e = .returned (.bool true) ∧ Fr No w w' := by
  obtain ⟨q0, q1, q2⟩ := h.cells
  have hi0 : (0 : Int) ≤ i := by omega
  have hi1 : (i : Int) < n := by omega
  have hk0 : (0 : Int) ≤ k := by omega
  have hk1 : (k : Int) < n := by omega
  have Q0 := Aside0.mk q0
  have HFR := Aside0.mk hfr
  have HFN := Aside0.mk (And.intro hf1 (And.intro hf2 hf3))
  have H12 := Aside0.mk h12
  have hu := Try.underlying128
  clear h q0 q2 hi hk hfr hf1 hf2 hf3 h12
  go_enter Try.func84, Try.ntmps84
  go_wp2
  go_region_held3 (fun w' => w'.cell? ⟨g, 1, none⟩ = some (.slice (some ⟨gr, 0, none⟩) n c) ∧ w'.cell? ⟨gr, i * 2, none⟩ = some (.int .i64 x1) ∧ w'.cell? ⟨gr, i * 2 + 1, none⟩ = some (.int .i64 t1) ∧ w'.cell? ⟨gr, k * 2, none⟩ = some (.int .i64 x2) ∧ w'.cell? ⟨gr, k * 2 + 1, none⟩ = some (.int .i64 t2)) (go_keep) (fail)
  all_goals go_wp2_with (fail)
  have F1 := Aside0.mk (((Fr.refl No w).alloc (.cells #[.int .i64 x1, .int .i64 t1] 128)).alloc (.cells #[.int .i64 x2, .int .i64 t2] 128)).drew
  have K1 := Aside0.mk (show AB ((w.alloc (.cells #[.int .i64 x1, .int .i64 t1] 128)).alloc (.cells #[.int .i64 x2, .int .i64 t2] 128)).drew g w.heap.size (w.heap.size + 1) (.func (.func f) #[] caps) x1 t1 x2 t2 from ⟨pw_cell_below F1.out.no Q0.out, ((Fr.refl No _).alloc _).blk (blk_new w _) (fun h => h.elim), by have := blk_new (w.alloc (.cells #[.int .i64 x1, .int .i64 t1] 128)) (.cells #[.int .i64 x2, .int .i64 t2] 128); rw [show (w.alloc (.cells #[.int .i64 x1, .int .i64 t1] 128)).heap.size = w.heap.size + 1 from by simp] at this; exact this⟩)
  generalize ((w.alloc (.cells #[.int .i64 x1, .int .i64 t1] 128)).alloc (.cells #[.int .i64 x2, .int .i64 t2] 128)).drew = w1 at F1 K1 ⊢
  generalize w.heap.size + 1 = gb at K1 ⊢
  generalize w.heap.size = ga at K1 ⊢
  rotate_left
  have F1 := Aside0.mk (((Fr.refl No w).alloc (.cells #[.int .i64 x2, .int .i64 t2] 128)).alloc (.cells #[.int .i64 x1, .int .i64 t1] 128)).drew
  have K1 := Aside0.mk (show AB ((w.alloc (.cells #[.int .i64 x2, .int .i64 t2] 128)).alloc (.cells #[.int .i64 x1, .int .i64 t1] 128)).drew g (w.heap.size + 1) w.heap.size (.func (.func f) #[] caps) x1 t1 x2 t2 from ⟨pw_cell_below F1.out.no Q0.out, by have := blk_new (w.alloc (.cells #[.int .i64 x2, .int .i64 t2] 128)) (.cells #[.int .i64 x1, .int .i64 t1] 128); rw [show (w.alloc (.cells #[.int .i64 x2, .int .i64 t2] 128)).heap.size = w.heap.size + 1 from by simp] at this; exact this, ((Fr.refl No _).alloc _).blk (blk_new w _) (fun h => h.elim)⟩)
  generalize ((w.alloc (.cells #[.int .i64 x2, .int .i64 t2] 128)).alloc (.cells #[.int .i64 x1, .int .i64 t1] 128)).drew = w1 at F1 K1 ⊢
  generalize w.heap.size + 1 = ga at K1 ⊢
  generalize w.heap.size = gb at K1 ⊢
  rotate_left
  all_goals
    clear q1 a0 a1 b0 b1
    have KD := Aside0.mk (K1.out.no (Fr.refl No w1).drew)
    have FD := Aside0.mk ((HFR.out.on F1.out).on (Fr.refl No w1).drew)
    have EFD := Aside0.mk (F1.out.on (Fr.refl No w1).drew)
    clear K1
    refine start_ (n := 29) (S := fun w' => w'.cell? ⟨g, 0, none⟩ = some (.func (.func f) #[] caps) ∧ w'.cell? ⟨ga, 0, none⟩ = some (.int .i64 x1) ∧ w'.cell? ⟨ga, 1, none⟩ = some (.int .i64 t1) ∧ w'.cell? ⟨gb, 0, none⟩ = some (.int .i64 x2) ∧ w'.cell? ⟨gb, 1, none⟩ = some (.int .i64 t2)) (ds := []) #[false, false, false, false, false, false, false, false, false, false, false, false, false, false, false, false, false, false, false, false, false, false, false, false, false, false, false, false, false] (by kernel_rfl) rfl rfl ⟨KD.out.cells.1, KD.out.cells.2.1, KD.out.cells.2.2.1, KD.out.cells.2.2.2.1, KD.out.cells.2.2.2.2⟩ (fun hHeld => ?_)
    refine pure_ (i := 0) (N := some 23) (v := ?_) (a' := ?_) #[true, false, false, false, false, false, false, false, false, false, false, false, false, false, false, false, false, false, false, false, false, false, false, false, false, false, false, false, false] rfl rfl (by kernel_rfl) (fun _ _ _ h => h) (Or.inl ⟨by rfl, ?_⟩) ?_ ?_
    rotate_left
    · intro w'
      go_simp
      with_reducible rfl
    rotate_left
    · simp only [Act.put, List.setIfInBounds_toArray, List.set_cons_zero, List.set_cons_succ, i64_w, i32_w]
      rfl
    refine pure_ (i := 1) (N := some 24) (v := ?_) (a' := ?_) #[true, true, false, false, false, false, false, false, false, false, false, false, false, false, false, false, false, false, false, false, false, false, false, false, false, false, false, false, false] rfl rfl (by kernel_rfl) (fun _ _ _ h => h) (Or.inl ⟨by rfl, ?_⟩) ?_ ?_
    rotate_left
    · intro w'
      go_simp
      with_reducible rfl
    rotate_left
    · simp only [Act.put, List.setIfInBounds_toArray, List.set_cons_zero, List.set_cons_succ, i64_w, i32_w]
      rfl
    refine pure_ (i := 2) (N := some 25) (v := ?_) (a' := ?_) #[true, true, true, false, false, false, false, false, false, false, false, false, false, false, false, false, false, false, false, false, false, false, false, false, false, false, false, false, false] rfl rfl (by kernel_rfl) (fun _ _ _ h => h) (Or.inl ⟨by rfl, ?_⟩) ?_ ?_
    rotate_left
    · intro w'
      go_simp
      with_reducible rfl
    rotate_left
    · simp only [Act.put, List.setIfInBounds_toArray, List.set_cons_zero, List.set_cons_succ, i64_w, i32_w]
      rfl
    refine pure_ (i := 4) (N := some 27) (v := ?_) (a' := ?_) #[true, true, true, false, true, false, false, false, false, false, false, false, false, false, false, false, false, false, false, false, false, false, false, false, false, false, false, false, false] rfl rfl (by kernel_rfl) (fun _ _ _ h => h) (Or.inl ⟨by rfl, ?_⟩) ?_ ?_
    rotate_left
    · intro w'
      go_simp
      with_reducible rfl
    rotate_left
    · simp only [Act.put, List.setIfInBounds_toArray, List.set_cons_zero, List.set_cons_succ, i64_w, i32_w]
      rfl
    refine pure_ (i := 6) (N := some 29) (v := ?_) (a' := ?_) #[true, true, true, false, true, false, true, false, false, false, false, false, false, false, false, false, false, false, false, false, false, false, false, false, false, false, false, false, false] rfl rfl (by kernel_rfl) (fun _ _ _ h => h) (Or.inl ⟨by rfl, ?_⟩) ?_ ?_
    rotate_left
    · intro w'
      go_simp
      with_reducible rfl
    rotate_left
    · simp only [Act.put, List.setIfInBounds_toArray, List.set_cons_zero, List.set_cons_succ, i64_w, i32_w]
      rfl
    refine take_ (i := 3) (N := some 26) (v := ?_) (a' := ?_) #[true, true, true, true, true, false, true, false, false, false, false, false, false, false, false, false, false, false, false, false, false, false, false, false, false, false, false, false, false] rfl rfl (by kernel_rfl) (fun _ _ _ h => h) (Or.inl ⟨by rfl, ?_⟩) hHeld ?_ ?_
    rotate_left
    · rintro w' ⟨s0, s1, s2, s3, s4⟩
      go_simp
      with_reducible rfl
    rotate_left
    · simp only [Act.put, List.setIfInBounds_toArray, List.set_cons_zero, List.set_cons_succ, i64_w, i32_w]
      rfl
    refine take_ (i := 5) (N := some 28) (v := ?_) (a' := ?_) #[true, true, true, true, true, true, true, false, false, false, false, false, false, false, false, false, false, false, false, false, false, false, false, false, false, false, false, false, false] rfl rfl (by kernel_rfl) (fun _ _ _ h => h) (Or.inl ⟨by rfl, ?_⟩) hHeld ?_ ?_
    rotate_left
    · rintro w' ⟨s0, s1, s2, s3, s4⟩
      go_simp
      with_reducible rfl
    rotate_left
    · simp only [Act.put, List.setIfInBounds_toArray, List.set_cons_zero, List.set_cons_succ, i64_w, i32_w]
      rfl
    refine take_ (i := 7) (N := some 30) (v := ?_) (a' := ?_) #[true, true, true, true, true, true, true, true, false, false, false, false, false, false, false, false, false, false, false, false, false, false, false, false, false, false, false, false, false] rfl rfl (by kernel_rfl) (fun _ _ _ h => h) (Or.inl ⟨by rfl, ?_⟩) hHeld ?_ ?_
    rotate_left
    · rintro w' ⟨s0, s1, s2, s3, s4⟩
      go_simp
      with_reducible rfl
    rotate_left
    · simp only [Act.put, List.setIfInBounds_toArray, List.set_cons_zero, List.set_cons_succ, i64_w, i32_w]
      rfl
    refine one_ (i := 8) (N := some 31) #[true, true, true, true, true, true, true, true, true, false, false, false, false, false, false, false, false, false, false, false, false, false, false, false, false, false, false, false, false] rfl rfl (by kernel_rfl) (by decide) (fun K hK => ?_)
    refine goesV_ HFN.out.1 HFN.out.2.1 HFN.out.2.2 (#[.int .i64 x1, .int .i64 x2] ++ caps) (by rfl) rfl rfl (by rfl) (by simp only [List.map_toArray, List.map_cons, List.map_nil]; rfl) ?_
    with_reducible refine (H12.out _ FD.out).mono ?_
    rintro e w8 ⟨rfl, hf8⟩
    refine ⟨_, rfl, ?_⟩
    have K8 := Aside0.mk (KD.out.no hf8)
    have F8 := Aside0.mk (FD.out.on hf8)
    have EF8 := Aside0.mk (EFD.out.on hf8)
    clear hf8
    refine hK.out _ _ ⟨K8.out.cells.1, K8.out.cells.2.1, K8.out.cells.2.2.1, K8.out.cells.2.2.2.1, K8.out.cells.2.2.2.2⟩ (fun hHeld => ?_)
    clear hK K
    refine norm_ (a' := ?_) ?_ ?_
    rotate_left
    · show Act.put _ (some 31) _ = _
      simp only [Act.put, List.setIfInBounds_toArray, List.set_cons_zero, List.set_cons_succ, i64_w, i32_w]
      rfl
    refine pure_ (i := 9) (N := some 32) (v := ?_) (a' := ?_) #[true, true, true, true, true, true, true, true, true, true, false, false, false, false, false, false, false, false, false, false, false, false, false, false, false, false, false, false, false] rfl rfl (by kernel_rfl) (fun _ _ _ h => h) (Or.inl ⟨by rfl, ?_⟩) ?_ ?_
    rotate_left
    · intro w'
      go_simp
      with_reducible rfl
    rotate_left
    · simp only [Act.put, List.setIfInBounds_toArray, List.set_cons_zero, List.set_cons_succ, i64_w, i32_w]
      rfl
    refine pure_ (i := 10) (N := some 33) (v := undef) (a' := ?_) #[true, true, true, true, true, true, true, true, true, true, true, false, false, false, false, false, false, false, false, false, false, false, false, false, false, false, false, false, false] rfl rfl (by kernel_rfl) (fun _ _ _ h => h) (Or.inr ⟨by rfl, rfl⟩) ?_ ?_
    rotate_left
    · simp only [Act.put, List.setIfInBounds_toArray, List.set_cons_zero, List.set_cons_succ, i64_w, i32_w]
      rfl
    refine pure_ (i := 11) (N := some 34) (v := undef) (a' := ?_) #[true, true, true, true, true, true, true, true, true, true, true, true, false, false, false, false, false, false, false, false, false, false, false, false, false, false, false, false, false] rfl rfl (by kernel_rfl) (fun _ _ _ h => h) (Or.inr ⟨by rfl, rfl⟩) ?_ ?_
    rotate_left
    · simp only [Act.put, List.setIfInBounds_toArray, List.set_cons_zero, List.set_cons_succ, i64_w, i32_w]
      rfl
    refine pure_ (i := 12) (N := some 35) (v := undef) (a' := ?_) #[true, true, true, true, true, true, true, true, true, true, true, true, true, false, false, false, false, false, false, false, false, false, false, false, false, false, false, false, false] rfl rfl (by kernel_rfl) (fun _ _ _ h => h) (Or.inr ⟨by rfl, rfl⟩) ?_ ?_
    rotate_left
    · simp only [Act.put, List.setIfInBounds_toArray, List.set_cons_zero, List.set_cons_succ, i64_w, i32_w]
      rfl
    refine pure_ (i := 13) (N := some 36) (v := undef) (a' := ?_) #[true, true, true, true, true, true, true, true, true, true, true, true, true, true, false, false, false, false, false, false, false, false, false, false, false, false, false, false, false] rfl rfl (by kernel_rfl) (fun _ _ _ h => h) (Or.inr ⟨by rfl, rfl⟩) ?_ ?_
    rotate_left
    · simp only [Act.put, List.setIfInBounds_toArray, List.set_cons_zero, List.set_cons_succ, i64_w, i32_w]
      rfl
    refine pure_ (i := 14) (N := some 37) (v := undef) (a' := ?_) #[true, true, true, true, true, true, true, true, true, true, true, true, true, true, true, false, false, false, false, false, false, false, false, false, false, false, false, false, false] rfl rfl (by kernel_rfl) (fun _ _ _ h => h) (Or.inr ⟨by rfl, rfl⟩) ?_ ?_
    rotate_left
    · simp only [Act.put, List.setIfInBounds_toArray, List.set_cons_zero, List.set_cons_succ, i64_w, i32_w]
      rfl
    refine pure_ (i := 15) (N := some 38) (v := undef) (a' := ?_) #[true, true, true, true, true, true, true, true, true, true, true, true, true, true, true, true, false, false, false, false, false, false, false, false, false, false, false, false, false] rfl rfl (by kernel_rfl) (fun _ _ _ h => h) (Or.inr ⟨by rfl, rfl⟩) ?_ ?_
    rotate_left
    · simp only [Act.put, List.setIfInBounds_toArray, List.set_cons_zero, List.set_cons_succ, i64_w, i32_w]
      rfl
    refine pure_ (i := 16) (N := some 39) (v := undef) (a' := ?_) #[true, true, true, true, true, true, true, true, true, true, true, true, true, true, true, true, true, false, false, false, false, false, false, false, false, false, false, false, false] rfl rfl (by kernel_rfl) (fun _ _ _ h => h) (Or.inr ⟨by rfl, rfl⟩) ?_ ?_
    rotate_left
    · simp only [Act.put, List.setIfInBounds_toArray, List.set_cons_zero, List.set_cons_succ, i64_w, i32_w]
      rfl
    refine pure_ (i := 17) (N := some 40) (v := undef) (a' := ?_) #[true, true, true, true, true, true, true, true, true, true, true, true, true, true, true, true, true, true, false, false, false, false, false, false, false, false, false, false, false] rfl rfl (by kernel_rfl) (fun _ _ _ h => h) (Or.inr ⟨by rfl, rfl⟩) ?_ ?_
    rotate_left
    · simp only [Act.put, List.setIfInBounds_toArray, List.set_cons_zero, List.set_cons_succ, i64_w, i32_w]
      rfl
    refine pure_ (i := 18) (N := some 41) (v := undef) (a' := ?_) #[true, true, true, true, true, true, true, true, true, true, true, true, true, true, true, true, true, true, true, false, false, false, false, false, false, false, false, false, false] rfl rfl (by kernel_rfl) (fun _ _ _ h => h) (Or.inr ⟨by rfl, rfl⟩) ?_ ?_
    rotate_left
    · simp only [Act.put, List.setIfInBounds_toArray, List.set_cons_zero, List.set_cons_succ, i64_w, i32_w]
      rfl
    refine pure_ (i := 19) (N := some 42) (v := undef) (a' := ?_) #[true, true, true, true, true, true, true, true, true, true, true, true, true, true, true, true, true, true, true, true, false, false, false, false, false, false, false, false, false] rfl rfl (by kernel_rfl) (fun _ _ _ h => h) (Or.inr ⟨by rfl, rfl⟩) ?_ ?_
    rotate_left
    · simp only [Act.put, List.setIfInBounds_toArray, List.set_cons_zero, List.set_cons_succ, i64_w, i32_w]
      rfl
    refine pure_ (i := 20) (N := some 43) (v := undef) (a' := ?_) #[true, true, true, true, true, true, true, true, true, true, true, true, true, true, true, true, true, true, true, true, true, false, false, false, false, false, false, false, false] rfl rfl (by kernel_rfl) (fun _ _ _ h => h) (Or.inr ⟨by rfl, rfl⟩) ?_ ?_
    rotate_left
    · simp only [Act.put, List.setIfInBounds_toArray, List.set_cons_zero, List.set_cons_succ, i64_w, i32_w]
      rfl
    refine pure_ (i := 21) (N := some 44) (v := undef) (a' := ?_) #[true, true, true, true, true, true, true, true, true, true, true, true, true, true, true, true, true, true, true, true, true, true, false, false, false, false, false, false, false] rfl rfl (by kernel_rfl) (fun _ _ _ h => h) (Or.inr ⟨by rfl, rfl⟩) ?_ ?_
    rotate_left
    · simp only [Act.put, List.setIfInBounds_toArray, List.set_cons_zero, List.set_cons_succ, i64_w, i32_w]
      rfl
    refine pure_ (i := 22) (N := some 45) (v := undef) (a' := ?_) #[true, true, true, true, true, true, true, true, true, true, true, true, true, true, true, true, true, true, true, true, true, true, true, false, false, false, false, false, false] rfl rfl (by kernel_rfl) (fun _ _ _ h => h) (Or.inr ⟨by rfl, rfl⟩) ?_ ?_
    rotate_left
    · simp only [Act.put, List.setIfInBounds_toArray, List.set_cons_zero, List.set_cons_succ, i64_w, i32_w]
      rfl
    refine pure_ (i := 23) (N := some 46) (v := undef) (a' := ?_) #[true, true, true, true, true, true, true, true, true, true, true, true, true, true, true, true, true, true, true, true, true, true, true, true, false, false, false, false, false] rfl rfl (by kernel_rfl) (fun _ _ _ h => h) (Or.inr ⟨by rfl, rfl⟩) ?_ ?_
    rotate_left
    · simp only [Act.put, List.setIfInBounds_toArray, List.set_cons_zero, List.set_cons_succ, i64_w, i32_w]
      rfl
    refine pure_ (i := 24) (N := some 47) (v := undef) (a' := ?_) #[true, true, true, true, true, true, true, true, true, true, true, true, true, true, true, true, true, true, true, true, true, true, true, true, true, false, false, false, false] rfl rfl (by kernel_rfl) (fun _ _ _ h => h) (Or.inr ⟨by rfl, rfl⟩) ?_ ?_
    rotate_left
    · simp only [Act.put, List.setIfInBounds_toArray, List.set_cons_zero, List.set_cons_succ, i64_w, i32_w]
      rfl
    refine pure_ (i := 25) (N := some 48) (v := undef) (a' := ?_) #[true, true, true, true, true, true, true, true, true, true, true, true, true, true, true, true, true, true, true, true, true, true, true, true, true, true, false, false, false] rfl rfl (by kernel_rfl) (fun _ _ _ h => h) (Or.inr ⟨by rfl, rfl⟩) ?_ ?_
    rotate_left
    · simp only [Act.put, List.setIfInBounds_toArray, List.set_cons_zero, List.set_cons_succ, i64_w, i32_w]
      rfl
    refine pure_ (i := 26) (N := some 49) (v := undef) (a' := ?_) #[true, true, true, true, true, true, true, true, true, true, true, true, true, true, true, true, true, true, true, true, true, true, true, true, true, true, true, false, false] rfl rfl (by kernel_rfl) (fun _ _ _ h => h) (Or.inr ⟨by rfl, rfl⟩) ?_ ?_
    rotate_left
    · simp only [Act.put, List.setIfInBounds_toArray, List.set_cons_zero, List.set_cons_succ, i64_w, i32_w]
      rfl
    refine pure_ (i := 27) (N := some 50) (v := ?_) (a' := ?_) #[true, true, true, true, true, true, true, true, true, true, true, true, true, true, true, true, true, true, true, true, true, true, true, true, true, true, true, true, false] rfl rfl (by kernel_rfl) (fun _ _ _ h => h) (Or.inl ⟨by rfl, ?_⟩) ?_ ?_
    rotate_left
    · intro w'
      go_simp
      with_reducible rfl
    rotate_left
    · simp only [Act.put, List.setIfInBounds_toArray, List.set_cons_zero, List.set_cons_succ, i64_w, i32_w]
      rfl
    refine pure_ (i := 28) (N := some 6) (v := ?_) (a' := ?_) #[true, true, true, true, true, true, true, true, true, true, true, true, true, true, true, true, true, true, true, true, true, true, true, true, true, true, true, true, true] rfl rfl (by kernel_rfl) (fun _ _ _ h => h) (Or.inl ⟨by rfl, ?_⟩) ?_ ?_
    rotate_left
    · intro w'
      go_simp
      with_reducible rfl
    rotate_left
    · simp only [Act.put, List.setIfInBounds_toArray, List.set_cons_zero, List.set_cons_succ, i64_w, i32_w]
      rfl
    refine done_ (by kernel_rfl) ?_
    go_wp2
    go_ret
    exact ⟨rfl, EF8.out⟩


set_option maxHeartbeats 8000000 in
set_option maxRecDepth 100000 in
theorem aheadB {w0 w : World} {g gr : Nat} {n c i k : Nat} {t x1 t1 x2 t2 : Int} {f : FuncId} {fn : Func} {caps : Array Value} (h : Hb w g (.func (.func f) #[] caps) (.slice (some ⟨gr, 0, none⟩) n c) t) (hfr : Fr No w0 w) (hi : i < n) (hk : k < n)
    (a0 : w.cell? ⟨gr, i * 2, none⟩ = some (.int .i64 x1)) (a1 : w.cell? ⟨gr, i * 2 + 1, none⟩ = some (.int .i64 t1)) (b0 : w.cell? ⟨gr, k * 2, none⟩ = some (.int .i64 x2)) (b1 : w.cell? ⟨gr, k * 2 + 1, none⟩ = some (.int .i64 t2))
    (hf1 : Try.prog.funcs[f]? = some fn) (hf2 : (fn.name == "runtime.NumGoroutine") = false) (hf3 : fn.body.isSome = true) (h12 : ∀ W, Fr No w0 W → Calls Try.prog f (#[.int .i64 x1, .int .i64 x2] ++ caps) W fun e w' => e = .returned (.bool false) ∧ Fr No W w') (h21 : ∀ W, Fr No w0 W → Calls Try.prog f (#[.int .i64 x2, .int .i64 x1] ++ caps) W fun e w' => e = .returned (.bool true) ∧ Fr No W w') :
    Calls Try.prog 84 #[.pointer (some ⟨g, 0, none⟩), .int .i64 i, .int .i64 k] w fun e w' => e = .returned (.bool false) ∧ Fr No w w' := by
  obtain ⟨q0, q1, q2⟩ := h.cells
  have hi0 : (0 : Int) ≤ i := by omega
  have hi1 : (i : Int) < n := by omega
  have hk0 : (0 : Int) ≤ k := by omega
  have hk1 : (k : Int) < n := by omega
  have Q0 := Aside0.mk q0
  have HFR := Aside0.mk hfr
  have HFN := Aside0.mk (And.intro hf1 (And.intro hf2 hf3))
  have H12 := Aside0.mk h12
  have H21 := Aside0.mk h21
  have hu := Try.underlying128
  clear h q0 q2 hi hk hfr hf1 hf2 hf3 h12 h21
  go_enter Try.func84, Try.ntmps84
  go_wp2
  go_region_held3 (fun w' => w'.cell? ⟨g, 1, none⟩ = some (.slice (some ⟨gr, 0, none⟩) n c) ∧ w'.cell? ⟨gr, i * 2, none⟩ = some (.int .i64 x1) ∧ w'.cell? ⟨gr, i * 2 + 1, none⟩ = some (.int .i64 t1) ∧ w'.cell? ⟨gr, k * 2, none⟩ = some (.int .i64 x2) ∧ w'.cell? ⟨gr, k * 2 + 1, none⟩ = some (.int .i64 t2)) (go_keep) (fail)
  all_goals go_wp2_with (fail)
  have F1 := Aside0.mk (((Fr.refl No w).alloc (.cells #[.int .i64 x1, .int .i64 t1] 128)).alloc (.cells #[.int .i64 x2, .int .i64 t2] 128)).drew
  have K1 := Aside0.mk (show AB ((w.alloc (.cells #[.int .i64 x1, .int .i64 t1] 128)).alloc (.cells #[.int .i64 x2, .int .i64 t2] 128)).drew g w.heap.size (w.heap.size + 1) (.func (.func f) #[] caps) x1 t1 x2 t2 from ⟨pw_cell_below F1.out.no Q0.out, ((Fr.refl No _).alloc _).blk (blk_new w _) (fun h => h.elim), by have := blk_new (w.alloc (.cells #[.int .i64 x1, .int .i64 t1] 128)) (.cells #[.int .i64 x2, .int .i64 t2] 128); rw [show (w.alloc (.cells #[.int .i64 x1, .int .i64 t1] 128)).heap.size = w.heap.size + 1 from by simp] at this; exact this⟩)
  generalize ((w.alloc (.cells #[.int .i64 x1, .int .i64 t1] 128)).alloc (.cells #[.int .i64 x2, .int .i64 t2] 128)).drew = w1 at F1 K1 ⊢
  generalize w.heap.size + 1 = gb at K1 ⊢
  generalize w.heap.size = ga at K1 ⊢
  rotate_left
  have F1 := Aside0.mk (((Fr.refl No w).alloc (.cells #[.int .i64 x2, .int .i64 t2] 128)).alloc (.cells #[.int .i64 x1, .int .i64 t1] 128)).drew
  have K1 := Aside0.mk (show AB ((w.alloc (.cells #[.int .i64 x2, .int .i64 t2] 128)).alloc (.cells #[.int .i64 x1, .int .i64 t1] 128)).drew g (w.heap.size + 1) w.heap.size (.func (.func f) #[] caps) x1 t1 x2 t2 from ⟨pw_cell_below F1.out.no Q0.out, by have := blk_new (w.alloc (.cells #[.int .i64 x2, .int .i64 t2] 128)) (.cells #[.int .i64 x1, .int .i64 t1] 128); rw [show (w.alloc (.cells #[.int .i64 x2, .int .i64 t2] 128)).heap.size = w.heap.size + 1 from by simp] at this; exact this, ((Fr.refl No _).alloc _).blk (blk_new w _) (fun h => h.elim)⟩)
  generalize ((w.alloc (.cells #[.int .i64 x2, .int .i64 t2] 128)).alloc (.cells #[.int .i64 x1, .int .i64 t1] 128)).drew = w1 at F1 K1 ⊢
  generalize w.heap.size + 1 = ga at K1 ⊢
  generalize w.heap.size = gb at K1 ⊢
  rotate_left
  all_goals
    clear q1 a0 a1 b0 b1
    have KD := Aside0.mk (K1.out.no (Fr.refl No w1).drew)
    have FD := Aside0.mk ((HFR.out.on F1.out).on (Fr.refl No w1).drew)
    have EFD := Aside0.mk (F1.out.on (Fr.refl No w1).drew)
    clear K1
    refine start_ (n := 29) (S := fun w' => w'.cell? ⟨g, 0, none⟩ = some (.func (.func f) #[] caps) ∧ w'.cell? ⟨ga, 0, none⟩ = some (.int .i64 x1) ∧ w'.cell? ⟨ga, 1, none⟩ = some (.int .i64 t1) ∧ w'.cell? ⟨gb, 0, none⟩ = some (.int .i64 x2) ∧ w'.cell? ⟨gb, 1, none⟩ = some (.int .i64 t2)) (ds := []) #[false, false, false, false, false, false, false, false, false, false, false, false, false, false, false, false, false, false, false, false, false, false, false, false, false, false, false, false, false] (by kernel_rfl) rfl rfl ⟨KD.out.cells.1, KD.out.cells.2.1, KD.out.cells.2.2.1, KD.out.cells.2.2.2.1, KD.out.cells.2.2.2.2⟩ (fun hHeld => ?_)
    refine pure_ (i := 0) (N := some 23) (v := ?_) (a' := ?_) #[true, false, false, false, false, false, false, false, false, false, false, false, false, false, false, false, false, false, false, false, false, false, false, false, false, false, false, false, false] rfl rfl (by kernel_rfl) (fun _ _ _ h => h) (Or.inl ⟨by rfl, ?_⟩) ?_ ?_
    rotate_left
    · intro w'
      go_simp
      with_reducible rfl
    rotate_left
    · simp only [Act.put, List.setIfInBounds_toArray, List.set_cons_zero, List.set_cons_succ, i64_w, i32_w]
      rfl
    refine pure_ (i := 1) (N := some 24) (v := ?_) (a' := ?_) #[true, true, false, false, false, false, false, false, false, false, false, false, false, false, false, false, false, false, false, false, false, false, false, false, false, false, false, false, false] rfl rfl (by kernel_rfl) (fun _ _ _ h => h) (Or.inl ⟨by rfl, ?_⟩) ?_ ?_
    rotate_left
    · intro w'
      go_simp
      with_reducible rfl
    rotate_left
    · simp only [Act.put, List.setIfInBounds_toArray, List.set_cons_zero, List.set_cons_succ, i64_w, i32_w]
      rfl
    refine pure_ (i := 2) (N := some 25) (v := ?_) (a' := ?_) #[true, true, true, false, false, false, false, false, false, false, false, false, false, false, false, false, false, false, false, false, false, false, false, false, false, false, false, false, false] rfl rfl (by kernel_rfl) (fun _ _ _ h => h) (Or.inl ⟨by rfl, ?_⟩) ?_ ?_
    rotate_left
    · intro w'
      go_simp
      with_reducible rfl
    rotate_left
    · simp only [Act.put, List.setIfInBounds_toArray, List.set_cons_zero, List.set_cons_succ, i64_w, i32_w]
      rfl
    refine pure_ (i := 4) (N := some 27) (v := ?_) (a' := ?_) #[true, true, true, false, true, false, false, false, false, false, false, false, false, false, false, false, false, false, false, false, false, false, false, false, false, false, false, false, false] rfl rfl (by kernel_rfl) (fun _ _ _ h => h) (Or.inl ⟨by rfl, ?_⟩) ?_ ?_
    rotate_left
    · intro w'
      go_simp
      with_reducible rfl
    rotate_left
    · simp only [Act.put, List.setIfInBounds_toArray, List.set_cons_zero, List.set_cons_succ, i64_w, i32_w]
      rfl
    refine pure_ (i := 6) (N := some 29) (v := ?_) (a' := ?_) #[true, true, true, false, true, false, true, false, false, false, false, false, false, false, false, false, false, false, false, false, false, false, false, false, false, false, false, false, false] rfl rfl (by kernel_rfl) (fun _ _ _ h => h) (Or.inl ⟨by rfl, ?_⟩) ?_ ?_
    rotate_left
    · intro w'
      go_simp
      with_reducible rfl
    rotate_left
    · simp only [Act.put, List.setIfInBounds_toArray, List.set_cons_zero, List.set_cons_succ, i64_w, i32_w]
      rfl
    refine take_ (i := 3) (N := some 26) (v := ?_) (a' := ?_) #[true, true, true, true, true, false, true, false, false, false, false, false, false, false, false, false, false, false, false, false, false, false, false, false, false, false, false, false, false] rfl rfl (by kernel_rfl) (fun _ _ _ h => h) (Or.inl ⟨by rfl, ?_⟩) hHeld ?_ ?_
    rotate_left
    · rintro w' ⟨s0, s1, s2, s3, s4⟩
      go_simp
      with_reducible rfl
    rotate_left
    · simp only [Act.put, List.setIfInBounds_toArray, List.set_cons_zero, List.set_cons_succ, i64_w, i32_w]
      rfl
    refine take_ (i := 5) (N := some 28) (v := ?_) (a' := ?_) #[true, true, true, true, true, true, true, false, false, false, false, false, false, false, false, false, false, false, false, false, false, false, false, false, false, false, false, false, false] rfl rfl (by kernel_rfl) (fun _ _ _ h => h) (Or.inl ⟨by rfl, ?_⟩) hHeld ?_ ?_
    rotate_left
    · rintro w' ⟨s0, s1, s2, s3, s4⟩
      go_simp
      with_reducible rfl
    rotate_left
    · simp only [Act.put, List.setIfInBounds_toArray, List.set_cons_zero, List.set_cons_succ, i64_w, i32_w]
      rfl
    refine take_ (i := 7) (N := some 30) (v := ?_) (a' := ?_) #[true, true, true, true, true, true, true, true, false, false, false, false, false, false, false, false, false, false, false, false, false, false, false, false, false, false, false, false, false] rfl rfl (by kernel_rfl) (fun _ _ _ h => h) (Or.inl ⟨by rfl, ?_⟩) hHeld ?_ ?_
    rotate_left
    · rintro w' ⟨s0, s1, s2, s3, s4⟩
      go_simp
      with_reducible rfl
    rotate_left
    · simp only [Act.put, List.setIfInBounds_toArray, List.set_cons_zero, List.set_cons_succ, i64_w, i32_w]
      rfl
    refine one_ (i := 8) (N := some 31) #[true, true, true, true, true, true, true, true, true, false, false, false, false, false, false, false, false, false, false, false, false, false, false, false, false, false, false, false, false] rfl rfl (by kernel_rfl) (by decide) (fun K hK => ?_)
    refine goesV_ HFN.out.1 HFN.out.2.1 HFN.out.2.2 (#[.int .i64 x1, .int .i64 x2] ++ caps) (by rfl) rfl rfl (by rfl) (by simp only [List.map_toArray, List.map_cons, List.map_nil]; rfl) ?_
    with_reducible refine (H12.out _ FD.out).mono ?_
    rintro e w8 ⟨rfl, hf8⟩
    refine ⟨_, rfl, ?_⟩
    have K8 := Aside0.mk (KD.out.no hf8)
    have F8 := Aside0.mk (FD.out.on hf8)
    have EF8 := Aside0.mk (EFD.out.on hf8)
    clear hf8
    refine hK.out _ _ ⟨K8.out.cells.1, K8.out.cells.2.1, K8.out.cells.2.2.1, K8.out.cells.2.2.2.1, K8.out.cells.2.2.2.2⟩ (fun hHeld => ?_)
    clear hK K
    refine norm_ (a' := ?_) ?_ ?_
    rotate_left
    · show Act.put _ (some 31) _ = _
      simp only [Act.put, List.setIfInBounds_toArray, List.set_cons_zero, List.set_cons_succ, i64_w, i32_w]
      rfl
    refine pure_ (i := 9) (N := some 32) (v := ?_) (a' := ?_) #[true, true, true, true, true, true, true, true, true, true, false, false, false, false, false, false, false, false, false, false, false, false, false, false, false, false, false, false, false] rfl rfl (by kernel_rfl) (fun _ _ _ h => h) (Or.inl ⟨by rfl, ?_⟩) ?_ ?_
    rotate_left
    · intro w'
      go_simp
      with_reducible rfl
    rotate_left
    · simp only [Act.put, List.setIfInBounds_toArray, List.set_cons_zero, List.set_cons_succ, i64_w, i32_w]
      rfl
    refine pure_ (i := 10) (N := some 33) (v := ?_) (a' := ?_) #[true, true, true, true, true, true, true, true, true, true, true, false, false, false, false, false, false, false, false, false, false, false, false, false, false, false, false, false, false] rfl rfl (by kernel_rfl) (fun _ _ _ h => h) (Or.inl ⟨by rfl, ?_⟩) ?_ ?_
    rotate_left
    · intro w'
      go_simp
      with_reducible rfl
    rotate_left
    · simp only [Act.put, List.setIfInBounds_toArray, List.set_cons_zero, List.set_cons_succ, i64_w, i32_w]
      rfl
    refine pure_ (i := 11) (N := some 34) (v := ?_) (a' := ?_) #[true, true, true, true, true, true, true, true, true, true, true, true, false, false, false, false, false, false, false, false, false, false, false, false, false, false, false, false, false] rfl rfl (by kernel_rfl) (fun _ _ _ h => h) (Or.inl ⟨by rfl, ?_⟩) ?_ ?_
    rotate_left
    · intro w'
      go_simp
      with_reducible rfl
    rotate_left
    · simp only [Act.put, List.setIfInBounds_toArray, List.set_cons_zero, List.set_cons_succ, i64_w, i32_w]
      rfl
    refine pure_ (i := 12) (N := some 35) (v := ?_) (a' := ?_) #[true, true, true, true, true, true, true, true, true, true, true, true, true, false, false, false, false, false, false, false, false, false, false, false, false, false, false, false, false] rfl rfl (by kernel_rfl) (fun _ _ _ h => h) (Or.inl ⟨by rfl, ?_⟩) ?_ ?_
    rotate_left
    · intro w'
      go_simp
      with_reducible rfl
    rotate_left
    · simp only [Act.put, List.setIfInBounds_toArray, List.set_cons_zero, List.set_cons_succ, i64_w, i32_w]
      rfl
    refine pure_ (i := 14) (N := some 37) (v := ?_) (a' := ?_) #[true, true, true, true, true, true, true, true, true, true, true, true, true, false, true, false, false, false, false, false, false, false, false, false, false, false, false, false, false] rfl rfl (by kernel_rfl) (fun _ _ _ h => h) (Or.inl ⟨by rfl, ?_⟩) ?_ ?_
    rotate_left
    · intro w'
      go_simp
      with_reducible rfl
    rotate_left
    · simp only [Act.put, List.setIfInBounds_toArray, List.set_cons_zero, List.set_cons_succ, i64_w, i32_w]
      rfl
    refine pure_ (i := 16) (N := some 39) (v := ?_) (a' := ?_) #[true, true, true, true, true, true, true, true, true, true, true, true, true, false, true, false, true, false, false, false, false, false, false, false, false, false, false, false, false] rfl rfl (by kernel_rfl) (fun _ _ _ h => h) (Or.inl ⟨by rfl, ?_⟩) ?_ ?_
    rotate_left
    · intro w'
      go_simp
      with_reducible rfl
    rotate_left
    · simp only [Act.put, List.setIfInBounds_toArray, List.set_cons_zero, List.set_cons_succ, i64_w, i32_w]
      rfl
    refine take_ (i := 13) (N := some 36) (v := ?_) (a' := ?_) #[true, true, true, true, true, true, true, true, true, true, true, true, true, true, true, false, true, false, false, false, false, false, false, false, false, false, false, false, false] rfl rfl (by kernel_rfl) (fun _ _ _ h => h) (Or.inl ⟨by rfl, ?_⟩) hHeld ?_ ?_
    rotate_left
    · rintro w' ⟨s0, s1, s2, s3, s4⟩
      go_simp
      with_reducible rfl
    rotate_left
    · simp only [Act.put, List.setIfInBounds_toArray, List.set_cons_zero, List.set_cons_succ, i64_w, i32_w]
      rfl
    refine take_ (i := 15) (N := some 38) (v := ?_) (a' := ?_) #[true, true, true, true, true, true, true, true, true, true, true, true, true, true, true, true, true, false, false, false, false, false, false, false, false, false, false, false, false] rfl rfl (by kernel_rfl) (fun _ _ _ h => h) (Or.inl ⟨by rfl, ?_⟩) hHeld ?_ ?_
    rotate_left
    · rintro w' ⟨s0, s1, s2, s3, s4⟩
      go_simp
      with_reducible rfl
    rotate_left
    · simp only [Act.put, List.setIfInBounds_toArray, List.set_cons_zero, List.set_cons_succ, i64_w, i32_w]
      rfl
    refine take_ (i := 17) (N := some 40) (v := ?_) (a' := ?_) #[true, true, true, true, true, true, true, true, true, true, true, true, true, true, true, true, true, true, false, false, false, false, false, false, false, false, false, false, false] rfl rfl (by kernel_rfl) (fun _ _ _ h => h) (Or.inl ⟨by rfl, ?_⟩) hHeld ?_ ?_
    rotate_left
    · rintro w' ⟨s0, s1, s2, s3, s4⟩
      go_simp
      with_reducible rfl
    rotate_left
    · simp only [Act.put, List.setIfInBounds_toArray, List.set_cons_zero, List.set_cons_succ, i64_w, i32_w]
      rfl
    refine one_ (i := 18) (N := some 41) #[true, true, true, true, true, true, true, true, true, true, true, true, true, true, true, true, true, true, true, false, false, false, false, false, false, false, false, false, false] rfl rfl (by kernel_rfl) (by decide) (fun K hK => ?_)
    refine goesV_ HFN.out.1 HFN.out.2.1 HFN.out.2.2 (#[.int .i64 x2, .int .i64 x1] ++ caps) (by rfl) rfl rfl (by rfl) (by simp only [List.map_toArray, List.map_cons, List.map_nil]; rfl) ?_
    with_reducible refine (H21.out _ F8.out).mono ?_
    rintro e w9 ⟨rfl, hf8⟩
    refine ⟨_, rfl, ?_⟩
    have K9 := Aside0.mk (K8.out.no hf8)
    have F9 := Aside0.mk (F8.out.on hf8)
    have EF9 := Aside0.mk (EF8.out.on hf8)
    clear hf8
    refine hK.out _ _ ⟨K9.out.cells.1, K9.out.cells.2.1, K9.out.cells.2.2.1, K9.out.cells.2.2.2.1, K9.out.cells.2.2.2.2⟩ (fun hHeld => ?_)
    clear hK K
    refine norm_ (a' := ?_) ?_ ?_
    rotate_left
    · show Act.put _ (some 41) _ = _
      simp only [Act.put, List.setIfInBounds_toArray, List.set_cons_zero, List.set_cons_succ, i64_w, i32_w]
      rfl
    refine pure_ (i := 19) (N := some 42) (v := ?_) (a' := ?_) #[true, true, true, true, true, true, true, true, true, true, true, true, true, true, true, true, true, true, true, true, false, false, false, false, false, false, false, false, false] rfl rfl (by kernel_rfl) (fun _ _ _ h => h) (Or.inl ⟨by rfl, ?_⟩) ?_ ?_
    rotate_left
    · intro w'
      go_simp
      with_reducible rfl
    rotate_left
    · simp only [Act.put, List.setIfInBounds_toArray, List.set_cons_zero, List.set_cons_succ, i64_w, i32_w]
      rfl
    refine pure_ (i := 20) (N := some 43) (v := ?_) (a' := ?_) #[true, true, true, true, true, true, true, true, true, true, true, true, true, true, true, true, true, true, true, true, true, false, false, false, false, false, false, false, false] rfl rfl (by kernel_rfl) (fun _ _ _ h => h) (Or.inl ⟨by rfl, ?_⟩) ?_ ?_
    rotate_left
    · intro w'
      go_simp
      with_reducible rfl
    rotate_left
    · simp only [Act.put, List.setIfInBounds_toArray, List.set_cons_zero, List.set_cons_succ, i64_w, i32_w]
      rfl
    refine pure_ (i := 21) (N := some 44) (v := undef) (a' := ?_) #[true, true, true, true, true, true, true, true, true, true, true, true, true, true, true, true, true, true, true, true, true, true, false, false, false, false, false, false, false] rfl rfl (by kernel_rfl) (fun _ _ _ h => h) (Or.inr ⟨by rfl, rfl⟩) ?_ ?_
    rotate_left
    · simp only [Act.put, List.setIfInBounds_toArray, List.set_cons_zero, List.set_cons_succ, i64_w, i32_w]
      rfl
    refine pure_ (i := 22) (N := some 45) (v := undef) (a' := ?_) #[true, true, true, true, true, true, true, true, true, true, true, true, true, true, true, true, true, true, true, true, true, true, true, false, false, false, false, false, false] rfl rfl (by kernel_rfl) (fun _ _ _ h => h) (Or.inr ⟨by rfl, rfl⟩) ?_ ?_
    rotate_left
    · simp only [Act.put, List.setIfInBounds_toArray, List.set_cons_zero, List.set_cons_succ, i64_w, i32_w]
      rfl
    refine pure_ (i := 23) (N := some 46) (v := undef) (a' := ?_) #[true, true, true, true, true, true, true, true, true, true, true, true, true, true, true, true, true, true, true, true, true, true, true, true, false, false, false, false, false] rfl rfl (by kernel_rfl) (fun _ _ _ h => h) (Or.inr ⟨by rfl, rfl⟩) ?_ ?_
    rotate_left
    · simp only [Act.put, List.setIfInBounds_toArray, List.set_cons_zero, List.set_cons_succ, i64_w, i32_w]
      rfl
    refine pure_ (i := 24) (N := some 47) (v := undef) (a' := ?_) #[true, true, true, true, true, true, true, true, true, true, true, true, true, true, true, true, true, true, true, true, true, true, true, true, true, false, false, false, false] rfl rfl (by kernel_rfl) (fun _ _ _ h => h) (Or.inr ⟨by rfl, rfl⟩) ?_ ?_
    rotate_left
    · simp only [Act.put, List.setIfInBounds_toArray, List.set_cons_zero, List.set_cons_succ, i64_w, i32_w]
      rfl
    refine pure_ (i := 25) (N := some 48) (v := undef) (a' := ?_) #[true, true, true, true, true, true, true, true, true, true, true, true, true, true, true, true, true, true, true, true, true, true, true, true, true, true, false, false, false] rfl rfl (by kernel_rfl) (fun _ _ _ h => h) (Or.inr ⟨by rfl, rfl⟩) ?_ ?_
    rotate_left
    · simp only [Act.put, List.setIfInBounds_toArray, List.set_cons_zero, List.set_cons_succ, i64_w, i32_w]
      rfl
    refine pure_ (i := 26) (N := some 49) (v := ?_) (a' := ?_) #[true, true, true, true, true, true, true, true, true, true, true, true, true, true, true, true, true, true, true, true, true, true, true, true, true, true, true, false, false] rfl rfl (by kernel_rfl) (fun _ _ _ h => h) (Or.inl ⟨by rfl, ?_⟩) ?_ ?_
    rotate_left
    · intro w'
      go_simp
      with_reducible rfl
    rotate_left
    · simp only [Act.put, List.setIfInBounds_toArray, List.set_cons_zero, List.set_cons_succ, i64_w, i32_w]
      rfl
    refine pure_ (i := 27) (N := some 50) (v := ?_) (a' := ?_) #[true, true, true, true, true, true, true, true, true, true, true, true, true, true, true, true, true, true, true, true, true, true, true, true, true, true, true, true, false] rfl rfl (by kernel_rfl) (fun _ _ _ h => h) (Or.inl ⟨by rfl, ?_⟩) ?_ ?_
    rotate_left
    · intro w'
      go_simp
      with_reducible rfl
    rotate_left
    · simp only [Act.put, List.setIfInBounds_toArray, List.set_cons_zero, List.set_cons_succ, i64_w, i32_w]
      rfl
    refine pure_ (i := 28) (N := some 6) (v := ?_) (a' := ?_) #[true, true, true, true, true, true, true, true, true, true, true, true, true, true, true, true, true, true, true, true, true, true, true, true, true, true, true, true, true] rfl rfl (by kernel_rfl) (fun _ _ _ h => h) (Or.inl ⟨by rfl, ?_⟩) ?_ ?_
    rotate_left
    · intro w'
      go_simp
      with_reducible rfl
    rotate_left
    · simp only [Act.put, List.setIfInBounds_toArray, List.set_cons_zero, List.set_cons_succ, i64_w, i32_w]
      rfl
    refine done_ (by kernel_rfl) ?_
    go_wp2
    go_ret
    exact ⟨rfl, EF9.out⟩


set_option maxHeartbeats 8000000 in
set_option maxRecDepth 100000 in
theorem aheadC {w0 w : World} {g gr : Nat} {n c i k : Nat} {t x1 t1 x2 t2 : Int} {f : FuncId} {fn : Func} {caps : Array Value} (h : Hb w g (.func (.func f) #[] caps) (.slice (some ⟨gr, 0, none⟩) n c) t) (hfr : Fr No w0 w) (hi : i < n) (hk : k < n)
    (a0 : w.cell? ⟨gr, i * 2, none⟩ = some (.int .i64 x1)) (a1 : w.cell? ⟨gr, i * 2 + 1, none⟩ = some (.int .i64 t1)) (b0 : w.cell? ⟨gr, k * 2, none⟩ = some (.int .i64 x2)) (b1 : w.cell? ⟨gr, k * 2 + 1, none⟩ = some (.int .i64 t2))
    (hf1 : Try.prog.funcs[f]? = some fn) (hf2 : (fn.name == "runtime.NumGoroutine") = false) (hf3 : fn.body.isSome = true) (h12 : ∀ W, Fr No w0 W → Calls Try.prog f (#[.int .i64 x1, .int .i64 x2] ++ caps) W fun e w' => e = .returned (.bool false) ∧ Fr No W w') (h21 : ∀ W, Fr No w0 W → Calls Try.prog f (#[.int .i64 x2, .int .i64 x1] ++ caps) W fun e w' => e = .returned (.bool false) ∧ Fr No W w') :
    Calls Try.prog 84 #[.pointer (some ⟨g, 0, none⟩), .int .i64 i, .int .i64 k] w fun e w' => e = .returned (.bool (decide (t1 < t2))) ∧ Fr No w w' := by
  obtain ⟨q0, q1, q2⟩ := h.cells
  have hi0 : (0 : Int) ≤ i := by omega
  have hi1 : (i : Int) < n := by omega
  have hk0 : (0 : Int) ≤ k := by omega
  have hk1 : (k : Int) < n := by omega
  have Q0 := Aside0.mk q0
  have HFR := Aside0.mk hfr
  have HFN := Aside0.mk (And.intro hf1 (And.intro hf2 hf3))
  have H12 := Aside0.mk h12
  have H21 := Aside0.mk h21
  have hu := Try.underlying128
  clear h q0 q2 hi hk hfr hf1 hf2 hf3 h12 h21
  go_enter Try.func84, Try.ntmps84
  go_wp2
  go_region_held3 (fun w' => w'.cell? ⟨g, 1, none⟩ = some (.slice (some ⟨gr, 0, none⟩) n c) ∧ w'.cell? ⟨gr, i * 2, none⟩ = some (.int .i64 x1) ∧ w'.cell? ⟨gr, i * 2 + 1, none⟩ = some (.int .i64 t1) ∧ w'.cell? ⟨gr, k * 2, none⟩ = some (.int .i64 x2) ∧ w'.cell? ⟨gr, k * 2 + 1, none⟩ = some (.int .i64 t2)) (go_keep) (fail)
  all_goals go_wp2_with (fail)
  have F1 := Aside0.mk (((Fr.refl No w).alloc (.cells #[.int .i64 x1, .int .i64 t1] 128)).alloc (.cells #[.int .i64 x2, .int .i64 t2] 128)).drew
  have K1 := Aside0.mk (show AB ((w.alloc (.cells #[.int .i64 x1, .int .i64 t1] 128)).alloc (.cells #[.int .i64 x2, .int .i64 t2] 128)).drew g w.heap.size (w.heap.size + 1) (.func (.func f) #[] caps) x1 t1 x2 t2 from ⟨pw_cell_below F1.out.no Q0.out, ((Fr.refl No _).alloc _).blk (blk_new w _) (fun h => h.elim), by have := blk_new (w.alloc (.cells #[.int .i64 x1, .int .i64 t1] 128)) (.cells #[.int .i64 x2, .int .i64 t2] 128); rw [show (w.alloc (.cells #[.int .i64 x1, .int .i64 t1] 128)).heap.size = w.heap.size + 1 from by simp] at this; exact this⟩)
  generalize ((w.alloc (.cells #[.int .i64 x1, .int .i64 t1] 128)).alloc (.cells #[.int .i64 x2, .int .i64 t2] 128)).drew = w1 at F1 K1 ⊢
  generalize w.heap.size + 1 = gb at K1 ⊢
  generalize w.heap.size = ga at K1 ⊢
  rotate_left
  have F1 := Aside0.mk (((Fr.refl No w).alloc (.cells #[.int .i64 x2, .int .i64 t2] 128)).alloc (.cells #[.int .i64 x1, .int .i64 t1] 128)).drew
  have K1 := Aside0.mk (show AB ((w.alloc (.cells #[.int .i64 x2, .int .i64 t2] 128)).alloc (.cells #[.int .i64 x1, .int .i64 t1] 128)).drew g (w.heap.size + 1) w.heap.size (.func (.func f) #[] caps) x1 t1 x2 t2 from ⟨pw_cell_below F1.out.no Q0.out, by have := blk_new (w.alloc (.cells #[.int .i64 x2, .int .i64 t2] 128)) (.cells #[.int .i64 x1, .int .i64 t1] 128); rw [show (w.alloc (.cells #[.int .i64 x2, .int .i64 t2] 128)).heap.size = w.heap.size + 1 from by simp] at this; exact this, ((Fr.refl No _).alloc _).blk (blk_new w _) (fun h => h.elim)⟩)
  generalize ((w.alloc (.cells #[.int .i64 x2, .int .i64 t2] 128)).alloc (.cells #[.int .i64 x1, .int .i64 t1] 128)).drew = w1 at F1 K1 ⊢
  generalize w.heap.size + 1 = ga at K1 ⊢
  generalize w.heap.size = gb at K1 ⊢
  rotate_left
  all_goals
    clear q1 a0 a1 b0 b1
    have KD := Aside0.mk (K1.out.no (Fr.refl No w1).drew)
    have FD := Aside0.mk ((HFR.out.on F1.out).on (Fr.refl No w1).drew)
    have EFD := Aside0.mk (F1.out.on (Fr.refl No w1).drew)
    clear K1
    refine start_ (n := 29) (S := fun w' => w'.cell? ⟨g, 0, none⟩ = some (.func (.func f) #[] caps) ∧ w'.cell? ⟨ga, 0, none⟩ = some (.int .i64 x1) ∧ w'.cell? ⟨ga, 1, none⟩ = some (.int .i64 t1) ∧ w'.cell? ⟨gb, 0, none⟩ = some (.int .i64 x2) ∧ w'.cell? ⟨gb, 1, none⟩ = some (.int .i64 t2)) (ds := []) #[false, false, false, false, false, false, false, false, false, false, false, false, false, false, false, false, false, false, false, false, false, false, false, false, false, false, false, false, false] (by kernel_rfl) rfl rfl ⟨KD.out.cells.1, KD.out.cells.2.1, KD.out.cells.2.2.1, KD.out.cells.2.2.2.1, KD.out.cells.2.2.2.2⟩ (fun hHeld => ?_)
    refine pure_ (i := 0) (N := some 23) (v := ?_) (a' := ?_) #[true, false, false, false, false, false, false, false, false, false, false, false, false, false, false, false, false, false, false, false, false, false, false, false, false, false, false, false, false] rfl rfl (by kernel_rfl) (fun _ _ _ h => h) (Or.inl ⟨by rfl, ?_⟩) ?_ ?_
    rotate_left
    · intro w'
      go_simp
      with_reducible rfl
    rotate_left
    · simp only [Act.put, List.setIfInBounds_toArray, List.set_cons_zero, List.set_cons_succ, i64_w, i32_w]
      rfl
    refine pure_ (i := 1) (N := some 24) (v := ?_) (a' := ?_) #[true, true, false, false, false, false, false, false, false, false, false, false, false, false, false, false, false, false, false, false, false, false, false, false, false, false, false, false, false] rfl rfl (by kernel_rfl) (fun _ _ _ h => h) (Or.inl ⟨by rfl, ?_⟩) ?_ ?_
    rotate_left
    · intro w'
      go_simp
      with_reducible rfl
    rotate_left
    · simp only [Act.put, List.setIfInBounds_toArray, List.set_cons_zero, List.set_cons_succ, i64_w, i32_w]
      rfl
    refine pure_ (i := 2) (N := some 25) (v := ?_) (a' := ?_) #[true, true, true, false, false, false, false, false, false, false, false, false, false, false, false, false, false, false, false, false, false, false, false, false, false, false, false, false, false] rfl rfl (by kernel_rfl) (fun _ _ _ h => h) (Or.inl ⟨by rfl, ?_⟩) ?_ ?_
    rotate_left
    · intro w'
      go_simp
      with_reducible rfl
    rotate_left
    · simp only [Act.put, List.setIfInBounds_toArray, List.set_cons_zero, List.set_cons_succ, i64_w, i32_w]
      rfl
    refine pure_ (i := 4) (N := some 27) (v := ?_) (a' := ?_) #[true, true, true, false, true, false, false, false, false, false, false, false, false, false, false, false, false, false, false, false, false, false, false, false, false, false, false, false, false] rfl rfl (by kernel_rfl) (fun _ _ _ h => h) (Or.inl ⟨by rfl, ?_⟩) ?_ ?_
    rotate_left
    · intro w'
      go_simp
      with_reducible rfl
    rotate_left
    · simp only [Act.put, List.setIfInBounds_toArray, List.set_cons_zero, List.set_cons_succ, i64_w, i32_w]
      rfl
    refine pure_ (i := 6) (N := some 29) (v := ?_) (a' := ?_) #[true, true, true, false, true, false, true, false, false, false, false, false, false, false, false, false, false, false, false, false, false, false, false, false, false, false, false, false, false] rfl rfl (by kernel_rfl) (fun _ _ _ h => h) (Or.inl ⟨by rfl, ?_⟩) ?_ ?_
    rotate_left
    · intro w'
      go_simp
      with_reducible rfl
    rotate_left
    · simp only [Act.put, List.setIfInBounds_toArray, List.set_cons_zero, List.set_cons_succ, i64_w, i32_w]
      rfl
    refine take_ (i := 3) (N := some 26) (v := ?_) (a' := ?_) #[true, true, true, true, true, false, true, false, false, false, false, false, false, false, false, false, false, false, false, false, false, false, false, false, false, false, false, false, false] rfl rfl (by kernel_rfl) (fun _ _ _ h => h) (Or.inl ⟨by rfl, ?_⟩) hHeld ?_ ?_
    rotate_left
    · rintro w' ⟨s0, s1, s2, s3, s4⟩
      go_simp
      with_reducible rfl
    rotate_left
    · simp only [Act.put, List.setIfInBounds_toArray, List.set_cons_zero, List.set_cons_succ, i64_w, i32_w]
      rfl
    refine take_ (i := 5) (N := some 28) (v := ?_) (a' := ?_) #[true, true, true, true, true, true, true, false, false, false, false, false, false, false, false, false, false, false, false, false, false, false, false, false, false, false, false, false, false] rfl rfl (by kernel_rfl) (fun _ _ _ h => h) (Or.inl ⟨by rfl, ?_⟩) hHeld ?_ ?_
    rotate_left
    · rintro w' ⟨s0, s1, s2, s3, s4⟩
      go_simp
      with_reducible rfl
    rotate_left
    · simp only [Act.put, List.setIfInBounds_toArray, List.set_cons_zero, List.set_cons_succ, i64_w, i32_w]
      rfl
    refine take_ (i := 7) (N := some 30) (v := ?_) (a' := ?_) #[true, true, true, true, true, true, true, true, false, false, false, false, false, false, false, false, false, false, false, false, false, false, false, false, false, false, false, false, false] rfl rfl (by kernel_rfl) (fun _ _ _ h => h) (Or.inl ⟨by rfl, ?_⟩) hHeld ?_ ?_
    rotate_left
    · rintro w' ⟨s0, s1, s2, s3, s4⟩
      go_simp
      with_reducible rfl
    rotate_left
    · simp only [Act.put, List.setIfInBounds_toArray, List.set_cons_zero, List.set_cons_succ, i64_w, i32_w]
      rfl
    refine one_ (i := 8) (N := some 31) #[true, true, true, true, true, true, true, true, true, false, false, false, false, false, false, false, false, false, false, false, false, false, false, false, false, false, false, false, false] rfl rfl (by kernel_rfl) (by decide) (fun K hK => ?_)
    refine goesV_ HFN.out.1 HFN.out.2.1 HFN.out.2.2 (#[.int .i64 x1, .int .i64 x2] ++ caps) (by rfl) rfl rfl (by rfl) (by simp only [List.map_toArray, List.map_cons, List.map_nil]; rfl) ?_
    with_reducible refine (H12.out _ FD.out).mono ?_
    rintro e w8 ⟨rfl, hf8⟩
    refine ⟨_, rfl, ?_⟩
    have K8 := Aside0.mk (KD.out.no hf8)
    have F8 := Aside0.mk (FD.out.on hf8)
    have EF8 := Aside0.mk (EFD.out.on hf8)
    clear hf8
    refine hK.out _ _ ⟨K8.out.cells.1, K8.out.cells.2.1, K8.out.cells.2.2.1, K8.out.cells.2.2.2.1, K8.out.cells.2.2.2.2⟩ (fun hHeld => ?_)
    clear hK K
    refine norm_ (a' := ?_) ?_ ?_
    rotate_left
    · show Act.put _ (some 31) _ = _
      simp only [Act.put, List.setIfInBounds_toArray, List.set_cons_zero, List.set_cons_succ, i64_w, i32_w]
      rfl
    refine pure_ (i := 9) (N := some 32) (v := ?_) (a' := ?_) #[true, true, true, true, true, true, true, true, true, true, false, false, false, false, false, false, false, false, false, false, false, false, false, false, false, false, false, false, false] rfl rfl (by kernel_rfl) (fun _ _ _ h => h) (Or.inl ⟨by rfl, ?_⟩) ?_ ?_
    rotate_left
    · intro w'
      go_simp
      with_reducible rfl
    rotate_left
    · simp only [Act.put, List.setIfInBounds_toArray, List.set_cons_zero, List.set_cons_succ, i64_w, i32_w]
      rfl
    refine pure_ (i := 10) (N := some 33) (v := ?_) (a' := ?_) #[true, true, true, true, true, true, true, true, true, true, true, false, false, false, false, false, false, false, false, false, false, false, false, false, false, false, false, false, false] rfl rfl (by kernel_rfl) (fun _ _ _ h => h) (Or.inl ⟨by rfl, ?_⟩) ?_ ?_
    rotate_left
    · intro w'
      go_simp
      with_reducible rfl
    rotate_left
    · simp only [Act.put, List.setIfInBounds_toArray, List.set_cons_zero, List.set_cons_succ, i64_w, i32_w]
      rfl
    refine pure_ (i := 11) (N := some 34) (v := ?_) (a' := ?_) #[true, true, true, true, true, true, true, true, true, true, true, true, false, false, false, false, false, false, false, false, false, false, false, false, false, false, false, false, false] rfl rfl (by kernel_rfl) (fun _ _ _ h => h) (Or.inl ⟨by rfl, ?_⟩) ?_ ?_
    rotate_left
    · intro w'
      go_simp
      with_reducible rfl
    rotate_left
    · simp only [Act.put, List.setIfInBounds_toArray, List.set_cons_zero, List.set_cons_succ, i64_w, i32_w]
      rfl
    refine pure_ (i := 12) (N := some 35) (v := ?_) (a' := ?_) #[true, true, true, true, true, true, true, true, true, true, true, true, true, false, false, false, false, false, false, false, false, false, false, false, false, false, false, false, false] rfl rfl (by kernel_rfl) (fun _ _ _ h => h) (Or.inl ⟨by rfl, ?_⟩) ?_ ?_
    rotate_left
    · intro w'
      go_simp
      with_reducible rfl
    rotate_left
    · simp only [Act.put, List.setIfInBounds_toArray, List.set_cons_zero, List.set_cons_succ, i64_w, i32_w]
      rfl
    refine pure_ (i := 14) (N := some 37) (v := ?_) (a' := ?_) #[true, true, true, true, true, true, true, true, true, true, true, true, true, false, true, false, false, false, false, false, false, false, false, false, false, false, false, false, false] rfl rfl (by kernel_rfl) (fun _ _ _ h => h) (Or.inl ⟨by rfl, ?_⟩) ?_ ?_
    rotate_left
    · intro w'
      go_simp
      with_reducible rfl
    rotate_left
    · simp only [Act.put, List.setIfInBounds_toArray, List.set_cons_zero, List.set_cons_succ, i64_w, i32_w]
      rfl
    refine pure_ (i := 16) (N := some 39) (v := ?_) (a' := ?_) #[true, true, true, true, true, true, true, true, true, true, true, true, true, false, true, false, true, false, false, false, false, false, false, false, false, false, false, false, false] rfl rfl (by kernel_rfl) (fun _ _ _ h => h) (Or.inl ⟨by rfl, ?_⟩) ?_ ?_
    rotate_left
    · intro w'
      go_simp
      with_reducible rfl
    rotate_left
    · simp only [Act.put, List.setIfInBounds_toArray, List.set_cons_zero, List.set_cons_succ, i64_w, i32_w]
      rfl
    refine take_ (i := 13) (N := some 36) (v := ?_) (a' := ?_) #[true, true, true, true, true, true, true, true, true, true, true, true, true, true, true, false, true, false, false, false, false, false, false, false, false, false, false, false, false] rfl rfl (by kernel_rfl) (fun _ _ _ h => h) (Or.inl ⟨by rfl, ?_⟩) hHeld ?_ ?_
    rotate_left
    · rintro w' ⟨s0, s1, s2, s3, s4⟩
      go_simp
      with_reducible rfl
    rotate_left
    · simp only [Act.put, List.setIfInBounds_toArray, List.set_cons_zero, List.set_cons_succ, i64_w, i32_w]
      rfl
    refine take_ (i := 15) (N := some 38) (v := ?_) (a' := ?_) #[true, true, true, true, true, true, true, true, true, true, true, true, true, true, true, true, true, false, false, false, false, false, false, false, false, false, false, false, false] rfl rfl (by kernel_rfl) (fun _ _ _ h => h) (Or.inl ⟨by rfl, ?_⟩) hHeld ?_ ?_
    rotate_left
    · rintro w' ⟨s0, s1, s2, s3, s4⟩
      go_simp
      with_reducible rfl
    rotate_left
    · simp only [Act.put, List.setIfInBounds_toArray, List.set_cons_zero, List.set_cons_succ, i64_w, i32_w]
      rfl
    refine take_ (i := 17) (N := some 40) (v := ?_) (a' := ?_) #[true, true, true, true, true, true, true, true, true, true, true, true, true, true, true, true, true, true, false, false, false, false, false, false, false, false, false, false, false] rfl rfl (by kernel_rfl) (fun _ _ _ h => h) (Or.inl ⟨by rfl, ?_⟩) hHeld ?_ ?_
    rotate_left
    · rintro w' ⟨s0, s1, s2, s3, s4⟩
      go_simp
      with_reducible rfl
    rotate_left
    · simp only [Act.put, List.setIfInBounds_toArray, List.set_cons_zero, List.set_cons_succ, i64_w, i32_w]
      rfl
    refine one_ (i := 18) (N := some 41) #[true, true, true, true, true, true, true, true, true, true, true, true, true, true, true, true, true, true, true, false, false, false, false, false, false, false, false, false, false] rfl rfl (by kernel_rfl) (by decide) (fun K hK => ?_)
    refine goesV_ HFN.out.1 HFN.out.2.1 HFN.out.2.2 (#[.int .i64 x2, .int .i64 x1] ++ caps) (by rfl) rfl rfl (by rfl) (by simp only [List.map_toArray, List.map_cons, List.map_nil]; rfl) ?_
    with_reducible refine (H21.out _ F8.out).mono ?_
    rintro e w9 ⟨rfl, hf8⟩
    refine ⟨_, rfl, ?_⟩
    have K9 := Aside0.mk (K8.out.no hf8)
    have F9 := Aside0.mk (F8.out.on hf8)
    have EF9 := Aside0.mk (EF8.out.on hf8)
    clear hf8
    refine hK.out _ _ ⟨K9.out.cells.1, K9.out.cells.2.1, K9.out.cells.2.2.1, K9.out.cells.2.2.2.1, K9.out.cells.2.2.2.2⟩ (fun hHeld => ?_)
    clear hK K
    refine norm_ (a' := ?_) ?_ ?_
    rotate_left
    · show Act.put _ (some 41) _ = _
      simp only [Act.put, List.setIfInBounds_toArray, List.set_cons_zero, List.set_cons_succ, i64_w, i32_w]
      rfl
    refine pure_ (i := 19) (N := some 42) (v := ?_) (a' := ?_) #[true, true, true, true, true, true, true, true, true, true, true, true, true, true, true, true, true, true, true, true, false, false, false, false, false, false, false, false, false] rfl rfl (by kernel_rfl) (fun _ _ _ h => h) (Or.inl ⟨by rfl, ?_⟩) ?_ ?_
    rotate_left
    · intro w'
      go_simp
      with_reducible rfl
    rotate_left
    · simp only [Act.put, List.setIfInBounds_toArray, List.set_cons_zero, List.set_cons_succ, i64_w, i32_w]
      rfl
    refine pure_ (i := 20) (N := some 43) (v := ?_) (a' := ?_) #[true, true, true, true, true, true, true, true, true, true, true, true, true, true, true, true, true, true, true, true, true, false, false, false, false, false, false, false, false] rfl rfl (by kernel_rfl) (fun _ _ _ h => h) (Or.inl ⟨by rfl, ?_⟩) ?_ ?_
    rotate_left
    · intro w'
      go_simp
      with_reducible rfl
    rotate_left
    · simp only [Act.put, List.setIfInBounds_toArray, List.set_cons_zero, List.set_cons_succ, i64_w, i32_w]
      rfl
    refine pure_ (i := 21) (N := some 44) (v := ?_) (a' := ?_) #[true, true, true, true, true, true, true, true, true, true, true, true, true, true, true, true, true, true, true, true, true, true, false, false, false, false, false, false, false] rfl rfl (by kernel_rfl) (fun _ _ _ h => h) (Or.inl ⟨by rfl, ?_⟩) ?_ ?_
    rotate_left
    · intro w'
      go_simp
      with_reducible rfl
    rotate_left
    · simp only [Act.put, List.setIfInBounds_toArray, List.set_cons_zero, List.set_cons_succ, i64_w, i32_w]
      rfl
    refine pure_ (i := 23) (N := some 46) (v := ?_) (a' := ?_) #[true, true, true, true, true, true, true, true, true, true, true, true, true, true, true, true, true, true, true, true, true, true, false, true, false, false, false, false, false] rfl rfl (by kernel_rfl) (fun _ _ _ h => h) (Or.inl ⟨by rfl, ?_⟩) ?_ ?_
    rotate_left
    · intro w'
      go_simp
      with_reducible rfl
    rotate_left
    · simp only [Act.put, List.setIfInBounds_toArray, List.set_cons_zero, List.set_cons_succ, i64_w, i32_w]
      rfl
    refine take_ (i := 22) (N := some 45) (v := ?_) (a' := ?_) #[true, true, true, true, true, true, true, true, true, true, true, true, true, true, true, true, true, true, true, true, true, true, true, true, false, false, false, false, false] rfl rfl (by kernel_rfl) (fun _ _ _ h => h) (Or.inl ⟨by rfl, ?_⟩) hHeld ?_ ?_
    rotate_left
    · rintro w' ⟨s0, s1, s2, s3, s4⟩
      go_simp
      with_reducible rfl
    rotate_left
    · simp only [Act.put, List.setIfInBounds_toArray, List.set_cons_zero, List.set_cons_succ, i64_w, i32_w]
      rfl
    refine take_ (i := 24) (N := some 47) (v := ?_) (a' := ?_) #[true, true, true, true, true, true, true, true, true, true, true, true, true, true, true, true, true, true, true, true, true, true, true, true, true, false, false, false, false] rfl rfl (by kernel_rfl) (fun _ _ _ h => h) (Or.inl ⟨by rfl, ?_⟩) hHeld ?_ ?_
    rotate_left
    · rintro w' ⟨s0, s1, s2, s3, s4⟩
      go_simp
      with_reducible rfl
    rotate_left
    · simp only [Act.put, List.setIfInBounds_toArray, List.set_cons_zero, List.set_cons_succ, i64_w, i32_w]
      rfl
    refine pure_ (i := 25) (N := some 48) (v := ?_) (a' := ?_) #[true, true, true, true, true, true, true, true, true, true, true, true, true, true, true, true, true, true, true, true, true, true, true, true, true, true, false, false, false] rfl rfl (by kernel_rfl) (fun _ _ _ h => h) (Or.inl ⟨by rfl, ?_⟩) ?_ ?_
    rotate_left
    · intro w'
      go_simp
      with_reducible rfl
    rotate_left
    · simp only [Act.put, List.setIfInBounds_toArray, List.set_cons_zero, List.set_cons_succ, i64_w, i32_w]
      rfl
    refine pure_ (i := 26) (N := some 49) (v := ?_) (a' := ?_) #[true, true, true, true, true, true, true, true, true, true, true, true, true, true, true, true, true, true, true, true, true, true, true, true, true, true, true, false, false] rfl rfl (by kernel_rfl) (fun _ _ _ h => h) (Or.inl ⟨by rfl, ?_⟩) ?_ ?_
    rotate_left
    · intro w'
      go_simp
      with_reducible rfl
    rotate_left
    · simp only [Act.put, List.setIfInBounds_toArray, List.set_cons_zero, List.set_cons_succ, i64_w, i32_w]
      rfl
    refine pure_ (i := 27) (N := some 50) (v := ?_) (a' := ?_) #[true, true, true, true, true, true, true, true, true, true, true, true, true, true, true, true, true, true, true, true, true, true, true, true, true, true, true, true, false] rfl rfl (by kernel_rfl) (fun _ _ _ h => h) (Or.inl ⟨by rfl, ?_⟩) ?_ ?_
    rotate_left
    · intro w'
      go_simp
      with_reducible rfl
    rotate_left
    · simp only [Act.put, List.setIfInBounds_toArray, List.set_cons_zero, List.set_cons_succ, i64_w, i32_w]
      rfl
    refine pure_ (i := 28) (N := some 6) (v := ?_) (a' := ?_) #[true, true, true, true, true, true, true, true, true, true, true, true, true, true, true, true, true, true, true, true, true, true, true, true, true, true, true, true, true] rfl rfl (by kernel_rfl) (fun _ _ _ h => h) (Or.inl ⟨by rfl, ?_⟩) ?_ ?_
    rotate_left
    · intro w'
      go_simp
      with_reducible rfl
    rotate_left
    · simp only [Act.put, List.setIfInBounds_toArray, List.set_cons_zero, List.set_cons_succ, i64_w, i32_w]
      rfl
    refine done_ (by kernel_rfl) ?_
    go_wp2
    go_ret
    exact ⟨rfl, EF9.out⟩


/-- The key of an entry, and its turn. -/
def kE (κ : Int → Int) (e : Int × Int) : Int := κ e.1
def tE (e : Int × Int) : Int := e.2
theorem HI.form {w0 w : World} {g : Nat} {fv : Value} {A : Option Addr} {c : Nat} {l : List (Int × Int)} {t : Int} (h : HI w0 w g fv A c l t) (hl : 0 < l.length) : ∃ gr, A = some ⟨gr, 0, none⟩ := by
  obtain ⟨gr, cp, e, _⟩ := Kd.R_form h.r hl
  simp only [Value.slice.injEq] at e
  exact ⟨gr, e.1⟩
/-- 'ahead', of any two. -/
theorem HI.ahead {w0 w : World} {g : Nat} {fv : Value} {A : Option Addr} {c : Nat} {l : List (Int × Int)} {t : Int} {κ : Int → Int} {D : Int → Prop} (h : HI w0 w g fv A c l t) (hv : LessV w0 fv κ D) (hD : ∀ e ∈ l, D e.1) (i k : Nat) (hi : i < l.length) (hk : k < l.length) :
    Calls Try.prog 84 #[.pointer (some ⟨g, 0, none⟩), .int .i64 i, .int .i64 k] w fun e w' => e = .returned (.bool (decide (hlt (kE κ) tE (l.getD i (0, 0)) (l.getD k (0, 0))))) ∧ Fr No w w' := by
  obtain ⟨gr, rfl⟩ := h.form (by omega)
  obtain ⟨f, fn, caps, rfl, hf1, hf2, hf3, hc⟩ := hv.is
  obtain ⟨a0, a1, _, _⟩ := E2_elem h.r i hi
  obtain ⟨b0, b1, _, _⟩ := E2_elem h.r k hk
  have d1 : D (l.getD i (0, 0)).1 := hD _ (by rw [getD_at _ _ _ hi]; exact List.getElem_mem hi)
  have d2 : D (l.getD k (0, 0)).1 := hD _ (by rw [getD_at _ _ _ hk]; exact List.getElem_mem hk)
  have hb := h.hb
  have hfr := h.fr
  clear h
  generalize l.getD i (0, 0) = e1 at a0 a1 d1 ⊢
  generalize l.getD k (0, 0) = e2 at b0 b1 d2 ⊢
  obtain ⟨x1, t1⟩ := e1
  obtain ⟨x2, t2⟩ := e2
  have hl : decide (hlt (kE κ) tE (x1, t1) (x2, t2)) = (decide (κ x1 < κ x2) || (!decide (κ x2 < κ x1) && decide (t1 < t2))) := by
    rw [Bool.eq_iff_iff]
    simp [hlt, kE, tE]
  rw [hl]
  have h12 := fun W hW => hc W hW x1 x2 d1 d2
  have h21 := fun W hW => hc W hW x2 x1 d2 d1
  by_cases c1 : κ x1 < κ x2
  · rw [decide_eq_true c1] at h12 ⊢
    exact aheadA hb hfr hi hk a0 a1 b0 b1 hf1 hf2 hf3 h12
  · rw [decide_eq_false c1] at h12 ⊢
    by_cases c2 : κ x2 < κ x1
    · rw [decide_eq_true c2] at h21 ⊢
      exact aheadB hb hfr hi hk a0 a1 b0 b1 hf1 hf2 hf3 h12 h21
    · rw [decide_eq_false c2] at h21 ⊢
      exact aheadC hb hfr hi hk a0 a1 b0 b1 hf1 hf2 hf3 h12 h21

end Go.Proofs.Ythlcognpfangkaa
