/- A heap of Items in memory: its state; the walks of less, ahead, swap (no condition but the state). -/
import Derived.Test.YthlcognpfangkaaHx
namespace Go.Proofs.Ythlcognpfangkaa
open Go.RowKit Go.Proofs.YthlcognpfangkaaW.PrintWords Go.Proofs.YthlcognpfangkaaW.PrintLast Go.Proofs.YthlcognpfangkaaW.PrintMore
set_option linter.unusedVariables false
set_option linter.unusedSimpArgs false

/-- The block of a heap of Items. -/
def Pb (w : World) (g : Nat) (v : Value) (t : Int) : Prop := w.heap[g]? = some (.cells #[.func (.func 19) #[] #[], v, .int .i64 t] 120 (0, 0))
section
variable {w : World} {g : Nat} {v : Value} {t : Int}
theorem Pb.cells (h : Pb w g v t) : w.cell? ⟨g, 0, none⟩ = some (.func (.func 19) #[] #[]) ∧ w.cell? ⟨g, 1, none⟩ = some v ∧ w.cell? ⟨g, 2, none⟩ = some (.int .i64 t) :=
  ⟨(blk_cell h 0).trans rfl, (blk_cell h 1).trans rfl, (blk_cell h 2).trans rfl⟩
theorem Pb.free (h : Pb w g v t) : w.frozen? ⟨g, 1, none⟩ = false ∧ w.frozen? ⟨g, 2, none⟩ = false := ⟨blk_frozen h 1, blk_frozen h 2⟩
theorem Pb.set1 (h : Pb w g v t) (x : Value) : Pb (w.setCell ⟨g, 1, none⟩ x) g x t := blk_set h 1 _
theorem Pb.set2 (h : Pb w g v t) (x : Int) : Pb (w.setCell ⟨g, 2, none⟩ (.int .i64 x)) g v x := blk_set h 2 _
end
/-- Items; entries of Items: one, and its turn. -/
abbrev EI : Kd (Int × ByteArray) := Kd.pair (Kd.int .i64) Kd.string
abbrev E3 : Kd ((Int × ByteArray) × Int) := Kd.pair EI (Kd.int .i64)
abbrev z3 : (Int × ByteArray) × Int := ((0, ByteArray.empty), 0)
/-- A heap of Items that was made since w0. -/
structure HP (w0 w : World) (g : Nat) (A : Option Addr) (c : Nat) (l : List ((Int × ByteArray) × Int)) (t : Int) : Prop where
  hb : Pb w g (.slice A l.length c) t
  r : Kd.R E3 122 w w0.heap.size (fun _ => True) (.slice A l.length c) l
  ge : w0.heap.size ≤ g
  fr : Fr No w0 w
theorem HP.no {w0 w : World} {g : Nat} {A : Option Addr} {c : Nat} {l : List ((Int × ByteArray) × Int)} {t : Int} (h : HP w0 w g A c l t) {W : World} (hf : Fr No w W) : HP w0 W g A c l t :=
  ⟨hf.blk h.hb (fun h => h.elim), hf.Rlow h.r (fun _ h => h.elim), h.ge, h.fr.on hf⟩
theorem E3_elem {w : World} {base gr n c : Nat} {ok : Nat → Prop} {xs : List ((Int × ByteArray) × Int)} (h : Kd.R E3 122 w base ok (.slice (some ⟨gr, 0, none⟩) n c) xs) (i : Nat) (hi : i < n) :
    (w.cell? ⟨gr, i * 3, none⟩ = some (.int .i64 (xs.getD i z3).1.1) ∧ w.cell? ⟨gr, i * 3 + 1, none⟩ = some (.string (xs.getD i z3).1.2) ∧ w.cell? ⟨gr, i * 3 + 2, none⟩ = some (.int .i64 (xs.getD i z3).2)) ∧ w.frozen? ⟨gr, i * 3, none⟩ = false ∧ w.frozen? ⟨gr, i * 3 + 1, none⟩ = false ∧ w.frozen? ⟨gr, i * 3 + 2, none⟩ = false := by
  obtain ⟨cs, hl, hM, hc, hf⟩ := Kd.R_elem h z3 (i : Int) (by omega) (by omega)
  rw [Int.toNat_natCast] at hM hc hf
  obtain ⟨c0, c1, rfl, h0, h1⟩ := hM
  obtain ⟨c2, c3, rfl, h2, h3⟩ := h0
  obtain rfl := (show c1 = [Value.int .i64 _] from h1)
  obtain rfl := (show c2 = [Value.int .i64 _] from h2)
  obtain rfl := (show c3 = [Value.string _] from h3)
  exact ⟨⟨hc 0 _ rfl, hc 1 _ rfl, hc 2 _ rfl⟩, hf 0, hf 1, hf 2⟩
theorem HP.form {w0 w : World} {g : Nat} {A : Option Addr} {c : Nat} {l : List ((Int × ByteArray) × Int)} {t : Int} (h : HP w0 w g A c l t) (hl : 0 < l.length) : ∃ gr, A = some ⟨gr, 0, none⟩ := by
  obtain ⟨gr, cp, e, _⟩ := Kd.R_form h.r hl
  simp only [Value.slice.injEq] at e
  exact ⟨gr, e.1⟩
/-- 'a.Key < b.Key'. -/
theorem less19 (k1 k2 : Int) (s1 s2 : ByteArray) (w : World) : Calls Try.prog 19 #[.agg #[.int .i64 k1, .string s1], .agg #[.int .i64 k2, .string s2]] w fun e w' => e = .returned (.bool (decide (k1 < k2))) ∧ Fr No w w' := by
  go_enter Try.func19, Try.ntmps19
  go_wp2
  go_ret
  exact ⟨rfl, ((Fr.refl No w).alloc _).alloc _⟩
/-- The two copies, and the heap's less. -/
structure AP (W : World) (g ga gb : Nat) (k1 : Int) (s1 : ByteArray) (t1 k2 : Int) (s2 : ByteArray) (t2 : Int) : Prop where
  f : W.cell? ⟨g, 0, none⟩ = some (.func (.func 19) #[] #[])
  a : W.heap[ga]? = some (.cells #[.int .i64 k1, .string s1, .int .i64 t1] 122 (0, 0))
  b : W.heap[gb]? = some (.cells #[.int .i64 k2, .string s2, .int .i64 t2] 122 (0, 0))
section
variable {W : World} {g ga gb : Nat} {k1 t1 k2 t2 : Int} {s1 s2 : ByteArray}
theorem AP.no (h : AP W g ga gb k1 s1 t1 k2 s2 t2) {W2 : World} (hf : Fr No W W2) : AP W2 g ga gb k1 s1 t1 k2 s2 t2 := ⟨pw_cell_below hf.no h.f, hf.blk h.a (fun h => h.elim), hf.blk h.b (fun h => h.elim)⟩
theorem AP.cells (h : AP W g ga gb k1 s1 t1 k2 s2 t2) : W.cell? ⟨g, 0, none⟩ = some (.func (.func 19) #[] #[]) ∧ W.cell? ⟨ga, 0, none⟩ = some (.int .i64 k1) ∧ W.cell? ⟨ga, 1, none⟩ = some (.string s1) ∧ W.cell? ⟨ga, 2, none⟩ = some (.int .i64 t1) ∧ W.cell? ⟨gb, 0, none⟩ = some (.int .i64 k2) ∧ W.cell? ⟨gb, 1, none⟩ = some (.string s2) ∧ W.cell? ⟨gb, 2, none⟩ = some (.int .i64 t2) :=
  ⟨h.f, (blk_cell h.a 0).trans rfl, (blk_cell h.a 1).trans rfl, (blk_cell h.a 2).trans rfl, (blk_cell h.b 0).trans rfl, (blk_cell h.b 1).trans rfl, (blk_cell h.b 2).trans rfl⟩
end


set_option maxHeartbeats 8000000 in
set_option maxRecDepth 100000 in
theorem paheadA {w : World} {g gr : Nat} {n c i k : Nat} {t k1 t1 k2 t2 : Int} {s1 s2 : ByteArray} (h : Pb w g (.slice (some ⟨gr, 0, none⟩) n c) t) (hi : i < n) (hk : k < n)
    (a0 : w.cell? ⟨gr, i * 3, none⟩ = some (.int .i64 k1)) (a1 : w.cell? ⟨gr, i * 3 + 1, none⟩ = some (.string s1)) (a2 : w.cell? ⟨gr, i * 3 + 2, none⟩ = some (.int .i64 t1)) (b0 : w.cell? ⟨gr, k * 3, none⟩ = some (.int .i64 k2)) (b1 : w.cell? ⟨gr, k * 3 + 1, none⟩ = some (.string s2)) (b2 : w.cell? ⟨gr, k * 3 + 2, none⟩ = some (.int .i64 t2))
    (h12 : ∀ W, Calls Try.prog 19 #[.agg #[.int .i64 k1, .string s1], .agg #[.int .i64 k2, .string s2]] W fun e w' => e = .returned (.bool true) ∧ Fr No W w') :
    Calls Try.prog 82 #[.pointer (some ⟨g, 0, none⟩), .int .i64 i, .int .i64 k] w fun e w' => e = .returned (.bool true) ∧ Fr No w w' := by
  obtain ⟨q0, q1, q2⟩ := h.cells
  have hi0 : (0 : Int) ≤ i := by omega
  have hi1 : (i : Int) < n := by omega
  have hk0 : (0 : Int) ≤ k := by omega
  have hk1 : (k : Int) < n := by omega
  have Q0 := Aside0.mk q0
  have H12 := Aside0.mk h12
  have hu := Try.underlying122
  have hu27 := Try.underlying27
  clear h q0 q2 hi hk h12
  go_enter Try.func82, Try.ntmps82
  go_wp2
  go_region_held3 (fun w' => w'.cell? ⟨g, 1, none⟩ = some (.slice (some ⟨gr, 0, none⟩) n c) ∧ w'.cell? ⟨gr, i * 3, none⟩ = some (.int .i64 k1) ∧ w'.cell? ⟨gr, i * 3 + 1, none⟩ = some (.string s1) ∧ w'.cell? ⟨gr, i * 3 + 2, none⟩ = some (.int .i64 t1) ∧ w'.cell? ⟨gr, k * 3, none⟩ = some (.int .i64 k2) ∧ w'.cell? ⟨gr, k * 3 + 1, none⟩ = some (.string s2) ∧ w'.cell? ⟨gr, k * 3 + 2, none⟩ = some (.int .i64 t2)) (go_keep) (fail)
  all_goals go_wp2_with (fail)
  have F1 := Aside0.mk (((Fr.refl No w).alloc (.cells #[.int .i64 k1, .string s1, .int .i64 t1] 122)).alloc (.cells #[.int .i64 k2, .string s2, .int .i64 t2] 122)).drew
  have K1 := Aside0.mk (show AP ((w.alloc (.cells #[.int .i64 k1, .string s1, .int .i64 t1] 122)).alloc (.cells #[.int .i64 k2, .string s2, .int .i64 t2] 122)).drew g (w.heap.size) (w.heap.size + 1) k1 s1 t1 k2 s2 t2 from ⟨pw_cell_below F1.out.no Q0.out, ((Fr.refl No _).alloc _).blk (blk_new w _) (fun h => h.elim), by have := blk_new (w.alloc (.cells #[.int .i64 k1, .string s1, .int .i64 t1] 122)) (.cells #[.int .i64 k2, .string s2, .int .i64 t2] 122); rw [show (w.alloc (.cells #[.int .i64 k1, .string s1, .int .i64 t1] 122)).heap.size = w.heap.size + 1 from by simp] at this; exact this⟩)
  generalize ((w.alloc (.cells #[.int .i64 k1, .string s1, .int .i64 t1] 122)).alloc (.cells #[.int .i64 k2, .string s2, .int .i64 t2] 122)).drew = w1 at F1 K1 ⊢
  generalize w.heap.size + 1 = gb at K1 ⊢
  generalize w.heap.size = ga at K1 ⊢
  rotate_left
  have F1 := Aside0.mk (((Fr.refl No w).alloc (.cells #[.int .i64 k2, .string s2, .int .i64 t2] 122)).alloc (.cells #[.int .i64 k1, .string s1, .int .i64 t1] 122)).drew
  have K1 := Aside0.mk (show AP ((w.alloc (.cells #[.int .i64 k2, .string s2, .int .i64 t2] 122)).alloc (.cells #[.int .i64 k1, .string s1, .int .i64 t1] 122)).drew g (w.heap.size + 1) (w.heap.size) k1 s1 t1 k2 s2 t2 from ⟨pw_cell_below F1.out.no Q0.out, by have := blk_new (w.alloc (.cells #[.int .i64 k2, .string s2, .int .i64 t2] 122)) (.cells #[.int .i64 k1, .string s1, .int .i64 t1] 122); rw [show (w.alloc (.cells #[.int .i64 k2, .string s2, .int .i64 t2] 122)).heap.size = w.heap.size + 1 from by simp] at this; exact this, ((Fr.refl No _).alloc _).blk (blk_new w _) (fun h => h.elim)⟩)
  generalize ((w.alloc (.cells #[.int .i64 k2, .string s2, .int .i64 t2] 122)).alloc (.cells #[.int .i64 k1, .string s1, .int .i64 t1] 122)).drew = w1 at F1 K1 ⊢
  generalize w.heap.size + 1 = ga at K1 ⊢
  generalize w.heap.size = gb at K1 ⊢
  rotate_left
  all_goals
    clear q1 a0 a1 a2 b0 b1 b2
    have KD := Aside0.mk (K1.out.no (Fr.refl No w1).drew)
    have FD := Aside0.mk (F1.out.on (Fr.refl No w1).drew)
    clear K1
    refine start_ (n := 29) (S := fun w' => w'.cell? ⟨g, 0, none⟩ = some (.func (.func 19) #[] #[]) ∧ w'.cell? ⟨ga, 0, none⟩ = some (.int .i64 k1) ∧ w'.cell? ⟨ga, 1, none⟩ = some (.string s1) ∧ w'.cell? ⟨ga, 2, none⟩ = some (.int .i64 t1) ∧ w'.cell? ⟨gb, 0, none⟩ = some (.int .i64 k2) ∧ w'.cell? ⟨gb, 1, none⟩ = some (.string s2) ∧ w'.cell? ⟨gb, 2, none⟩ = some (.int .i64 t2)) (ds := []) #[false, false, false, false, false, false, false, false, false, false, false, false, false, false, false, false, false, false, false, false, false, false, false, false, false, false, false, false, false] (by kernel_rfl) rfl rfl ⟨KD.out.cells.1, KD.out.cells.2.1, KD.out.cells.2.2.1, KD.out.cells.2.2.2.1, KD.out.cells.2.2.2.2.1, KD.out.cells.2.2.2.2.2.1, KD.out.cells.2.2.2.2.2.2⟩ (fun hHeld => ?_)
    refine pure_ (i := 0) (N := some 23) (v := ?_) (a' := ?_) #[true, false, false, false, false, false, false, false, false, false, false, false, false, false, false, false, false, false, false, false, false, false, false, false, false, false, false, false, false] rfl rfl (by kernel_rfl) (fun _ _ _ h => h) (Or.inl ⟨by rfl, ?_⟩) ?_ ?_
    rotate_left
    · intro w'
      go_simp
      with_reducible rfl
    rotate_left
    · simp only [Act.put, List.setIfInBounds_toArray, List.set_cons_zero, List.set_cons_succ, i64_w, i32_w]
      rfl
    refine pure_ (i := 1) (N := some 24) (v := ?_) (a' := ?_) #[true, true, false, false, false, false, false, false, false, false, false, false, false, false, false, false, false, false, false, false, false, false, false, false, false, false, false, false, false] rfl rfl (by kernel_rfl) (fun _ _ _ h => h) (Or.inl ⟨by rfl, ?_⟩) ?_ ?_
    rotate_left
    · intro w'
      go_simp
      with_reducible rfl
    rotate_left
    · simp only [Act.put, List.setIfInBounds_toArray, List.set_cons_zero, List.set_cons_succ, i64_w, i32_w]
      rfl
    refine pure_ (i := 2) (N := some 25) (v := ?_) (a' := ?_) #[true, true, true, false, false, false, false, false, false, false, false, false, false, false, false, false, false, false, false, false, false, false, false, false, false, false, false, false, false] rfl rfl (by kernel_rfl) (fun _ _ _ h => h) (Or.inl ⟨by rfl, ?_⟩) ?_ ?_
    rotate_left
    · intro w'
      go_simp
      with_reducible rfl
    rotate_left
    · simp only [Act.put, List.setIfInBounds_toArray, List.set_cons_zero, List.set_cons_succ, i64_w, i32_w]
      rfl
    refine pure_ (i := 4) (N := some 27) (v := ?_) (a' := ?_) #[true, true, true, false, true, false, false, false, false, false, false, false, false, false, false, false, false, false, false, false, false, false, false, false, false, false, false, false, false] rfl rfl (by kernel_rfl) (fun _ _ _ h => h) (Or.inl ⟨by rfl, ?_⟩) ?_ ?_
    rotate_left
    · intro w'
      go_simp
      with_reducible rfl
    rotate_left
    · simp only [Act.put, List.setIfInBounds_toArray, List.set_cons_zero, List.set_cons_succ, i64_w, i32_w]
      rfl
    refine pure_ (i := 6) (N := some 29) (v := ?_) (a' := ?_) #[true, true, true, false, true, false, true, false, false, false, false, false, false, false, false, false, false, false, false, false, false, false, false, false, false, false, false, false, false] rfl rfl (by kernel_rfl) (fun _ _ _ h => h) (Or.inl ⟨by rfl, ?_⟩) ?_ ?_
    rotate_left
    · intro w'
      go_simp
      with_reducible rfl
    rotate_left
    · simp only [Act.put, List.setIfInBounds_toArray, List.set_cons_zero, List.set_cons_succ, i64_w, i32_w]
      rfl
    refine take_ (i := 3) (N := some 26) (v := ?_) (a' := ?_) #[true, true, true, true, true, false, true, false, false, false, false, false, false, false, false, false, false, false, false, false, false, false, false, false, false, false, false, false, false] rfl rfl (by kernel_rfl) (fun _ _ _ h => h) (Or.inl ⟨by rfl, ?_⟩) hHeld ?_ ?_
    rotate_left
    · rintro w' ⟨s0, s1, s2, s3, s4, s5, s6⟩
      go_simp
      with_reducible rfl
    rotate_left
    · simp only [Act.put, List.setIfInBounds_toArray, List.set_cons_zero, List.set_cons_succ, i64_w, i32_w]
      rfl
    refine take_ (i := 5) (N := some 28) (v := ?_) (a' := ?_) #[true, true, true, true, true, true, true, false, false, false, false, false, false, false, false, false, false, false, false, false, false, false, false, false, false, false, false, false, false] rfl rfl (by kernel_rfl) (fun _ _ _ h => h) (Or.inl ⟨by rfl, ?_⟩) hHeld ?_ ?_
    rotate_left
    · rintro w' ⟨s0, s1, s2, s3, s4, s5, s6⟩
      go_simp
      with_reducible rfl
    rotate_left
    · simp only [Act.put, List.setIfInBounds_toArray, List.set_cons_zero, List.set_cons_succ, i64_w, i32_w]
      rfl
    refine take_ (i := 7) (N := some 30) (v := ?_) (a' := ?_) #[true, true, true, true, true, true, true, true, false, false, false, false, false, false, false, false, false, false, false, false, false, false, false, false, false, false, false, false, false] rfl rfl (by kernel_rfl) (fun _ _ _ h => h) (Or.inl ⟨by rfl, ?_⟩) hHeld ?_ ?_
    rotate_left
    · rintro w' ⟨s0, s1, s2, s3, s4, s5, s6⟩
      go_simp
      with_reducible rfl
    rotate_left
    · simp only [Act.put, List.setIfInBounds_toArray, List.set_cons_zero, List.set_cons_succ, i64_w, i32_w]
      rfl
    refine one_ (i := 8) (N := some 31) #[true, true, true, true, true, true, true, true, true, false, false, false, false, false, false, false, false, false, false, false, false, false, false, false, false, false, false, false, false] rfl rfl (by kernel_rfl) (by decide) (fun K hK => ?_)
    refine goesV_ Try.func19 (by kernel_rfl) rfl #[.agg #[.int .i64 k1, .string s1], .agg #[.int .i64 k2, .string s2]] (by rfl) rfl rfl (by rfl) (by simp only [List.map_toArray, List.map_cons, List.map_nil]; rfl) ?_
    with_reducible refine (H12.out _).mono ?_
    rintro e w8 ⟨rfl, hf8⟩
    refine ⟨_, rfl, ?_⟩
    have K8 := Aside0.mk (KD.out.no hf8)
    have F8 := Aside0.mk (FD.out.on hf8)
    clear hf8
    refine hK.out _ _ ⟨K8.out.cells.1, K8.out.cells.2.1, K8.out.cells.2.2.1, K8.out.cells.2.2.2.1, K8.out.cells.2.2.2.2.1, K8.out.cells.2.2.2.2.2.1, K8.out.cells.2.2.2.2.2.2⟩ (fun hHeld => ?_)
    clear hK K
    refine norm_ (a' := ?_) ?_ ?_
    rotate_left
    · show Act.put _ (some 31) _ = _
      simp only [Act.put, List.setIfInBounds_toArray, List.set_cons_zero, List.set_cons_succ, i64_w, i32_w]
      rfl
    refine pure_ (i := 9) (N := some 32) (v := ?_) (a' := ?_) #[true, true, true, true, true, true, true, true, true, true, false, false, false, false, false, false, false, false, false, false, false, false, false, false, false, false, false, false, false] rfl rfl (by kernel_rfl) (fun _ _ _ h => h) (Or.inl ⟨by rfl, ?_⟩) ?_ ?_
    rotate_left
    · intro w'
      go_simp
      with_reducible rfl
    rotate_left
    · simp only [Act.put, List.setIfInBounds_toArray, List.set_cons_zero, List.set_cons_succ, i64_w, i32_w]
      rfl
    refine pure_ (i := 10) (N := some 33) (v := undef) (a' := ?_) #[true, true, true, true, true, true, true, true, true, true, true, false, false, false, false, false, false, false, false, false, false, false, false, false, false, false, false, false, false] rfl rfl (by kernel_rfl) (fun _ _ _ h => h) (Or.inr ⟨by rfl, rfl⟩) ?_ ?_
    rotate_left
    · simp only [Act.put, List.setIfInBounds_toArray, List.set_cons_zero, List.set_cons_succ, i64_w, i32_w]
      rfl
    refine pure_ (i := 11) (N := some 34) (v := undef) (a' := ?_) #[true, true, true, true, true, true, true, true, true, true, true, true, false, false, false, false, false, false, false, false, false, false, false, false, false, false, false, false, false] rfl rfl (by kernel_rfl) (fun _ _ _ h => h) (Or.inr ⟨by rfl, rfl⟩) ?_ ?_
    rotate_left
    · simp only [Act.put, List.setIfInBounds_toArray, List.set_cons_zero, List.set_cons_succ, i64_w, i32_w]
      rfl
    refine pure_ (i := 12) (N := some 35) (v := undef) (a' := ?_) #[true, true, true, true, true, true, true, true, true, true, true, true, true, false, false, false, false, false, false, false, false, false, false, false, false, false, false, false, false] rfl rfl (by kernel_rfl) (fun _ _ _ h => h) (Or.inr ⟨by rfl, rfl⟩) ?_ ?_
    rotate_left
    · simp only [Act.put, List.setIfInBounds_toArray, List.set_cons_zero, List.set_cons_succ, i64_w, i32_w]
      rfl
    refine pure_ (i := 13) (N := some 36) (v := undef) (a' := ?_) #[true, true, true, true, true, true, true, true, true, true, true, true, true, true, false, false, false, false, false, false, false, false, false, false, false, false, false, false, false] rfl rfl (by kernel_rfl) (fun _ _ _ h => h) (Or.inr ⟨by rfl, rfl⟩) ?_ ?_
    rotate_left
    · simp only [Act.put, List.setIfInBounds_toArray, List.set_cons_zero, List.set_cons_succ, i64_w, i32_w]
      rfl
    refine pure_ (i := 14) (N := some 37) (v := undef) (a' := ?_) #[true, true, true, true, true, true, true, true, true, true, true, true, true, true, true, false, false, false, false, false, false, false, false, false, false, false, false, false, false] rfl rfl (by kernel_rfl) (fun _ _ _ h => h) (Or.inr ⟨by rfl, rfl⟩) ?_ ?_
    rotate_left
    · simp only [Act.put, List.setIfInBounds_toArray, List.set_cons_zero, List.set_cons_succ, i64_w, i32_w]
      rfl
    refine pure_ (i := 15) (N := some 38) (v := undef) (a' := ?_) #[true, true, true, true, true, true, true, true, true, true, true, true, true, true, true, true, false, false, false, false, false, false, false, false, false, false, false, false, false] rfl rfl (by kernel_rfl) (fun _ _ _ h => h) (Or.inr ⟨by rfl, rfl⟩) ?_ ?_
    rotate_left
    · simp only [Act.put, List.setIfInBounds_toArray, List.set_cons_zero, List.set_cons_succ, i64_w, i32_w]
      rfl
    refine pure_ (i := 16) (N := some 39) (v := undef) (a' := ?_) #[true, true, true, true, true, true, true, true, true, true, true, true, true, true, true, true, true, false, false, false, false, false, false, false, false, false, false, false, false] rfl rfl (by kernel_rfl) (fun _ _ _ h => h) (Or.inr ⟨by rfl, rfl⟩) ?_ ?_
    rotate_left
    · simp only [Act.put, List.setIfInBounds_toArray, List.set_cons_zero, List.set_cons_succ, i64_w, i32_w]
      rfl
    refine pure_ (i := 17) (N := some 40) (v := undef) (a' := ?_) #[true, true, true, true, true, true, true, true, true, true, true, true, true, true, true, true, true, true, false, false, false, false, false, false, false, false, false, false, false] rfl rfl (by kernel_rfl) (fun _ _ _ h => h) (Or.inr ⟨by rfl, rfl⟩) ?_ ?_
    rotate_left
    · simp only [Act.put, List.setIfInBounds_toArray, List.set_cons_zero, List.set_cons_succ, i64_w, i32_w]
      rfl
    refine pure_ (i := 18) (N := some 41) (v := undef) (a' := ?_) #[true, true, true, true, true, true, true, true, true, true, true, true, true, true, true, true, true, true, true, false, false, false, false, false, false, false, false, false, false] rfl rfl (by kernel_rfl) (fun _ _ _ h => h) (Or.inr ⟨by rfl, rfl⟩) ?_ ?_
    rotate_left
    · simp only [Act.put, List.setIfInBounds_toArray, List.set_cons_zero, List.set_cons_succ, i64_w, i32_w]
      rfl
    refine pure_ (i := 19) (N := some 42) (v := undef) (a' := ?_) #[true, true, true, true, true, true, true, true, true, true, true, true, true, true, true, true, true, true, true, true, false, false, false, false, false, false, false, false, false] rfl rfl (by kernel_rfl) (fun _ _ _ h => h) (Or.inr ⟨by rfl, rfl⟩) ?_ ?_
    rotate_left
    · simp only [Act.put, List.setIfInBounds_toArray, List.set_cons_zero, List.set_cons_succ, i64_w, i32_w]
      rfl
    refine pure_ (i := 20) (N := some 43) (v := undef) (a' := ?_) #[true, true, true, true, true, true, true, true, true, true, true, true, true, true, true, true, true, true, true, true, true, false, false, false, false, false, false, false, false] rfl rfl (by kernel_rfl) (fun _ _ _ h => h) (Or.inr ⟨by rfl, rfl⟩) ?_ ?_
    rotate_left
    · simp only [Act.put, List.setIfInBounds_toArray, List.set_cons_zero, List.set_cons_succ, i64_w, i32_w]
      rfl
    refine pure_ (i := 21) (N := some 44) (v := undef) (a' := ?_) #[true, true, true, true, true, true, true, true, true, true, true, true, true, true, true, true, true, true, true, true, true, true, false, false, false, false, false, false, false] rfl rfl (by kernel_rfl) (fun _ _ _ h => h) (Or.inr ⟨by rfl, rfl⟩) ?_ ?_
    rotate_left
    · simp only [Act.put, List.setIfInBounds_toArray, List.set_cons_zero, List.set_cons_succ, i64_w, i32_w]
      rfl
    refine pure_ (i := 22) (N := some 45) (v := undef) (a' := ?_) #[true, true, true, true, true, true, true, true, true, true, true, true, true, true, true, true, true, true, true, true, true, true, true, false, false, false, false, false, false] rfl rfl (by kernel_rfl) (fun _ _ _ h => h) (Or.inr ⟨by rfl, rfl⟩) ?_ ?_
    rotate_left
    · simp only [Act.put, List.setIfInBounds_toArray, List.set_cons_zero, List.set_cons_succ, i64_w, i32_w]
      rfl
    refine pure_ (i := 23) (N := some 46) (v := undef) (a' := ?_) #[true, true, true, true, true, true, true, true, true, true, true, true, true, true, true, true, true, true, true, true, true, true, true, true, false, false, false, false, false] rfl rfl (by kernel_rfl) (fun _ _ _ h => h) (Or.inr ⟨by rfl, rfl⟩) ?_ ?_
    rotate_left
    · simp only [Act.put, List.setIfInBounds_toArray, List.set_cons_zero, List.set_cons_succ, i64_w, i32_w]
      rfl
    refine pure_ (i := 24) (N := some 47) (v := undef) (a' := ?_) #[true, true, true, true, true, true, true, true, true, true, true, true, true, true, true, true, true, true, true, true, true, true, true, true, true, false, false, false, false] rfl rfl (by kernel_rfl) (fun _ _ _ h => h) (Or.inr ⟨by rfl, rfl⟩) ?_ ?_
    rotate_left
    · simp only [Act.put, List.setIfInBounds_toArray, List.set_cons_zero, List.set_cons_succ, i64_w, i32_w]
      rfl
    refine pure_ (i := 25) (N := some 48) (v := undef) (a' := ?_) #[true, true, true, true, true, true, true, true, true, true, true, true, true, true, true, true, true, true, true, true, true, true, true, true, true, true, false, false, false] rfl rfl (by kernel_rfl) (fun _ _ _ h => h) (Or.inr ⟨by rfl, rfl⟩) ?_ ?_
    rotate_left
    · simp only [Act.put, List.setIfInBounds_toArray, List.set_cons_zero, List.set_cons_succ, i64_w, i32_w]
      rfl
    refine pure_ (i := 26) (N := some 49) (v := undef) (a' := ?_) #[true, true, true, true, true, true, true, true, true, true, true, true, true, true, true, true, true, true, true, true, true, true, true, true, true, true, true, false, false] rfl rfl (by kernel_rfl) (fun _ _ _ h => h) (Or.inr ⟨by rfl, rfl⟩) ?_ ?_
    rotate_left
    · simp only [Act.put, List.setIfInBounds_toArray, List.set_cons_zero, List.set_cons_succ, i64_w, i32_w]
      rfl
    refine pure_ (i := 27) (N := some 50) (v := ?_) (a' := ?_) #[true, true, true, true, true, true, true, true, true, true, true, true, true, true, true, true, true, true, true, true, true, true, true, true, true, true, true, true, false] rfl rfl (by kernel_rfl) (fun _ _ _ h => h) (Or.inl ⟨by rfl, ?_⟩) ?_ ?_
    rotate_left
    · intro w'
      go_simp
      with_reducible rfl
    rotate_left
    · simp only [Act.put, List.setIfInBounds_toArray, List.set_cons_zero, List.set_cons_succ, i64_w, i32_w]
      rfl
    refine pure_ (i := 28) (N := some 6) (v := ?_) (a' := ?_) #[true, true, true, true, true, true, true, true, true, true, true, true, true, true, true, true, true, true, true, true, true, true, true, true, true, true, true, true, true] rfl rfl (by kernel_rfl) (fun _ _ _ h => h) (Or.inl ⟨by rfl, ?_⟩) ?_ ?_
    rotate_left
    · intro w'
      go_simp
      with_reducible rfl
    rotate_left
    · simp only [Act.put, List.setIfInBounds_toArray, List.set_cons_zero, List.set_cons_succ, i64_w, i32_w]
      rfl
    refine done_ (by kernel_rfl) ?_
    go_wp2
    go_ret
    exact ⟨rfl, F8.out⟩


set_option maxHeartbeats 8000000 in
set_option maxRecDepth 100000 in
theorem paheadB {w : World} {g gr : Nat} {n c i k : Nat} {t k1 t1 k2 t2 : Int} {s1 s2 : ByteArray} (h : Pb w g (.slice (some ⟨gr, 0, none⟩) n c) t) (hi : i < n) (hk : k < n)
    (a0 : w.cell? ⟨gr, i * 3, none⟩ = some (.int .i64 k1)) (a1 : w.cell? ⟨gr, i * 3 + 1, none⟩ = some (.string s1)) (a2 : w.cell? ⟨gr, i * 3 + 2, none⟩ = some (.int .i64 t1)) (b0 : w.cell? ⟨gr, k * 3, none⟩ = some (.int .i64 k2)) (b1 : w.cell? ⟨gr, k * 3 + 1, none⟩ = some (.string s2)) (b2 : w.cell? ⟨gr, k * 3 + 2, none⟩ = some (.int .i64 t2))
    (h12 : ∀ W, Calls Try.prog 19 #[.agg #[.int .i64 k1, .string s1], .agg #[.int .i64 k2, .string s2]] W fun e w' => e = .returned (.bool false) ∧ Fr No W w') (h21 : ∀ W, Calls Try.prog 19 #[.agg #[.int .i64 k2, .string s2], .agg #[.int .i64 k1, .string s1]] W fun e w' => e = .returned (.bool true) ∧ Fr No W w') :
    Calls Try.prog 82 #[.pointer (some ⟨g, 0, none⟩), .int .i64 i, .int .i64 k] w fun e w' => e = .returned (.bool false) ∧ Fr No w w' := by
  obtain ⟨q0, q1, q2⟩ := h.cells
  have hi0 : (0 : Int) ≤ i := by omega
  have hi1 : (i : Int) < n := by omega
  have hk0 : (0 : Int) ≤ k := by omega
  have hk1 : (k : Int) < n := by omega
  have Q0 := Aside0.mk q0
  have H12 := Aside0.mk h12
  have H21 := Aside0.mk h21
  have hu := Try.underlying122
  have hu27 := Try.underlying27
  clear h q0 q2 hi hk h12 h21
  go_enter Try.func82, Try.ntmps82
  go_wp2
  go_region_held3 (fun w' => w'.cell? ⟨g, 1, none⟩ = some (.slice (some ⟨gr, 0, none⟩) n c) ∧ w'.cell? ⟨gr, i * 3, none⟩ = some (.int .i64 k1) ∧ w'.cell? ⟨gr, i * 3 + 1, none⟩ = some (.string s1) ∧ w'.cell? ⟨gr, i * 3 + 2, none⟩ = some (.int .i64 t1) ∧ w'.cell? ⟨gr, k * 3, none⟩ = some (.int .i64 k2) ∧ w'.cell? ⟨gr, k * 3 + 1, none⟩ = some (.string s2) ∧ w'.cell? ⟨gr, k * 3 + 2, none⟩ = some (.int .i64 t2)) (go_keep) (fail)
  all_goals go_wp2_with (fail)
  have F1 := Aside0.mk (((Fr.refl No w).alloc (.cells #[.int .i64 k1, .string s1, .int .i64 t1] 122)).alloc (.cells #[.int .i64 k2, .string s2, .int .i64 t2] 122)).drew
  have K1 := Aside0.mk (show AP ((w.alloc (.cells #[.int .i64 k1, .string s1, .int .i64 t1] 122)).alloc (.cells #[.int .i64 k2, .string s2, .int .i64 t2] 122)).drew g (w.heap.size) (w.heap.size + 1) k1 s1 t1 k2 s2 t2 from ⟨pw_cell_below F1.out.no Q0.out, ((Fr.refl No _).alloc _).blk (blk_new w _) (fun h => h.elim), by have := blk_new (w.alloc (.cells #[.int .i64 k1, .string s1, .int .i64 t1] 122)) (.cells #[.int .i64 k2, .string s2, .int .i64 t2] 122); rw [show (w.alloc (.cells #[.int .i64 k1, .string s1, .int .i64 t1] 122)).heap.size = w.heap.size + 1 from by simp] at this; exact this⟩)
  generalize ((w.alloc (.cells #[.int .i64 k1, .string s1, .int .i64 t1] 122)).alloc (.cells #[.int .i64 k2, .string s2, .int .i64 t2] 122)).drew = w1 at F1 K1 ⊢
  generalize w.heap.size + 1 = gb at K1 ⊢
  generalize w.heap.size = ga at K1 ⊢
  rotate_left
  have F1 := Aside0.mk (((Fr.refl No w).alloc (.cells #[.int .i64 k2, .string s2, .int .i64 t2] 122)).alloc (.cells #[.int .i64 k1, .string s1, .int .i64 t1] 122)).drew
  have K1 := Aside0.mk (show AP ((w.alloc (.cells #[.int .i64 k2, .string s2, .int .i64 t2] 122)).alloc (.cells #[.int .i64 k1, .string s1, .int .i64 t1] 122)).drew g (w.heap.size + 1) (w.heap.size) k1 s1 t1 k2 s2 t2 from ⟨pw_cell_below F1.out.no Q0.out, by have := blk_new (w.alloc (.cells #[.int .i64 k2, .string s2, .int .i64 t2] 122)) (.cells #[.int .i64 k1, .string s1, .int .i64 t1] 122); rw [show (w.alloc (.cells #[.int .i64 k2, .string s2, .int .i64 t2] 122)).heap.size = w.heap.size + 1 from by simp] at this; exact this, ((Fr.refl No _).alloc _).blk (blk_new w _) (fun h => h.elim)⟩)
  generalize ((w.alloc (.cells #[.int .i64 k2, .string s2, .int .i64 t2] 122)).alloc (.cells #[.int .i64 k1, .string s1, .int .i64 t1] 122)).drew = w1 at F1 K1 ⊢
  generalize w.heap.size + 1 = ga at K1 ⊢
  generalize w.heap.size = gb at K1 ⊢
  rotate_left
  all_goals
    clear q1 a0 a1 a2 b0 b1 b2
    have KD := Aside0.mk (K1.out.no (Fr.refl No w1).drew)
    have FD := Aside0.mk (F1.out.on (Fr.refl No w1).drew)
    clear K1
    refine start_ (n := 29) (S := fun w' => w'.cell? ⟨g, 0, none⟩ = some (.func (.func 19) #[] #[]) ∧ w'.cell? ⟨ga, 0, none⟩ = some (.int .i64 k1) ∧ w'.cell? ⟨ga, 1, none⟩ = some (.string s1) ∧ w'.cell? ⟨ga, 2, none⟩ = some (.int .i64 t1) ∧ w'.cell? ⟨gb, 0, none⟩ = some (.int .i64 k2) ∧ w'.cell? ⟨gb, 1, none⟩ = some (.string s2) ∧ w'.cell? ⟨gb, 2, none⟩ = some (.int .i64 t2)) (ds := []) #[false, false, false, false, false, false, false, false, false, false, false, false, false, false, false, false, false, false, false, false, false, false, false, false, false, false, false, false, false] (by kernel_rfl) rfl rfl ⟨KD.out.cells.1, KD.out.cells.2.1, KD.out.cells.2.2.1, KD.out.cells.2.2.2.1, KD.out.cells.2.2.2.2.1, KD.out.cells.2.2.2.2.2.1, KD.out.cells.2.2.2.2.2.2⟩ (fun hHeld => ?_)
    refine pure_ (i := 0) (N := some 23) (v := ?_) (a' := ?_) #[true, false, false, false, false, false, false, false, false, false, false, false, false, false, false, false, false, false, false, false, false, false, false, false, false, false, false, false, false] rfl rfl (by kernel_rfl) (fun _ _ _ h => h) (Or.inl ⟨by rfl, ?_⟩) ?_ ?_
    rotate_left
    · intro w'
      go_simp
      with_reducible rfl
    rotate_left
    · simp only [Act.put, List.setIfInBounds_toArray, List.set_cons_zero, List.set_cons_succ, i64_w, i32_w]
      rfl
    refine pure_ (i := 1) (N := some 24) (v := ?_) (a' := ?_) #[true, true, false, false, false, false, false, false, false, false, false, false, false, false, false, false, false, false, false, false, false, false, false, false, false, false, false, false, false] rfl rfl (by kernel_rfl) (fun _ _ _ h => h) (Or.inl ⟨by rfl, ?_⟩) ?_ ?_
    rotate_left
    · intro w'
      go_simp
      with_reducible rfl
    rotate_left
    · simp only [Act.put, List.setIfInBounds_toArray, List.set_cons_zero, List.set_cons_succ, i64_w, i32_w]
      rfl
    refine pure_ (i := 2) (N := some 25) (v := ?_) (a' := ?_) #[true, true, true, false, false, false, false, false, false, false, false, false, false, false, false, false, false, false, false, false, false, false, false, false, false, false, false, false, false] rfl rfl (by kernel_rfl) (fun _ _ _ h => h) (Or.inl ⟨by rfl, ?_⟩) ?_ ?_
    rotate_left
    · intro w'
      go_simp
      with_reducible rfl
    rotate_left
    · simp only [Act.put, List.setIfInBounds_toArray, List.set_cons_zero, List.set_cons_succ, i64_w, i32_w]
      rfl
    refine pure_ (i := 4) (N := some 27) (v := ?_) (a' := ?_) #[true, true, true, false, true, false, false, false, false, false, false, false, false, false, false, false, false, false, false, false, false, false, false, false, false, false, false, false, false] rfl rfl (by kernel_rfl) (fun _ _ _ h => h) (Or.inl ⟨by rfl, ?_⟩) ?_ ?_
    rotate_left
    · intro w'
      go_simp
      with_reducible rfl
    rotate_left
    · simp only [Act.put, List.setIfInBounds_toArray, List.set_cons_zero, List.set_cons_succ, i64_w, i32_w]
      rfl
    refine pure_ (i := 6) (N := some 29) (v := ?_) (a' := ?_) #[true, true, true, false, true, false, true, false, false, false, false, false, false, false, false, false, false, false, false, false, false, false, false, false, false, false, false, false, false] rfl rfl (by kernel_rfl) (fun _ _ _ h => h) (Or.inl ⟨by rfl, ?_⟩) ?_ ?_
    rotate_left
    · intro w'
      go_simp
      with_reducible rfl
    rotate_left
    · simp only [Act.put, List.setIfInBounds_toArray, List.set_cons_zero, List.set_cons_succ, i64_w, i32_w]
      rfl
    refine take_ (i := 3) (N := some 26) (v := ?_) (a' := ?_) #[true, true, true, true, true, false, true, false, false, false, false, false, false, false, false, false, false, false, false, false, false, false, false, false, false, false, false, false, false] rfl rfl (by kernel_rfl) (fun _ _ _ h => h) (Or.inl ⟨by rfl, ?_⟩) hHeld ?_ ?_
    rotate_left
    · rintro w' ⟨s0, s1, s2, s3, s4, s5, s6⟩
      go_simp
      with_reducible rfl
    rotate_left
    · simp only [Act.put, List.setIfInBounds_toArray, List.set_cons_zero, List.set_cons_succ, i64_w, i32_w]
      rfl
    refine take_ (i := 5) (N := some 28) (v := ?_) (a' := ?_) #[true, true, true, true, true, true, true, false, false, false, false, false, false, false, false, false, false, false, false, false, false, false, false, false, false, false, false, false, false] rfl rfl (by kernel_rfl) (fun _ _ _ h => h) (Or.inl ⟨by rfl, ?_⟩) hHeld ?_ ?_
    rotate_left
    · rintro w' ⟨s0, s1, s2, s3, s4, s5, s6⟩
      go_simp
      with_reducible rfl
    rotate_left
    · simp only [Act.put, List.setIfInBounds_toArray, List.set_cons_zero, List.set_cons_succ, i64_w, i32_w]
      rfl
    refine take_ (i := 7) (N := some 30) (v := ?_) (a' := ?_) #[true, true, true, true, true, true, true, true, false, false, false, false, false, false, false, false, false, false, false, false, false, false, false, false, false, false, false, false, false] rfl rfl (by kernel_rfl) (fun _ _ _ h => h) (Or.inl ⟨by rfl, ?_⟩) hHeld ?_ ?_
    rotate_left
    · rintro w' ⟨s0, s1, s2, s3, s4, s5, s6⟩
      go_simp
      with_reducible rfl
    rotate_left
    · simp only [Act.put, List.setIfInBounds_toArray, List.set_cons_zero, List.set_cons_succ, i64_w, i32_w]
      rfl
    refine one_ (i := 8) (N := some 31) #[true, true, true, true, true, true, true, true, true, false, false, false, false, false, false, false, false, false, false, false, false, false, false, false, false, false, false, false, false] rfl rfl (by kernel_rfl) (by decide) (fun K hK => ?_)
    refine goesV_ Try.func19 (by kernel_rfl) rfl #[.agg #[.int .i64 k1, .string s1], .agg #[.int .i64 k2, .string s2]] (by rfl) rfl rfl (by rfl) (by simp only [List.map_toArray, List.map_cons, List.map_nil]; rfl) ?_
    with_reducible refine (H12.out _).mono ?_
    rintro e w8 ⟨rfl, hf8⟩
    refine ⟨_, rfl, ?_⟩
    have K8 := Aside0.mk (KD.out.no hf8)
    have F8 := Aside0.mk (FD.out.on hf8)
    clear hf8
    refine hK.out _ _ ⟨K8.out.cells.1, K8.out.cells.2.1, K8.out.cells.2.2.1, K8.out.cells.2.2.2.1, K8.out.cells.2.2.2.2.1, K8.out.cells.2.2.2.2.2.1, K8.out.cells.2.2.2.2.2.2⟩ (fun hHeld => ?_)
    clear hK K
    refine norm_ (a' := ?_) ?_ ?_
    rotate_left
    · show Act.put _ (some 31) _ = _
      simp only [Act.put, List.setIfInBounds_toArray, List.set_cons_zero, List.set_cons_succ, i64_w, i32_w]
      rfl
    refine pure_ (i := 9) (N := some 32) (v := ?_) (a' := ?_) #[true, true, true, true, true, true, true, true, true, true, false, false, false, false, false, false, false, false, false, false, false, false, false, false, false, false, false, false, false] rfl rfl (by kernel_rfl) (fun _ _ _ h => h) (Or.inl ⟨by rfl, ?_⟩) ?_ ?_
    rotate_left
    · intro w'
      go_simp
      with_reducible rfl
    rotate_left
    · simp only [Act.put, List.setIfInBounds_toArray, List.set_cons_zero, List.set_cons_succ, i64_w, i32_w]
      rfl
    refine pure_ (i := 10) (N := some 33) (v := ?_) (a' := ?_) #[true, true, true, true, true, true, true, true, true, true, true, false, false, false, false, false, false, false, false, false, false, false, false, false, false, false, false, false, false] rfl rfl (by kernel_rfl) (fun _ _ _ h => h) (Or.inl ⟨by rfl, ?_⟩) ?_ ?_
    rotate_left
    · intro w'
      go_simp
      with_reducible rfl
    rotate_left
    · simp only [Act.put, List.setIfInBounds_toArray, List.set_cons_zero, List.set_cons_succ, i64_w, i32_w]
      rfl
    refine pure_ (i := 11) (N := some 34) (v := ?_) (a' := ?_) #[true, true, true, true, true, true, true, true, true, true, true, true, false, false, false, false, false, false, false, false, false, false, false, false, false, false, false, false, false] rfl rfl (by kernel_rfl) (fun _ _ _ h => h) (Or.inl ⟨by rfl, ?_⟩) ?_ ?_
    rotate_left
    · intro w'
      go_simp
      with_reducible rfl
    rotate_left
    · simp only [Act.put, List.setIfInBounds_toArray, List.set_cons_zero, List.set_cons_succ, i64_w, i32_w]
      rfl
    refine pure_ (i := 12) (N := some 35) (v := ?_) (a' := ?_) #[true, true, true, true, true, true, true, true, true, true, true, true, true, false, false, false, false, false, false, false, false, false, false, false, false, false, false, false, false] rfl rfl (by kernel_rfl) (fun _ _ _ h => h) (Or.inl ⟨by rfl, ?_⟩) ?_ ?_
    rotate_left
    · intro w'
      go_simp
      with_reducible rfl
    rotate_left
    · simp only [Act.put, List.setIfInBounds_toArray, List.set_cons_zero, List.set_cons_succ, i64_w, i32_w]
      rfl
    refine pure_ (i := 14) (N := some 37) (v := ?_) (a' := ?_) #[true, true, true, true, true, true, true, true, true, true, true, true, true, false, true, false, false, false, false, false, false, false, false, false, false, false, false, false, false] rfl rfl (by kernel_rfl) (fun _ _ _ h => h) (Or.inl ⟨by rfl, ?_⟩) ?_ ?_
    rotate_left
    · intro w'
      go_simp
      with_reducible rfl
    rotate_left
    · simp only [Act.put, List.setIfInBounds_toArray, List.set_cons_zero, List.set_cons_succ, i64_w, i32_w]
      rfl
    refine pure_ (i := 16) (N := some 39) (v := ?_) (a' := ?_) #[true, true, true, true, true, true, true, true, true, true, true, true, true, false, true, false, true, false, false, false, false, false, false, false, false, false, false, false, false] rfl rfl (by kernel_rfl) (fun _ _ _ h => h) (Or.inl ⟨by rfl, ?_⟩) ?_ ?_
    rotate_left
    · intro w'
      go_simp
      with_reducible rfl
    rotate_left
    · simp only [Act.put, List.setIfInBounds_toArray, List.set_cons_zero, List.set_cons_succ, i64_w, i32_w]
      rfl
    refine take_ (i := 13) (N := some 36) (v := ?_) (a' := ?_) #[true, true, true, true, true, true, true, true, true, true, true, true, true, true, true, false, true, false, false, false, false, false, false, false, false, false, false, false, false] rfl rfl (by kernel_rfl) (fun _ _ _ h => h) (Or.inl ⟨by rfl, ?_⟩) hHeld ?_ ?_
    rotate_left
    · rintro w' ⟨s0, s1, s2, s3, s4, s5, s6⟩
      go_simp
      with_reducible rfl
    rotate_left
    · simp only [Act.put, List.setIfInBounds_toArray, List.set_cons_zero, List.set_cons_succ, i64_w, i32_w]
      rfl
    refine take_ (i := 15) (N := some 38) (v := ?_) (a' := ?_) #[true, true, true, true, true, true, true, true, true, true, true, true, true, true, true, true, true, false, false, false, false, false, false, false, false, false, false, false, false] rfl rfl (by kernel_rfl) (fun _ _ _ h => h) (Or.inl ⟨by rfl, ?_⟩) hHeld ?_ ?_
    rotate_left
    · rintro w' ⟨s0, s1, s2, s3, s4, s5, s6⟩
      go_simp
      with_reducible rfl
    rotate_left
    · simp only [Act.put, List.setIfInBounds_toArray, List.set_cons_zero, List.set_cons_succ, i64_w, i32_w]
      rfl
    refine take_ (i := 17) (N := some 40) (v := ?_) (a' := ?_) #[true, true, true, true, true, true, true, true, true, true, true, true, true, true, true, true, true, true, false, false, false, false, false, false, false, false, false, false, false] rfl rfl (by kernel_rfl) (fun _ _ _ h => h) (Or.inl ⟨by rfl, ?_⟩) hHeld ?_ ?_
    rotate_left
    · rintro w' ⟨s0, s1, s2, s3, s4, s5, s6⟩
      go_simp
      with_reducible rfl
    rotate_left
    · simp only [Act.put, List.setIfInBounds_toArray, List.set_cons_zero, List.set_cons_succ, i64_w, i32_w]
      rfl
    refine one_ (i := 18) (N := some 41) #[true, true, true, true, true, true, true, true, true, true, true, true, true, true, true, true, true, true, true, false, false, false, false, false, false, false, false, false, false] rfl rfl (by kernel_rfl) (by decide) (fun K hK => ?_)
    refine goesV_ Try.func19 (by kernel_rfl) rfl #[.agg #[.int .i64 k2, .string s2], .agg #[.int .i64 k1, .string s1]] (by rfl) rfl rfl (by rfl) (by simp only [List.map_toArray, List.map_cons, List.map_nil]; rfl) ?_
    with_reducible refine (H21.out _).mono ?_
    rintro e w9 ⟨rfl, hf8⟩
    refine ⟨_, rfl, ?_⟩
    have K9 := Aside0.mk (K8.out.no hf8)
    have F9 := Aside0.mk (F8.out.on hf8)
    clear hf8
    refine hK.out _ _ ⟨K9.out.cells.1, K9.out.cells.2.1, K9.out.cells.2.2.1, K9.out.cells.2.2.2.1, K9.out.cells.2.2.2.2.1, K9.out.cells.2.2.2.2.2.1, K9.out.cells.2.2.2.2.2.2⟩ (fun hHeld => ?_)
    clear hK K
    refine norm_ (a' := ?_) ?_ ?_
    rotate_left
    · show Act.put _ (some 41) _ = _
      simp only [Act.put, List.setIfInBounds_toArray, List.set_cons_zero, List.set_cons_succ, i64_w, i32_w]
      rfl
    refine pure_ (i := 19) (N := some 42) (v := ?_) (a' := ?_) #[true, true, true, true, true, true, true, true, true, true, true, true, true, true, true, true, true, true, true, true, false, false, false, false, false, false, false, false, false] rfl rfl (by kernel_rfl) (fun _ _ _ h => h) (Or.inl ⟨by rfl, ?_⟩) ?_ ?_
    rotate_left
    · intro w'
      go_simp
      with_reducible rfl
    rotate_left
    · simp only [Act.put, List.setIfInBounds_toArray, List.set_cons_zero, List.set_cons_succ, i64_w, i32_w]
      rfl
    refine pure_ (i := 20) (N := some 43) (v := ?_) (a' := ?_) #[true, true, true, true, true, true, true, true, true, true, true, true, true, true, true, true, true, true, true, true, true, false, false, false, false, false, false, false, false] rfl rfl (by kernel_rfl) (fun _ _ _ h => h) (Or.inl ⟨by rfl, ?_⟩) ?_ ?_
    rotate_left
    · intro w'
      go_simp
      with_reducible rfl
    rotate_left
    · simp only [Act.put, List.setIfInBounds_toArray, List.set_cons_zero, List.set_cons_succ, i64_w, i32_w]
      rfl
    refine pure_ (i := 21) (N := some 44) (v := undef) (a' := ?_) #[true, true, true, true, true, true, true, true, true, true, true, true, true, true, true, true, true, true, true, true, true, true, false, false, false, false, false, false, false] rfl rfl (by kernel_rfl) (fun _ _ _ h => h) (Or.inr ⟨by rfl, rfl⟩) ?_ ?_
    rotate_left
    · simp only [Act.put, List.setIfInBounds_toArray, List.set_cons_zero, List.set_cons_succ, i64_w, i32_w]
      rfl
    refine pure_ (i := 22) (N := some 45) (v := undef) (a' := ?_) #[true, true, true, true, true, true, true, true, true, true, true, true, true, true, true, true, true, true, true, true, true, true, true, false, false, false, false, false, false] rfl rfl (by kernel_rfl) (fun _ _ _ h => h) (Or.inr ⟨by rfl, rfl⟩) ?_ ?_
    rotate_left
    · simp only [Act.put, List.setIfInBounds_toArray, List.set_cons_zero, List.set_cons_succ, i64_w, i32_w]
      rfl
    refine pure_ (i := 23) (N := some 46) (v := undef) (a' := ?_) #[true, true, true, true, true, true, true, true, true, true, true, true, true, true, true, true, true, true, true, true, true, true, true, true, false, false, false, false, false] rfl rfl (by kernel_rfl) (fun _ _ _ h => h) (Or.inr ⟨by rfl, rfl⟩) ?_ ?_
    rotate_left
    · simp only [Act.put, List.setIfInBounds_toArray, List.set_cons_zero, List.set_cons_succ, i64_w, i32_w]
      rfl
    refine pure_ (i := 24) (N := some 47) (v := undef) (a' := ?_) #[true, true, true, true, true, true, true, true, true, true, true, true, true, true, true, true, true, true, true, true, true, true, true, true, true, false, false, false, false] rfl rfl (by kernel_rfl) (fun _ _ _ h => h) (Or.inr ⟨by rfl, rfl⟩) ?_ ?_
    rotate_left
    · simp only [Act.put, List.setIfInBounds_toArray, List.set_cons_zero, List.set_cons_succ, i64_w, i32_w]
      rfl
    refine pure_ (i := 25) (N := some 48) (v := undef) (a' := ?_) #[true, true, true, true, true, true, true, true, true, true, true, true, true, true, true, true, true, true, true, true, true, true, true, true, true, true, false, false, false] rfl rfl (by kernel_rfl) (fun _ _ _ h => h) (Or.inr ⟨by rfl, rfl⟩) ?_ ?_
    rotate_left
    · simp only [Act.put, List.setIfInBounds_toArray, List.set_cons_zero, List.set_cons_succ, i64_w, i32_w]
      rfl
    refine pure_ (i := 26) (N := some 49) (v := ?_) (a' := ?_) #[true, true, true, true, true, true, true, true, true, true, true, true, true, true, true, true, true, true, true, true, true, true, true, true, true, true, true, false, false] rfl rfl (by kernel_rfl) (fun _ _ _ h => h) (Or.inl ⟨by rfl, ?_⟩) ?_ ?_
    rotate_left
    · intro w'
      go_simp
      with_reducible rfl
    rotate_left
    · simp only [Act.put, List.setIfInBounds_toArray, List.set_cons_zero, List.set_cons_succ, i64_w, i32_w]
      rfl
    refine pure_ (i := 27) (N := some 50) (v := ?_) (a' := ?_) #[true, true, true, true, true, true, true, true, true, true, true, true, true, true, true, true, true, true, true, true, true, true, true, true, true, true, true, true, false] rfl rfl (by kernel_rfl) (fun _ _ _ h => h) (Or.inl ⟨by rfl, ?_⟩) ?_ ?_
    rotate_left
    · intro w'
      go_simp
      with_reducible rfl
    rotate_left
    · simp only [Act.put, List.setIfInBounds_toArray, List.set_cons_zero, List.set_cons_succ, i64_w, i32_w]
      rfl
    refine pure_ (i := 28) (N := some 6) (v := ?_) (a' := ?_) #[true, true, true, true, true, true, true, true, true, true, true, true, true, true, true, true, true, true, true, true, true, true, true, true, true, true, true, true, true] rfl rfl (by kernel_rfl) (fun _ _ _ h => h) (Or.inl ⟨by rfl, ?_⟩) ?_ ?_
    rotate_left
    · intro w'
      go_simp
      with_reducible rfl
    rotate_left
    · simp only [Act.put, List.setIfInBounds_toArray, List.set_cons_zero, List.set_cons_succ, i64_w, i32_w]
      rfl
    refine done_ (by kernel_rfl) ?_
    go_wp2
    go_ret
    exact ⟨rfl, F9.out⟩


set_option maxHeartbeats 8000000 in
set_option maxRecDepth 100000 in
theorem paheadC {w : World} {g gr : Nat} {n c i k : Nat} {t k1 t1 k2 t2 : Int} {s1 s2 : ByteArray} (h : Pb w g (.slice (some ⟨gr, 0, none⟩) n c) t) (hi : i < n) (hk : k < n)
    (a0 : w.cell? ⟨gr, i * 3, none⟩ = some (.int .i64 k1)) (a1 : w.cell? ⟨gr, i * 3 + 1, none⟩ = some (.string s1)) (a2 : w.cell? ⟨gr, i * 3 + 2, none⟩ = some (.int .i64 t1)) (b0 : w.cell? ⟨gr, k * 3, none⟩ = some (.int .i64 k2)) (b1 : w.cell? ⟨gr, k * 3 + 1, none⟩ = some (.string s2)) (b2 : w.cell? ⟨gr, k * 3 + 2, none⟩ = some (.int .i64 t2))
    (h12 : ∀ W, Calls Try.prog 19 #[.agg #[.int .i64 k1, .string s1], .agg #[.int .i64 k2, .string s2]] W fun e w' => e = .returned (.bool false) ∧ Fr No W w') (h21 : ∀ W, Calls Try.prog 19 #[.agg #[.int .i64 k2, .string s2], .agg #[.int .i64 k1, .string s1]] W fun e w' => e = .returned (.bool false) ∧ Fr No W w') :
    Calls Try.prog 82 #[.pointer (some ⟨g, 0, none⟩), .int .i64 i, .int .i64 k] w fun e w' => e = .returned (.bool (decide (t1 < t2))) ∧ Fr No w w' := by
  obtain ⟨q0, q1, q2⟩ := h.cells
  have hi0 : (0 : Int) ≤ i := by omega
  have hi1 : (i : Int) < n := by omega
  have hk0 : (0 : Int) ≤ k := by omega
  have hk1 : (k : Int) < n := by omega
  have Q0 := Aside0.mk q0
  have H12 := Aside0.mk h12
  have H21 := Aside0.mk h21
  have hu := Try.underlying122
  have hu27 := Try.underlying27
  clear h q0 q2 hi hk h12 h21
  go_enter Try.func82, Try.ntmps82
  go_wp2
  go_region_held3 (fun w' => w'.cell? ⟨g, 1, none⟩ = some (.slice (some ⟨gr, 0, none⟩) n c) ∧ w'.cell? ⟨gr, i * 3, none⟩ = some (.int .i64 k1) ∧ w'.cell? ⟨gr, i * 3 + 1, none⟩ = some (.string s1) ∧ w'.cell? ⟨gr, i * 3 + 2, none⟩ = some (.int .i64 t1) ∧ w'.cell? ⟨gr, k * 3, none⟩ = some (.int .i64 k2) ∧ w'.cell? ⟨gr, k * 3 + 1, none⟩ = some (.string s2) ∧ w'.cell? ⟨gr, k * 3 + 2, none⟩ = some (.int .i64 t2)) (go_keep) (fail)
  all_goals go_wp2_with (fail)
  have F1 := Aside0.mk (((Fr.refl No w).alloc (.cells #[.int .i64 k1, .string s1, .int .i64 t1] 122)).alloc (.cells #[.int .i64 k2, .string s2, .int .i64 t2] 122)).drew
  have K1 := Aside0.mk (show AP ((w.alloc (.cells #[.int .i64 k1, .string s1, .int .i64 t1] 122)).alloc (.cells #[.int .i64 k2, .string s2, .int .i64 t2] 122)).drew g (w.heap.size) (w.heap.size + 1) k1 s1 t1 k2 s2 t2 from ⟨pw_cell_below F1.out.no Q0.out, ((Fr.refl No _).alloc _).blk (blk_new w _) (fun h => h.elim), by have := blk_new (w.alloc (.cells #[.int .i64 k1, .string s1, .int .i64 t1] 122)) (.cells #[.int .i64 k2, .string s2, .int .i64 t2] 122); rw [show (w.alloc (.cells #[.int .i64 k1, .string s1, .int .i64 t1] 122)).heap.size = w.heap.size + 1 from by simp] at this; exact this⟩)
  generalize ((w.alloc (.cells #[.int .i64 k1, .string s1, .int .i64 t1] 122)).alloc (.cells #[.int .i64 k2, .string s2, .int .i64 t2] 122)).drew = w1 at F1 K1 ⊢
  generalize w.heap.size + 1 = gb at K1 ⊢
  generalize w.heap.size = ga at K1 ⊢
  rotate_left
  have F1 := Aside0.mk (((Fr.refl No w).alloc (.cells #[.int .i64 k2, .string s2, .int .i64 t2] 122)).alloc (.cells #[.int .i64 k1, .string s1, .int .i64 t1] 122)).drew
  have K1 := Aside0.mk (show AP ((w.alloc (.cells #[.int .i64 k2, .string s2, .int .i64 t2] 122)).alloc (.cells #[.int .i64 k1, .string s1, .int .i64 t1] 122)).drew g (w.heap.size + 1) (w.heap.size) k1 s1 t1 k2 s2 t2 from ⟨pw_cell_below F1.out.no Q0.out, by have := blk_new (w.alloc (.cells #[.int .i64 k2, .string s2, .int .i64 t2] 122)) (.cells #[.int .i64 k1, .string s1, .int .i64 t1] 122); rw [show (w.alloc (.cells #[.int .i64 k2, .string s2, .int .i64 t2] 122)).heap.size = w.heap.size + 1 from by simp] at this; exact this, ((Fr.refl No _).alloc _).blk (blk_new w _) (fun h => h.elim)⟩)
  generalize ((w.alloc (.cells #[.int .i64 k2, .string s2, .int .i64 t2] 122)).alloc (.cells #[.int .i64 k1, .string s1, .int .i64 t1] 122)).drew = w1 at F1 K1 ⊢
  generalize w.heap.size + 1 = ga at K1 ⊢
  generalize w.heap.size = gb at K1 ⊢
  rotate_left
  all_goals
    clear q1 a0 a1 a2 b0 b1 b2
    have KD := Aside0.mk (K1.out.no (Fr.refl No w1).drew)
    have FD := Aside0.mk (F1.out.on (Fr.refl No w1).drew)
    clear K1
    refine start_ (n := 29) (S := fun w' => w'.cell? ⟨g, 0, none⟩ = some (.func (.func 19) #[] #[]) ∧ w'.cell? ⟨ga, 0, none⟩ = some (.int .i64 k1) ∧ w'.cell? ⟨ga, 1, none⟩ = some (.string s1) ∧ w'.cell? ⟨ga, 2, none⟩ = some (.int .i64 t1) ∧ w'.cell? ⟨gb, 0, none⟩ = some (.int .i64 k2) ∧ w'.cell? ⟨gb, 1, none⟩ = some (.string s2) ∧ w'.cell? ⟨gb, 2, none⟩ = some (.int .i64 t2)) (ds := []) #[false, false, false, false, false, false, false, false, false, false, false, false, false, false, false, false, false, false, false, false, false, false, false, false, false, false, false, false, false] (by kernel_rfl) rfl rfl ⟨KD.out.cells.1, KD.out.cells.2.1, KD.out.cells.2.2.1, KD.out.cells.2.2.2.1, KD.out.cells.2.2.2.2.1, KD.out.cells.2.2.2.2.2.1, KD.out.cells.2.2.2.2.2.2⟩ (fun hHeld => ?_)
    refine pure_ (i := 0) (N := some 23) (v := ?_) (a' := ?_) #[true, false, false, false, false, false, false, false, false, false, false, false, false, false, false, false, false, false, false, false, false, false, false, false, false, false, false, false, false] rfl rfl (by kernel_rfl) (fun _ _ _ h => h) (Or.inl ⟨by rfl, ?_⟩) ?_ ?_
    rotate_left
    · intro w'
      go_simp
      with_reducible rfl
    rotate_left
    · simp only [Act.put, List.setIfInBounds_toArray, List.set_cons_zero, List.set_cons_succ, i64_w, i32_w]
      rfl
    refine pure_ (i := 1) (N := some 24) (v := ?_) (a' := ?_) #[true, true, false, false, false, false, false, false, false, false, false, false, false, false, false, false, false, false, false, false, false, false, false, false, false, false, false, false, false] rfl rfl (by kernel_rfl) (fun _ _ _ h => h) (Or.inl ⟨by rfl, ?_⟩) ?_ ?_
    rotate_left
    · intro w'
      go_simp
      with_reducible rfl
    rotate_left
    · simp only [Act.put, List.setIfInBounds_toArray, List.set_cons_zero, List.set_cons_succ, i64_w, i32_w]
      rfl
    refine pure_ (i := 2) (N := some 25) (v := ?_) (a' := ?_) #[true, true, true, false, false, false, false, false, false, false, false, false, false, false, false, false, false, false, false, false, false, false, false, false, false, false, false, false, false] rfl rfl (by kernel_rfl) (fun _ _ _ h => h) (Or.inl ⟨by rfl, ?_⟩) ?_ ?_
    rotate_left
    · intro w'
      go_simp
      with_reducible rfl
    rotate_left
    · simp only [Act.put, List.setIfInBounds_toArray, List.set_cons_zero, List.set_cons_succ, i64_w, i32_w]
      rfl
    refine pure_ (i := 4) (N := some 27) (v := ?_) (a' := ?_) #[true, true, true, false, true, false, false, false, false, false, false, false, false, false, false, false, false, false, false, false, false, false, false, false, false, false, false, false, false] rfl rfl (by kernel_rfl) (fun _ _ _ h => h) (Or.inl ⟨by rfl, ?_⟩) ?_ ?_
    rotate_left
    · intro w'
      go_simp
      with_reducible rfl
    rotate_left
    · simp only [Act.put, List.setIfInBounds_toArray, List.set_cons_zero, List.set_cons_succ, i64_w, i32_w]
      rfl
    refine pure_ (i := 6) (N := some 29) (v := ?_) (a' := ?_) #[true, true, true, false, true, false, true, false, false, false, false, false, false, false, false, false, false, false, false, false, false, false, false, false, false, false, false, false, false] rfl rfl (by kernel_rfl) (fun _ _ _ h => h) (Or.inl ⟨by rfl, ?_⟩) ?_ ?_
    rotate_left
    · intro w'
      go_simp
      with_reducible rfl
    rotate_left
    · simp only [Act.put, List.setIfInBounds_toArray, List.set_cons_zero, List.set_cons_succ, i64_w, i32_w]
      rfl
    refine take_ (i := 3) (N := some 26) (v := ?_) (a' := ?_) #[true, true, true, true, true, false, true, false, false, false, false, false, false, false, false, false, false, false, false, false, false, false, false, false, false, false, false, false, false] rfl rfl (by kernel_rfl) (fun _ _ _ h => h) (Or.inl ⟨by rfl, ?_⟩) hHeld ?_ ?_
    rotate_left
    · rintro w' ⟨s0, s1, s2, s3, s4, s5, s6⟩
      go_simp
      with_reducible rfl
    rotate_left
    · simp only [Act.put, List.setIfInBounds_toArray, List.set_cons_zero, List.set_cons_succ, i64_w, i32_w]
      rfl
    refine take_ (i := 5) (N := some 28) (v := ?_) (a' := ?_) #[true, true, true, true, true, true, true, false, false, false, false, false, false, false, false, false, false, false, false, false, false, false, false, false, false, false, false, false, false] rfl rfl (by kernel_rfl) (fun _ _ _ h => h) (Or.inl ⟨by rfl, ?_⟩) hHeld ?_ ?_
    rotate_left
    · rintro w' ⟨s0, s1, s2, s3, s4, s5, s6⟩
      go_simp
      with_reducible rfl
    rotate_left
    · simp only [Act.put, List.setIfInBounds_toArray, List.set_cons_zero, List.set_cons_succ, i64_w, i32_w]
      rfl
    refine take_ (i := 7) (N := some 30) (v := ?_) (a' := ?_) #[true, true, true, true, true, true, true, true, false, false, false, false, false, false, false, false, false, false, false, false, false, false, false, false, false, false, false, false, false] rfl rfl (by kernel_rfl) (fun _ _ _ h => h) (Or.inl ⟨by rfl, ?_⟩) hHeld ?_ ?_
    rotate_left
    · rintro w' ⟨s0, s1, s2, s3, s4, s5, s6⟩
      go_simp
      with_reducible rfl
    rotate_left
    · simp only [Act.put, List.setIfInBounds_toArray, List.set_cons_zero, List.set_cons_succ, i64_w, i32_w]
      rfl
    refine one_ (i := 8) (N := some 31) #[true, true, true, true, true, true, true, true, true, false, false, false, false, false, false, false, false, false, false, false, false, false, false, false, false, false, false, false, false] rfl rfl (by kernel_rfl) (by decide) (fun K hK => ?_)
    refine goesV_ Try.func19 (by kernel_rfl) rfl #[.agg #[.int .i64 k1, .string s1], .agg #[.int .i64 k2, .string s2]] (by rfl) rfl rfl (by rfl) (by simp only [List.map_toArray, List.map_cons, List.map_nil]; rfl) ?_
    with_reducible refine (H12.out _).mono ?_
    rintro e w8 ⟨rfl, hf8⟩
    refine ⟨_, rfl, ?_⟩
    have K8 := Aside0.mk (KD.out.no hf8)
    have F8 := Aside0.mk (FD.out.on hf8)
    clear hf8
    refine hK.out _ _ ⟨K8.out.cells.1, K8.out.cells.2.1, K8.out.cells.2.2.1, K8.out.cells.2.2.2.1, K8.out.cells.2.2.2.2.1, K8.out.cells.2.2.2.2.2.1, K8.out.cells.2.2.2.2.2.2⟩ (fun hHeld => ?_)
    clear hK K
    refine norm_ (a' := ?_) ?_ ?_
    rotate_left
    · show Act.put _ (some 31) _ = _
      simp only [Act.put, List.setIfInBounds_toArray, List.set_cons_zero, List.set_cons_succ, i64_w, i32_w]
      rfl
    refine pure_ (i := 9) (N := some 32) (v := ?_) (a' := ?_) #[true, true, true, true, true, true, true, true, true, true, false, false, false, false, false, false, false, false, false, false, false, false, false, false, false, false, false, false, false] rfl rfl (by kernel_rfl) (fun _ _ _ h => h) (Or.inl ⟨by rfl, ?_⟩) ?_ ?_
    rotate_left
    · intro w'
      go_simp
      with_reducible rfl
    rotate_left
    · simp only [Act.put, List.setIfInBounds_toArray, List.set_cons_zero, List.set_cons_succ, i64_w, i32_w]
      rfl
    refine pure_ (i := 10) (N := some 33) (v := ?_) (a' := ?_) #[true, true, true, true, true, true, true, true, true, true, true, false, false, false, false, false, false, false, false, false, false, false, false, false, false, false, false, false, false] rfl rfl (by kernel_rfl) (fun _ _ _ h => h) (Or.inl ⟨by rfl, ?_⟩) ?_ ?_
    rotate_left
    · intro w'
      go_simp
      with_reducible rfl
    rotate_left
    · simp only [Act.put, List.setIfInBounds_toArray, List.set_cons_zero, List.set_cons_succ, i64_w, i32_w]
      rfl
    refine pure_ (i := 11) (N := some 34) (v := ?_) (a' := ?_) #[true, true, true, true, true, true, true, true, true, true, true, true, false, false, false, false, false, false, false, false, false, false, false, false, false, false, false, false, false] rfl rfl (by kernel_rfl) (fun _ _ _ h => h) (Or.inl ⟨by rfl, ?_⟩) ?_ ?_
    rotate_left
    · intro w'
      go_simp
      with_reducible rfl
    rotate_left
    · simp only [Act.put, List.setIfInBounds_toArray, List.set_cons_zero, List.set_cons_succ, i64_w, i32_w]
      rfl
    refine pure_ (i := 12) (N := some 35) (v := ?_) (a' := ?_) #[true, true, true, true, true, true, true, true, true, true, true, true, true, false, false, false, false, false, false, false, false, false, false, false, false, false, false, false, false] rfl rfl (by kernel_rfl) (fun _ _ _ h => h) (Or.inl ⟨by rfl, ?_⟩) ?_ ?_
    rotate_left
    · intro w'
      go_simp
      with_reducible rfl
    rotate_left
    · simp only [Act.put, List.setIfInBounds_toArray, List.set_cons_zero, List.set_cons_succ, i64_w, i32_w]
      rfl
    refine pure_ (i := 14) (N := some 37) (v := ?_) (a' := ?_) #[true, true, true, true, true, true, true, true, true, true, true, true, true, false, true, false, false, false, false, false, false, false, false, false, false, false, false, false, false] rfl rfl (by kernel_rfl) (fun _ _ _ h => h) (Or.inl ⟨by rfl, ?_⟩) ?_ ?_
    rotate_left
    · intro w'
      go_simp
      with_reducible rfl
    rotate_left
    · simp only [Act.put, List.setIfInBounds_toArray, List.set_cons_zero, List.set_cons_succ, i64_w, i32_w]
      rfl
    refine pure_ (i := 16) (N := some 39) (v := ?_) (a' := ?_) #[true, true, true, true, true, true, true, true, true, true, true, true, true, false, true, false, true, false, false, false, false, false, false, false, false, false, false, false, false] rfl rfl (by kernel_rfl) (fun _ _ _ h => h) (Or.inl ⟨by rfl, ?_⟩) ?_ ?_
    rotate_left
    · intro w'
      go_simp
      with_reducible rfl
    rotate_left
    · simp only [Act.put, List.setIfInBounds_toArray, List.set_cons_zero, List.set_cons_succ, i64_w, i32_w]
      rfl
    refine take_ (i := 13) (N := some 36) (v := ?_) (a' := ?_) #[true, true, true, true, true, true, true, true, true, true, true, true, true, true, true, false, true, false, false, false, false, false, false, false, false, false, false, false, false] rfl rfl (by kernel_rfl) (fun _ _ _ h => h) (Or.inl ⟨by rfl, ?_⟩) hHeld ?_ ?_
    rotate_left
    · rintro w' ⟨s0, s1, s2, s3, s4, s5, s6⟩
      go_simp
      with_reducible rfl
    rotate_left
    · simp only [Act.put, List.setIfInBounds_toArray, List.set_cons_zero, List.set_cons_succ, i64_w, i32_w]
      rfl
    refine take_ (i := 15) (N := some 38) (v := ?_) (a' := ?_) #[true, true, true, true, true, true, true, true, true, true, true, true, true, true, true, true, true, false, false, false, false, false, false, false, false, false, false, false, false] rfl rfl (by kernel_rfl) (fun _ _ _ h => h) (Or.inl ⟨by rfl, ?_⟩) hHeld ?_ ?_
    rotate_left
    · rintro w' ⟨s0, s1, s2, s3, s4, s5, s6⟩
      go_simp
      with_reducible rfl
    rotate_left
    · simp only [Act.put, List.setIfInBounds_toArray, List.set_cons_zero, List.set_cons_succ, i64_w, i32_w]
      rfl
    refine take_ (i := 17) (N := some 40) (v := ?_) (a' := ?_) #[true, true, true, true, true, true, true, true, true, true, true, true, true, true, true, true, true, true, false, false, false, false, false, false, false, false, false, false, false] rfl rfl (by kernel_rfl) (fun _ _ _ h => h) (Or.inl ⟨by rfl, ?_⟩) hHeld ?_ ?_
    rotate_left
    · rintro w' ⟨s0, s1, s2, s3, s4, s5, s6⟩
      go_simp
      with_reducible rfl
    rotate_left
    · simp only [Act.put, List.setIfInBounds_toArray, List.set_cons_zero, List.set_cons_succ, i64_w, i32_w]
      rfl
    refine one_ (i := 18) (N := some 41) #[true, true, true, true, true, true, true, true, true, true, true, true, true, true, true, true, true, true, true, false, false, false, false, false, false, false, false, false, false] rfl rfl (by kernel_rfl) (by decide) (fun K hK => ?_)
    refine goesV_ Try.func19 (by kernel_rfl) rfl #[.agg #[.int .i64 k2, .string s2], .agg #[.int .i64 k1, .string s1]] (by rfl) rfl rfl (by rfl) (by simp only [List.map_toArray, List.map_cons, List.map_nil]; rfl) ?_
    with_reducible refine (H21.out _).mono ?_
    rintro e w9 ⟨rfl, hf8⟩
    refine ⟨_, rfl, ?_⟩
    have K9 := Aside0.mk (K8.out.no hf8)
    have F9 := Aside0.mk (F8.out.on hf8)
    clear hf8
    refine hK.out _ _ ⟨K9.out.cells.1, K9.out.cells.2.1, K9.out.cells.2.2.1, K9.out.cells.2.2.2.1, K9.out.cells.2.2.2.2.1, K9.out.cells.2.2.2.2.2.1, K9.out.cells.2.2.2.2.2.2⟩ (fun hHeld => ?_)
    clear hK K
    refine norm_ (a' := ?_) ?_ ?_
    rotate_left
    · show Act.put _ (some 41) _ = _
      simp only [Act.put, List.setIfInBounds_toArray, List.set_cons_zero, List.set_cons_succ, i64_w, i32_w]
      rfl
    refine pure_ (i := 19) (N := some 42) (v := ?_) (a' := ?_) #[true, true, true, true, true, true, true, true, true, true, true, true, true, true, true, true, true, true, true, true, false, false, false, false, false, false, false, false, false] rfl rfl (by kernel_rfl) (fun _ _ _ h => h) (Or.inl ⟨by rfl, ?_⟩) ?_ ?_
    rotate_left
    · intro w'
      go_simp
      with_reducible rfl
    rotate_left
    · simp only [Act.put, List.setIfInBounds_toArray, List.set_cons_zero, List.set_cons_succ, i64_w, i32_w]
      rfl
    refine pure_ (i := 20) (N := some 43) (v := ?_) (a' := ?_) #[true, true, true, true, true, true, true, true, true, true, true, true, true, true, true, true, true, true, true, true, true, false, false, false, false, false, false, false, false] rfl rfl (by kernel_rfl) (fun _ _ _ h => h) (Or.inl ⟨by rfl, ?_⟩) ?_ ?_
    rotate_left
    · intro w'
      go_simp
      with_reducible rfl
    rotate_left
    · simp only [Act.put, List.setIfInBounds_toArray, List.set_cons_zero, List.set_cons_succ, i64_w, i32_w]
      rfl
    refine pure_ (i := 21) (N := some 44) (v := ?_) (a' := ?_) #[true, true, true, true, true, true, true, true, true, true, true, true, true, true, true, true, true, true, true, true, true, true, false, false, false, false, false, false, false] rfl rfl (by kernel_rfl) (fun _ _ _ h => h) (Or.inl ⟨by rfl, ?_⟩) ?_ ?_
    rotate_left
    · intro w'
      go_simp
      with_reducible rfl
    rotate_left
    · simp only [Act.put, List.setIfInBounds_toArray, List.set_cons_zero, List.set_cons_succ, i64_w, i32_w]
      rfl
    refine pure_ (i := 23) (N := some 46) (v := ?_) (a' := ?_) #[true, true, true, true, true, true, true, true, true, true, true, true, true, true, true, true, true, true, true, true, true, true, false, true, false, false, false, false, false] rfl rfl (by kernel_rfl) (fun _ _ _ h => h) (Or.inl ⟨by rfl, ?_⟩) ?_ ?_
    rotate_left
    · intro w'
      go_simp
      with_reducible rfl
    rotate_left
    · simp only [Act.put, List.setIfInBounds_toArray, List.set_cons_zero, List.set_cons_succ, i64_w, i32_w]
      rfl
    refine take_ (i := 22) (N := some 45) (v := ?_) (a' := ?_) #[true, true, true, true, true, true, true, true, true, true, true, true, true, true, true, true, true, true, true, true, true, true, true, true, false, false, false, false, false] rfl rfl (by kernel_rfl) (fun _ _ _ h => h) (Or.inl ⟨by rfl, ?_⟩) hHeld ?_ ?_
    rotate_left
    · rintro w' ⟨s0, s1, s2, s3, s4, s5, s6⟩
      go_simp
      with_reducible rfl
    rotate_left
    · simp only [Act.put, List.setIfInBounds_toArray, List.set_cons_zero, List.set_cons_succ, i64_w, i32_w]
      rfl
    refine take_ (i := 24) (N := some 47) (v := ?_) (a' := ?_) #[true, true, true, true, true, true, true, true, true, true, true, true, true, true, true, true, true, true, true, true, true, true, true, true, true, false, false, false, false] rfl rfl (by kernel_rfl) (fun _ _ _ h => h) (Or.inl ⟨by rfl, ?_⟩) hHeld ?_ ?_
    rotate_left
    · rintro w' ⟨s0, s1, s2, s3, s4, s5, s6⟩
      go_simp
      with_reducible rfl
    rotate_left
    · simp only [Act.put, List.setIfInBounds_toArray, List.set_cons_zero, List.set_cons_succ, i64_w, i32_w]
      rfl
    refine pure_ (i := 25) (N := some 48) (v := ?_) (a' := ?_) #[true, true, true, true, true, true, true, true, true, true, true, true, true, true, true, true, true, true, true, true, true, true, true, true, true, true, false, false, false] rfl rfl (by kernel_rfl) (fun _ _ _ h => h) (Or.inl ⟨by rfl, ?_⟩) ?_ ?_
    rotate_left
    · intro w'
      go_simp
      with_reducible rfl
    rotate_left
    · simp only [Act.put, List.setIfInBounds_toArray, List.set_cons_zero, List.set_cons_succ, i64_w, i32_w]
      rfl
    refine pure_ (i := 26) (N := some 49) (v := ?_) (a' := ?_) #[true, true, true, true, true, true, true, true, true, true, true, true, true, true, true, true, true, true, true, true, true, true, true, true, true, true, true, false, false] rfl rfl (by kernel_rfl) (fun _ _ _ h => h) (Or.inl ⟨by rfl, ?_⟩) ?_ ?_
    rotate_left
    · intro w'
      go_simp
      with_reducible rfl
    rotate_left
    · simp only [Act.put, List.setIfInBounds_toArray, List.set_cons_zero, List.set_cons_succ, i64_w, i32_w]
      rfl
    refine pure_ (i := 27) (N := some 50) (v := ?_) (a' := ?_) #[true, true, true, true, true, true, true, true, true, true, true, true, true, true, true, true, true, true, true, true, true, true, true, true, true, true, true, true, false] rfl rfl (by kernel_rfl) (fun _ _ _ h => h) (Or.inl ⟨by rfl, ?_⟩) ?_ ?_
    rotate_left
    · intro w'
      go_simp
      with_reducible rfl
    rotate_left
    · simp only [Act.put, List.setIfInBounds_toArray, List.set_cons_zero, List.set_cons_succ, i64_w, i32_w]
      rfl
    refine pure_ (i := 28) (N := some 6) (v := ?_) (a' := ?_) #[true, true, true, true, true, true, true, true, true, true, true, true, true, true, true, true, true, true, true, true, true, true, true, true, true, true, true, true, true] rfl rfl (by kernel_rfl) (fun _ _ _ h => h) (Or.inl ⟨by rfl, ?_⟩) ?_ ?_
    rotate_left
    · intro w'
      go_simp
      with_reducible rfl
    rotate_left
    · simp only [Act.put, List.setIfInBounds_toArray, List.set_cons_zero, List.set_cons_succ, i64_w, i32_w]
      rfl
    refine done_ (by kernel_rfl) ?_
    go_wp2
    go_ret
    exact ⟨rfl, F9.out⟩


/-- The key of an entry, and its turn. -/
def kP (e : (Int × ByteArray) × Int) : Int := e.1.1
def tP (e : (Int × ByteArray) × Int) : Int := e.2
/-- 'ahead', of any two. -/
theorem HP.ahead {w0 w : World} {g : Nat} {A : Option Addr} {c : Nat} {l : List ((Int × ByteArray) × Int)} {t : Int} (h : HP w0 w g A c l t) (i k : Nat) (hi : i < l.length) (hk : k < l.length) :
    Calls Try.prog 82 #[.pointer (some ⟨g, 0, none⟩), .int .i64 i, .int .i64 k] w fun e w' => e = .returned (.bool (decide (hlt kP tP (l.getD i z3) (l.getD k z3)))) ∧ Fr No w w' := by
  obtain ⟨gr, rfl⟩ := h.form (by omega)
  obtain ⟨⟨a0, a1, a2⟩, _⟩ := E3_elem h.r i hi
  obtain ⟨⟨b0, b1, b2⟩, _⟩ := E3_elem h.r k hk
  have hb := h.hb
  clear h
  generalize l.getD i z3 = e1 at a0 a1 a2 ⊢
  generalize l.getD k z3 = e2 at b0 b1 b2 ⊢
  obtain ⟨⟨k1, s1⟩, t1⟩ := e1
  obtain ⟨⟨k2, s2⟩, t2⟩ := e2
  have hl : decide (hlt kP tP ((k1, s1), t1) ((k2, s2), t2)) = (decide (k1 < k2) || (!decide (k2 < k1) && decide (t1 < t2))) := by
    rw [Bool.eq_iff_iff]
    simp [hlt, kP, tP]
  rw [hl]
  have h12 := fun W => less19 k1 k2 s1 s2 W
  have h21 := fun W => less19 k2 k1 s2 s1 W
  by_cases c1 : k1 < k2
  · rw [decide_eq_true c1] at h12 ⊢
    exact paheadA hb hi hk a0 a1 a2 b0 b1 b2 h12
  · rw [decide_eq_false c1] at h12 ⊢
    by_cases c2 : k2 < k1
    · rw [decide_eq_true c2] at h21 ⊢
      exact paheadB hb hi hk a0 a1 a2 b0 b1 b2 h12 h21
    · rw [decide_eq_false c2] at h21 ⊢
      exact paheadC hb hi hk a0 a1 a2 b0 b1 b2 h12 h21

end Go.Proofs.Ythlcognpfangkaa
