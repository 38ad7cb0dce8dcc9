/- A heap of Items: the walks of Push and Pop (no condition but the state). -/
import Derived.Test.YthlcognpfangkaaIb
namespace Go.Proofs.Ythlcognpfangkaa
open Go.RowKit Go.Proofs.YthlcognpfangkaaW.PrintWords Go.Proofs.YthlcognpfangkaaW.PrintLast Go.Proofs.YthlcognpfangkaaW.PrintMore
set_option linter.unusedVariables false
set_option linter.unusedSimpArgs false
attribute [local go_sem] max2_int min2_int max_two min_two

theorem info122 : (Try.prog.info? 122).map (fun i => (i.zero, i.size, i.bytes)) = some (some (.agg #[.int .i64 0, .string ByteArray.empty, .int .i64 0]), 3, 32) := by kernel_rfl
theorem HI122 : ∃ i, Try.prog.info? 122 = some i := by
  obtain ⟨i0, hi, _⟩ := info_parts info122
  exact ⟨i0, hi⟩
section
variable {ops : Array Oper} {o : Oper} {a : Act} {Kc : Act → World → Prop} {Q : Exit → Act → World → Prop}
/-- append(l, e) as one step of a region that draws. -/
theorem app_e3_step {W : World} (base : Nat) (hw : Region.wanted o (yielded ops a.tmps) = true) (s x : Tmp) (ho : o.op = .call { callee := .builtin .append, args := #[.tmp s, .tmp x], argTypes := #[118, 118] })
    (v : Value) (xs : List ((Int × ByteArray) × Int)) (e1 : Int) (e2 : ByteArray) (e3 : Int) (hs : a.eval (.tmp s) = v) (hx : a.eval (.tmp x) = .slice (some ⟨W.heap.size, 0, none⟩) 1 1)
    (HO : Kd.R E3 122 W base (fun _ => True) v xs) (hbase : base ≤ W.heap.size) (hl : (xs.length + 1) * 32 ≤ 140737488355328)
    (h : ∀ v1 w1, Kd.R E3 122 w1 base (fun _ => True) v1 (xs ++ [((e1, e2), e3)]) → W.grownBy w1 v.ownBlock → Kc (a.put o.dst v1) w1) : if Region.wanted o (yielded ops a.tmps) = true then Oper.wp Try.prog o a (W.alloc (.cells #[.int .i64 e1, .string e2, .int .i64 e3] 122)) Kc Q else Kc (a.put o.dst undef) (W.alloc (.cells #[.int .i64 e1, .string e2, .int .i64 e3] 122)) :=
  Kd.R_append_step E3 (w0 := W) base hw (.tmp s) (.tmp x) 118 122 (.agg #[.int .i64 0, .string ByteArray.empty, .int .i64 0]) 32 ho Try.underlying118 info122 (by kernel_rfl) (by decide) (by omega) v xs ((e1, e2), e3) [.int .i64 e1, .string e2, .int .i64 e3] (fun _ => True) (fun _ => False) hs hx ⟨[.int .i64 e1, .string e2], [.int .i64 e3], rfl, ⟨[.int .i64 e1], [.string e2], rfl, rfl, rfl⟩, rfl⟩ (fun _ hk => hk.elim) (fun _ _ => trivial) HO (Below.refl _ _) hbase hl (fun v1 w1 h1 _ h2 _ => h v1 w1 h1 h2)
end
/-- The block of an Item. -/
def XI (w : World) (g : Nat) (k : Int) (s : ByteArray) : Prop := w.heap[g]? = some (.cells #[.int .i64 k, .string s] 27 (0, 0))
theorem XI.cells {w : World} {g : Nat} {k : Int} {s : ByteArray} (h : XI w g k s) : w.cell? ⟨g, 0, none⟩ = some (.int .i64 k) ∧ w.cell? ⟨g, 1, none⟩ = some (.string s) := ⟨(blk_cell h 0).trans rfl, (blk_cell h 1).trans rfl⟩
theorem XI.free {w : World} {g : Nat} {k : Int} {s : ByteArray} (h : XI w g k s) : w.frozen? ⟨g, 0, none⟩ = false ∧ w.frozen? ⟨g, 1, none⟩ = false := ⟨blk_frozen h 0, blk_frozen h 1⟩
/-- The blocks of Items stay. -/
def K27 (w W : World) : Prop := ∀ (k : Nat) (cells : Array Value), w.heap[k]? = some (.cells cells 27 (0, 0)) → W.heap[k]? = some (.cells cells 27 (0, 0))
theorem K27.refl (w : World) : K27 w w := fun _ _ h => h
theorem K27.trans {w W W2 : World} (h : K27 w W) (k : K27 W W2) : K27 w W2 := fun i cs hc => k i cs (h i cs hc)
theorem K27.no {w W : World} (hf : Fr No w W) : K27 w W := fun _ _ h => hf.blk h (fun h => h.elim)
theorem K27.at_ {w W : World} {g : Nat} {v : Value} {t : Int} (hf : Fr (At g) w W) (hb : Pb w g v t) : K27 w W := fun k _ h => hf.blk h (fun (e : k = g) => blk_ne h hb (by decide) e)
theorem K27.row {w W : World} {b : Nat} {ok : Nat → Prop} {v : Value} {xs : List ((Int × ByteArray) × Int)} (hf : Fr (fun q => v.ownBlock = some q) w W) (hr : Kd.R E3 122 w b ok v xs) : K27 w W := fun _ _ h => hf.blk h (fun hq => Kd.R_ne hr h (by decide) hq.symm)
theorem K27.grown {w W : World} {b : Nat} {ok : Nat → Prop} {v : Value} {xs : List ((Int × ByteArray) × Int)} (hg : w.grownBy W v.ownBlock) (hr : Kd.R E3 122 w b ok v xs) : K27 w W := fun _ _ h => blk_grown h hg (Kd.R_ne hr h (by decide))
theorem R27_keep {w W : World} {b : Nat} {ok : Nat → Prop} {v : Value} {xs : List (Int × ByteArray)} (h : Kd.R EI 27 w b ok v xs) (hK : K27 w W) : Kd.R EI 27 W b ok v xs :=
  Kd.R_mono (Kd.R_move (Kd.R_bound h) (fun k hk => by
    obtain ⟨_, _, _, q, hq, cells, hc⟩ := hk
    simp [Kd.pair, Kd.int, Kd.string, Kd.scalar] at hq
    subst hq
    rw [hc]
    exact hK k cells hc)) (fun k hk => hk.1)
theorem XI.no {w W : World} {g : Nat} {k : Int} {s : ByteArray} (h : XI w g k s) (hf : Fr No w W) : XI W g k s := hf.blk h (fun h => h.elim)


set_option maxHeartbeats 8000000 in
set_option maxRecDepth 100000 in
theorem HP.push {w0 w : World} {g : Nat} {A : Option Addr} {c : Nat} {l : List ((Int × ByteArray) × Int)} {t : Int} (h : HP w0 w g A c l t) (x : Int) (s : ByteArray) (hh : HeapL kP tP z3 l) (ht0 : 0 ≤ t) (ht1 : t ≤ 1000000) (hl : l.length ≤ 1000000) :
    Calls Try.prog 22 #[.pointer (some ⟨g, 0, none⟩), .agg #[.int .i64 x, .string s]] w fun e w' => e = .returned (.tuple #[]) ∧ ∃ A' c' l', HP w0 w' g A' c' l' (t + 1) ∧ HeapL kP tP z3 l' ∧ l'.Perm (l ++ [((x, s), t + 1)]) ∧ K27 w w' := by
  have hs1 : IntKind.i64.wrap (t + 1) = t + 1 := IntWalk.i64_in _ (by omega)
  have HU := Aside0.mk (UpL.start hh ((x, s), t + 1))
  have HLN := Aside0.mk (show (l.length + 1) * 32 ≤ 140737488355328 by omega)
  have HL9 := Aside0.mk (show (l ++ [((x, s), t + 1)]).length ≤ 1000001 by simp; omega)
  have hgl : g < w.heap.size := blk_lt h.hb
  obtain ⟨q0, q1, q2⟩ := h.hb.cells
  obtain ⟨f1, f2⟩ := h.hb.free
  have hf9 := (Fr.refl (At g) w).setAt 2 (.int .i64 (t + 1))
  have HS := (show HP w0 (w.setCell ⟨g, 2, none⟩ (.int .i64 (t + 1))) g A c l (t + 1) from ⟨h.hb.set2 _, Kd.R_set h.r h.hb (by intro q hq; simp [Kd.pair, Kd.int, Kd.string, Kd.scalar] at hq; omega) 2 _, h.ge, h.fr.trans hf9 (fun k (hk : k = g) => .inr (by rw [hk]; exact h.ge))⟩)
  have H1 := Aside0.mk (HS.no ((Fr.refl No _).alloc (.cells #[.int .i64 x, .string s] 27)))
  have X1 := Aside0.mk (show XI ((w.setCell ⟨g, 2, none⟩ (.int .i64 (t + 1))).alloc (.cells #[.int .i64 x, .string s] 27)) w.heap.size x s from by have := blk_new (w.setCell ⟨g, 2, none⟩ (.int .i64 (t + 1))) (.cells #[.int .i64 x, .string s] 27); rw [show (w.setCell ⟨g, 2, none⟩ (.int .i64 (t + 1))).heap.size = w.heap.size from by simp [World.setCell]] at this; exact this)
  have K1 := Aside0.mk (show K27 w ((w.setCell ⟨g, 2, none⟩ (.int .i64 (t + 1))).alloc (.cells #[.int .i64 x, .string s] 27)) from (K27.at_ hf9 h.hb).trans (K27.no ((Fr.refl No _).alloc _)))
  have hu27 := Try.underlying27
  have hu122 := Try.underlying122
  clear h hh q0 q1 f1 hf9 ht0 ht1 HS
  go_enter Try.func22, Try.ntmps22
  go_wp2_with (fail)
  generalize (w.setCell ⟨g, 2, none⟩ (.int .i64 (t + 1))).alloc (.cells #[.int .i64 x, .string s] 27) = w1 at H1 X1 K1 ⊢
  generalize w.heap.size = gx at X1 ⊢
  clear q2 f2 hs1 hgl
  have HD := Aside0.mk (H1.out.no (Fr.refl No w1).drew)
  have XD := Aside0.mk (X1.out.no (Fr.refl No w1).drew)
  have HDA := Aside0.mk (HD.out.no ((Fr.refl No w1.drew).alloc (.cells #[.int .i64 x, .string s, .int .i64 (t + 1)] 122)))
  have XDA := Aside0.mk (XD.out.no ((Fr.refl No w1.drew).alloc (.cells #[.int .i64 x, .string s, .int .i64 (t + 1)] 122)))
  refine start_ (n := 16) (S := fun w' => w'.cell? ⟨g, 1, none⟩ = some (.slice A l.length c) ∧ w'.cell? ⟨g, 2, none⟩ = some (.int .i64 (t + 1)) ∧ w'.cell? ⟨gx, 0, none⟩ = some (.int .i64 x) ∧ w'.cell? ⟨gx, 1, none⟩ = some (.string s)) (ds := [15]) #[false, false, false, false, false, false, false, false, false, false, false, false, false, false, false, false] (by kernel_rfl) rfl rfl ⟨HD.out.hb.cells.2.1, HD.out.hb.cells.2.2, XD.out.cells.1, XD.out.cells.2⟩ (fun hHeld => ?_)
  refine pure_ (i := 0) (N := some 12) (v := ?_) (a' := ?_) #[true, false, false, false, false, false, false, false, false, false, false, false, false, false, false, false] rfl rfl (by kernel_rfl) (fun _ _ _ h => h) (Or.inl ⟨by rfl, ?_⟩) ?_ ?_
  rotate_left
  · intro w'
    go_simp
    with_reducible rfl
  rotate_left
  · simp only [Act.put, List.setIfInBounds_toArray, List.set_cons_zero, List.set_cons_succ, i64_w, i32_w]
    rfl
  refine pure_ (i := 1) (N := some 13) (v := ?_) (a' := ?_) #[true, true, false, false, false, false, false, false, false, false, false, false, false, false, false, false] rfl rfl (by kernel_rfl) (fun _ _ _ h => h) (Or.inl ⟨by rfl, ?_⟩) ?_ ?_
  rotate_left
  · intro w'
    go_simp
    with_reducible rfl
  rotate_left
  · simp only [Act.put, List.setIfInBounds_toArray, List.set_cons_zero, List.set_cons_succ, i64_w, i32_w]
    rfl
  refine pure_ (i := 2) (N := some 14) (v := ?_) (a' := ?_) #[true, true, true, false, false, false, false, false, false, false, false, false, false, false, false, false] rfl rfl (by kernel_rfl) (fun _ _ _ h => h) (Or.inl ⟨by rfl, ?_⟩) ?_ ?_
  rotate_left
  · intro w'
    go_simp
    with_reducible rfl
  rotate_left
  · simp only [Act.put, List.setIfInBounds_toArray, List.set_cons_zero, List.set_cons_succ, i64_w, i32_w]
    rfl
  refine pure_ (i := 3) (N := some 15) (v := ?_) (a' := ?_) #[true, true, true, true, false, false, false, false, false, false, false, false, false, false, false, false] rfl rfl (by kernel_rfl) (fun _ _ _ h => h) (Or.inl ⟨by rfl, ?_⟩) ?_ ?_
  rotate_left
  · intro w'
    go_simp
    with_reducible rfl
  rotate_left
  · simp only [Act.put, List.setIfInBounds_toArray, List.set_cons_zero, List.set_cons_succ, i64_w, i32_w]
    rfl
  refine pure_ (i := 6) (N := some 18) (v := ?_) (a' := ?_) #[true, true, true, true, false, false, true, false, false, false, false, false, false, false, false, false] rfl rfl (by kernel_rfl) (fun _ _ _ h => h) (Or.inl ⟨by rfl, ?_⟩) ?_ ?_
  rotate_left
  · intro w'
    go_simp
    with_reducible rfl
  rotate_left
  · simp only [Act.put, List.setIfInBounds_toArray, List.set_cons_zero, List.set_cons_succ, i64_w, i32_w]
    rfl
  refine pure_ (i := 7) (N := some 19) (v := ?_) (a' := ?_) #[true, true, true, true, false, false, true, true, false, false, false, false, false, false, false, false] rfl rfl (by kernel_rfl) (fun _ _ _ h => h) (Or.inl ⟨by rfl, ?_⟩) ?_ ?_
  rotate_left
  · intro w'
    go_simp
    with_reducible rfl
  rotate_left
  · simp only [Act.put, List.setIfInBounds_toArray, List.set_cons_zero, List.set_cons_succ, i64_w, i32_w]
    rfl
  refine pure_ (i := 8) (N := some 20) (v := ?_) (a' := ?_) #[true, true, true, true, false, false, true, true, true, false, false, false, false, false, false, false] rfl rfl (by kernel_rfl) (fun _ _ _ h => h) (Or.inl ⟨by rfl, ?_⟩) ?_ ?_
  rotate_left
  · intro w'
    go_simp
    with_reducible rfl
  rotate_left
  · simp only [Act.put, List.setIfInBounds_toArray, List.set_cons_zero, List.set_cons_succ, i64_w, i32_w]
    rfl
  refine take_ (i := 4) (N := some 16) (v := ?_) (a' := ?_) #[true, true, true, true, true, false, true, true, true, false, false, false, false, false, false, false] rfl rfl (by kernel_rfl) (fun _ _ _ h => h) (Or.inl ⟨by rfl, ?_⟩) hHeld ?_ ?_
  rotate_left
  · rintro w' ⟨s0, s1, s2, s3⟩
    go_simp
    with_reducible rfl
  rotate_left
  · simp only [Act.put, List.setIfInBounds_toArray, List.set_cons_zero, List.set_cons_succ, i64_w, i32_w]
    rfl
  refine take_ (i := 5) (N := some 17) (v := ?_) (a' := ?_) #[true, true, true, true, true, true, true, true, true, false, false, false, false, false, false, false] rfl rfl (by kernel_rfl) (fun _ _ _ h => h) (Or.inl ⟨by rfl, ?_⟩) hHeld ?_ ?_
  rotate_left
  · rintro w' ⟨s0, s1, s2, s3⟩
    go_simp
    with_reducible rfl
  rotate_left
  · simp only [Act.put, List.setIfInBounds_toArray, List.set_cons_zero, List.set_cons_succ, i64_w, i32_w]
    rfl
  refine take_ (i := 9) (N := some 21) (v := ?_) (a' := ?_) #[true, true, true, true, true, true, true, true, true, true, false, false, false, false, false, false] rfl rfl (by kernel_rfl) (fun _ _ _ h => h) (Or.inl ⟨by rfl, ?_⟩) hHeld ?_ ?_
  rotate_left
  · rintro w' ⟨s0, s1, s2, s3⟩
    go_simp
    with_reducible rfl
  rotate_left
  · simp only [Act.put, List.setIfInBounds_toArray, List.set_cons_zero, List.set_cons_succ, i64_w, i32_w]
    rfl
  refine pure_ (i := 10) (N := some 22) (v := ?_) (a' := ?_) #[true, true, true, true, true, true, true, true, true, true, true, false, false, false, false, false] rfl rfl (by kernel_rfl) (fun _ _ _ h => h) (Or.inl ⟨by rfl, ?_⟩) ?_ ?_
  rotate_left
  · intro w'
    go_simp
    with_reducible rfl
  rotate_left
  · simp only [Act.put, List.setIfInBounds_toArray, List.set_cons_zero, List.set_cons_succ, i64_w, i32_w]
    rfl
  refine one_ (i := 11) (N := some 23) #[true, true, true, true, true, true, true, true, true, true, true, true, false, false, false, false] rfl rfl (by kernel_rfl) (by decide) (fun K hK => ?_)
  refine value_ (w1 := ?_) (v := ?_) (by rfl) rfl ?_ ?_
  rotate_left 2
  · go_simp
    constructor
    · rfl
    · rfl
  refine hK.out _ _ ⟨HDA.out.hb.cells.2.1, HDA.out.hb.cells.2.2, XDA.out.cells.1, XDA.out.cells.2⟩ (fun hHeld => ?_)
  clear hK K
  refine norm_ (a' := ?_) ?_ ?_
  rotate_left
  · show Act.put _ (some 23) _ = _
    simp only [Act.put, List.setIfInBounds_toArray, List.set_cons_zero, List.set_cons_succ, i64_w, i32_w]
    rfl
  refine one_ (i := 12) (N := some 24) #[true, true, true, true, true, true, true, true, true, true, true, true, true, false, false, false] rfl rfl (by kernel_rfl) (by decide) (fun K hK => ?_)
  refine app_e3_step w0.heap.size (by rfl) 16 23 (by rfl) (.slice A l.length c) l x s (t + 1) (by rfl) (by rfl) HD.out.r HD.out.fr.size HLN.out ?_
  intro v5 w5 hr5 hg5
  obtain ⟨A5, c5, e5⟩ := Kd.R_slice hr5
  rw [List.length_append, List.length_singleton] at e5
  subst e5
  have B5 := Aside0.mk (show Pb w5 g (.slice A l.length c) (t + 1) from blk_grown HD.out.hb hg5 (Kd.R_ne HD.out.r HD.out.hb (by decide)))
  have X5 := Aside0.mk (show XI w5 gx x s from blk_grown XD.out hg5 (Kd.R_ne HD.out.r XD.out (by decide)))
  have K5 := Aside0.mk ((K1.out.trans (K27.no (Fr.refl No w1).drew)).trans (K27.grown hg5 HD.out.r))
  have R5 := Aside0.mk hr5
  have F5 := Aside0.mk (HD.out.fr.grown hg5 (fun q hq => .inr (Kd.R_base HD.out.r q hq)))
  obtain ⟨y0, y1, y2⟩ := B5.out.cells
  obtain ⟨f1, f2⟩ := B5.out.free
  clear hr5 hg5 y0
  refine hK.out _ _ ⟨B5.out.cells.2.1, B5.out.cells.2.2, X5.out.cells.1, X5.out.cells.2⟩ (fun hHeld => ?_)
  clear hK K
  refine norm_ (a' := ?_) ?_ ?_
  rotate_left
  · show Act.put _ (some 24) _ = _
    simp only [Act.put, List.setIfInBounds_toArray, List.set_cons_zero, List.set_cons_succ, i64_w, i32_w]
    rfl
  refine pure_ (i := 13) (N := some 25) (v := ?_) (a' := ?_) #[true, true, true, true, true, true, true, true, true, true, true, true, true, true, false, false] rfl rfl (by kernel_rfl) (fun _ _ _ h => h) (Or.inl ⟨by rfl, ?_⟩) ?_ ?_
  rotate_left
  · intro w'
    go_simp
    with_reducible rfl
  rotate_left
  · simp only [Act.put, List.setIfInBounds_toArray, List.set_cons_zero, List.set_cons_succ, i64_w, i32_w]
    rfl
  refine pure_ (i := 14) (N := some 26) (v := ?_) (a' := ?_) #[true, true, true, true, true, true, true, true, true, true, true, true, true, true, true, false] rfl rfl (by kernel_rfl) (fun _ _ _ h => h) (Or.inl ⟨by rfl, ?_⟩) ?_ ?_
  rotate_left
  · intro w'
    go_simp
    with_reducible rfl
  rotate_left
  · simp only [Act.put, List.setIfInBounds_toArray, List.set_cons_zero, List.set_cons_succ, i64_w, i32_w]
    rfl
  refine last_ (i := 15) (N := none) #[true, true, true, true, true, true, true, true, true, true, true, true, true, true, true, true] rfl rfl (by kernel_rfl) (by decide) (fun K hK => ?_)
  refine skip_ (w1 := ?_) (by rfl) rfl ?_ ?_
  rotate_left
  · go_simp
    rfl
  refine hK.out _ _ ?_
  clear hK K
  refine done_ (by kernel_rfl) ?_
  have HZ := Aside0.mk (show HP w0 (w5.setCell ⟨g, 1, none⟩ (.slice A5 (l.length + 1) c5)) g A5 c5 (l ++ [((x, s), t + 1)]) (t + 1) from ⟨by rw [List.length_append, List.length_singleton]; exact B5.out.set1 _, by rw [List.length_append, List.length_singleton]; exact Kd.R_set R5.out B5.out (by intro q hq; simp [Kd.pair, Kd.int, Kd.string, Kd.scalar] at hq; omega) 1 _, H1.out.ge, F5.out.trans ((Fr.refl (At g) w5).setAt 1 _) (fun k (hk : k = g) => .inr (by rw [hk]; exact H1.out.ge))⟩)
  have KZ := Aside0.mk (K5.out.trans (K27.at_ ((Fr.refl (At g) w5).setAt 1 (.slice A5 (l.length + 1) c5)) B5.out))
  clear y1 y2 f1 f2 HD HDA XD XDA H1 X1 X5 B5 R5 F5 K1 K5
  have hlen : (l ++ [((x, s), t + 1)]).length = l.length + 1 := by simp
  have HLEN := Aside0.mk hlen
  generalize w5.setCell ⟨g, 1, none⟩ (.slice A5 (l.length + 1) c5) = w6 at HZ KZ ⊢
  obtain ⟨z0, z1, z2⟩ := HZ.out.hb.cells
  rw [hlen] at z1
  have hs2 : IntKind.i64.wrap (((l.length : Int) + 1) - 1) = l.length := by rw [IntWalk.i64_in _ (by omega)]; omega
  clear z0 z2 hlen
  go_wp2_with (fail)
  go_loopg [4] l.length (fun kq v4 w' => ∃ l' : List ((Int × ByteArray) × Int), v4 = .int .i64 kq ∧ Aside0 (HP w0 w' g A5 c5 l' (t + 1)) ∧ Aside0 (K27 w w') ∧ Aside0 (UpL kP tP z3 (l ++ [((x, s), t + 1)]) l' kq))
  case atStart => exact ⟨l ++ [((x, s), t + 1)], rfl, HZ, KZ, HU⟩
  case round =>
    clear HZ HU KZ z1 hs2
    obtain ⟨l', rfl, HH, KK, UU⟩ := hrel
    have hll := UU.out.perm.length_eq
    have HPL := Aside0.mk hll
    have hlt := UU.out.lti
    have hml := HL9.out
    rw [hll] at hlt
    have hkb : gk ≤ 1000001 := by omega
    clear hll hlt hml
    by_cases h0 : 0 < gk
    · have hb0 : decide (0 < gk) = true := decide_eq_true h0
      have hb1 : decide ((0 : Int) < gk) = true := decide_eq_true (by omega)
      have hw : IntKind.i64.wrap ((gk : Int) - 1) = ((gk - 1 : Nat) : Int) := by rw [IntWalk.i64_in _ (by omega)]; omega
      have hq : Int.tdiv (((gk - 1 : Nat) : Int)) 2 = ((par gk : Nat) : Int) := by unfold par; rfl
      have hq2 : (((gk - 1 : Nat) : Int)) / 2 = ((par gk : Nat) : Int) := by unfold par; rfl
      have hpl : par gk < l'.length ∧ gk < l'.length := ⟨by have := UU.out.lti; unfold par; omega, UU.out.lti⟩
      have HPQ := Aside0.mk hpl
      clear hpl
      by_cases hc : hlt kP tP (l'.getD gk z3) (l'.getD (par gk) z3)
      · have HC := Aside0.mk hc
        have HDE := Aside0.mk (decide_eq_true hc)
        clear hc
        go_wp2_with (go_at_call 82; refine (HP.ahead HH.out gk (par gk) HPQ.out.2 HPQ.out.1).mono ?_; rw [HDE.out]; rintro e w7 ⟨rfl, hf7⟩; have H7 := Aside0.mk (HH.out.no hf7); have K7 := Aside0.mk (KK.out.trans (K27.no hf7)); clear hf7)
        refine (HP.swap H7.out gk (par gk) HPQ.out.2 HPQ.out.1).mono ?_
        rintro e w8 ⟨rfl, h8, hf8⟩
        have H8 := Aside0.mk h8
        have K8 := Aside0.mk (K7.out.trans (K27.row hf8 H7.out.r))
        clear hf8
        have U8 := Aside0.mk (UU.out.step h0 HC.out)
        clear h8
        go_wp2_with (fail)
        go_roundg (par gk)
        case measure => unfold par; omega
        case rel => exact ⟨_, rfl, H8, K8, U8⟩
      · have HC := Aside0.mk hc
        have HDE := Aside0.mk (decide_eq_false hc)
        clear hc
        go_wp2_with (go_at_call 82; refine (HP.ahead HH.out gk (par gk) HPQ.out.2 HPQ.out.1).mono ?_; rw [HDE.out]; rintro e w7 ⟨rfl, hf7⟩; have H7 := Aside0.mk (HH.out.no hf7); have K7 := Aside0.mk (KK.out.trans (K27.no hf7)); clear hf7)
        go_end0
        exact ⟨rfl, A5, c5, l', H7.out, UU.out.done (.inr HC.out), UU.out.perm, K7.out⟩
    · have hb0 : decide (0 < gk) = false := decide_eq_false h0
      have hb1 : decide ((0 : Int) < gk) = false := decide_eq_false (by omega)
      have hz : gk = 0 := by omega
      have HZ0 := Aside0.mk hz
      clear hz
      go_wp2_with (fail)
      go_end0
      exact ⟨rfl, A5, c5, l', HH.out, UU.out.done (.inl HZ0.out), UU.out.perm, KK.out⟩


set_option maxRecDepth 100000 in
theorem HP.pop_no {w0 w : World} {g : Nat} {A : Option Addr} {c : Nat} {l : List ((Int × ByteArray) × Int)} {t : Int} (h : HP w0 w g A c l t) (hl : l.length = 0) :
    Calls Try.prog 23 #[.pointer (some ⟨g, 0, none⟩)] w fun e w' => e = .returned (.tuple #[.agg #[.int .i64 0, .string ⟨#[]⟩], .bool false]) ∧ Fr No w w' := by
  have H := Aside0.mk h
  have HL := Aside0.mk hl
  have hu27 := Try.underlying27
  clear h hl
  go_enter Try.func23, Try.ntmps23
  go_wp2_with (fail)
  have X1 := Aside0.mk (show XI (w.alloc (.cells #[.int .i64 0, .string ⟨#[]⟩] 27)) w.heap.size 0 ⟨#[]⟩ from blk_new w _)
  have F1 := Aside0.mk ((Fr.refl No w).alloc (.cells #[.int .i64 0, .string ⟨#[]⟩] 27))
  refine (HP.peek_no (H.out.no F1.out) HL.out).mono ?_
  rintro e w2 ⟨rfl, hf2⟩
  have X2 := Aside0.mk (X1.out.no hf2)
  have F2 := Aside0.mk (F1.out.on hf2)
  have hz2 : w.heap.size < w2.heap.size := blk_lt X2.out
  obtain ⟨y0, y1⟩ := X2.out.cells
  obtain ⟨f0, f1⟩ := X2.out.free
  have hne : ¬ w.heap.size = w2.heap.size := by omega
  have hne2 : ¬ w2.heap.size = w.heap.size := by omega
  clear hf2 X1 F1
  go_wp2_with (fail)
  refine bodyPost_ret (v := .tuple #[.agg #[.int .i64 0, .string ⟨#[]⟩], .bool false]) (by simp [results, Try.results23, go_sem, y0, y1, hz2]) rfl ⟨rfl, ?_⟩
  refine F2.out.trans (S2 := fun q => w.heap.size ≤ q) ?_ (fun q hq => .inr hq)
  repeat (first | exact Fr.refl _ _ | refine Fr.setCell ?_ (.inl (by show _ ≤ _; simp)) _ | refine Fr.alloc ?_ _)

set_option maxHeartbeats 8000000 in
set_option maxRecDepth 100000 in
theorem HP.pop {w0 w : World} {g : Nat} {A : Option Addr} {c : Nat} {l : List ((Int × ByteArray) × Int)} {t : Int} (n : Nat) (h : HP w0 w g A c l t) (hh : HeapL kP tP z3 l) (hl : l.length = n + 1) (hl9 : n ≤ 1000000) :
    Calls Try.prog 23 #[.pointer (some ⟨g, 0, none⟩)] w fun e w' => e = .returned (.tuple #[.agg #[.int .i64 (l.getD 0 z3).1.1, .string (l.getD 0 z3).1.2], .bool true]) ∧ ∃ l', HP w0 w' g A c l' t ∧ HeapL kP tP z3 l' ∧ l.Perm (l.getD 0 z3 :: l') ∧ K27 w w' := by
  obtain ⟨d1, d2, d3⟩ := DnL.start hh hl
  have H := Aside0.mk h
  have HPM := Aside0.mk d2
  have HDN := Aside0.mk d1
  have HR3 := Aside0.mk d3
  have HL := Aside0.mk hl
  have HN9 := Aside0.mk hl9
  have GRB := Aside0.mk h.fr.size
  clear h hh hl d1 d2 d3 hl9
  generalize hx0 : (l.getD 0 z3).1.1 = x0k
  generalize hx1 : (l.getD 0 z3).1.2 = x0s
  have HX0 := Aside0.mk (And.intro hx0 hx1)
  have hu27 := Try.underlying27
  clear hx0 hx1
  go_enter Try.func23, Try.ntmps23
  go_wp2_with (fail)
  have X1 := Aside0.mk (show XI (w.alloc (.cells #[.int .i64 0, .string ⟨#[]⟩] 27)) w.heap.size 0 ⟨#[]⟩ from blk_new w _)
  have H1 := Aside0.mk (H.out.no ((Fr.refl No w).alloc (.cells #[.int .i64 0, .string ⟨#[]⟩] 27)))
  have K1 := Aside0.mk (K27.no ((Fr.refl No w).alloc (.cells #[.int .i64 0, .string ⟨#[]⟩] 27)))
  have GR2 := Aside0.mk (Nat.le_refl w.heap.size)
  generalize w.alloc (.cells #[.int .i64 0, .string ⟨#[]⟩] 27) = w1 at X1 H1 K1 ⊢
  generalize hg2 : w.heap.size = gr2 at X1 GRB ⊢
  replace GR2 := Aside0.mk (show w.heap.size ≤ gr2 by omega)
  clear hg2
  clear H
  refine (HP.peek H1.out (by rw [HL.out]; omega)).mono ?_
  rw [HX0.out.1, HX0.out.2]
  rintro e w2 ⟨rfl, hf2⟩
  have H2 := Aside0.mk (H1.out.no hf2)
  have X2 := Aside0.mk (X1.out.no hf2)
  have FA := (Fr.refl No w2).alloc (.cells #[.int .i64 x0k, .string x0s] 27)
  have H3 := Aside0.mk (H2.out.no FA)
  have K3 := Aside0.mk ((K1.out.trans (K27.no hf2)).trans (K27.no FA))
  have X3 := Aside0.mk (And.intro (show XI (w2.alloc (.cells #[.int .i64 x0k, .string x0s] 27)) w2.heap.size x0k x0s from blk_new w2 _) (X2.out.no FA))
  have XNE := Aside0.mk (show ¬ w2.heap.size = gr2 from fun e => by have := blk_lt X2.out; omega)
  obtain ⟨q0, q1, q2⟩ := H3.out.hb.cells
  rw [HL.out] at q1
  have hgl : g < w2.heap.size := blk_lt H2.out.hb
  obtain ⟨u0, u1, u2⟩ := H2.out.hb.cells
  rw [HL.out] at u1
  have hn9 := HN9.out
  have hs1 : IntKind.i64.wrap (((n + 1 : Nat) : Int) - 1) = n := by rw [IntWalk.i64_in _ (by omega)]; omega
  have hs2 : IntKind.i64.wrap (((n : Int) + 1) - 1) = n := by rw [IntWalk.i64_in _ (by omega)]; omega
  clear q0 q2 u0 u2 FA hf2 X1 H1 X2 H2
  go_wp2_with (fail)
  generalize w2.alloc (.cells #[.int .i64 x0k, .string x0s] 27) = w3 at H3 X3 K3 q1 ⊢
  clear u1 hgl
  generalize w2.heap.size = gx at X3 XNE ⊢
  clear q1 hs1 hs2
  refine (HP.swap H3.out 0 n (by rw [HL.out]; omega) (by rw [HL.out]; omega)).mono ?_
  rintro e w4 ⟨rfl, h2, hf2⟩
  have X4 := Aside0.mk (And.intro (show XI w4 gx x0k x0s from hf2.blk X3.out.1 (fun hq => Kd.R_ne H3.out.r X3.out.1 (by decide) hq.symm)) (show XI w4 gr2 0 ⟨#[]⟩ from hf2.blk X3.out.2 (fun hq => Kd.R_ne H3.out.r X3.out.2 (by decide) hq.symm)))
  have hls : (swp z3 l 0 n).length = n + 1 := by rw [swp_length]; exact HL.out
  have hcp := (Kd.R_reads' h2.r).2.1
  rw [hls] at hcp
  have hct := cut_to (P := Try.prog) 118 122 .i64 Try.underlying118 HI122.choose_spec A (n + 1) c (n : Int) (by omega) (by omega) hcp
  rw [Int.toNat_natCast] at hct
  have hrt := Kd.R_take (m := n) h2.r (by rw [hls]; omega)
  have hb2 := h2.hb
  rw [hls] at hb2
  obtain ⟨q0, q1, q2⟩ := hb2.cells
  obtain ⟨f1, f2⟩ := hb2.free
  have FS := (Fr.refl (At g) w4).setAt 1 (.slice A n c)
  have HZ := Aside0.mk (show HP w0 (w4.setCell ⟨g, 1, none⟩ (.slice A n c)) g A c ((swp z3 l 0 n).take n) t from ⟨by rw [HR3.out]; exact hb2.set1 _, by rw [HR3.out]; exact Kd.R_set hrt hb2 (by intro q hq; simp [Kd.pair, Kd.int, Kd.string, Kd.scalar] at hq; omega) 1 _, h2.ge, h2.fr.trans FS (fun k (hk : k = g) => .inr (by rw [hk]; exact h2.ge))⟩)
  have KZ := Aside0.mk ((K3.out.trans (K27.row hf2 H3.out.r)).trans (K27.at_ FS hb2))
  have XZ := Aside0.mk (And.intro (show XI (w4.setCell ⟨g, 1, none⟩ (.slice A n c)) gx x0k x0s from FS.blk X4.out.1 (fun (e : gx = g) => blk_ne X4.out.1 hb2 (by decide) e)) (show XI (w4.setCell ⟨g, 1, none⟩ (.slice A n c)) gr2 0 ⟨#[]⟩ from FS.blk X4.out.2 (fun (e : gr2 = g) => blk_ne X4.out.2 hb2 (by decide) e)))
  clear h2 hls hcp hrt hb2 q0 q2 f2 H3 X3 X4 FS hf2
  generalize (swp z3 l 0 n).take n = r0 at HZ HDN HR3 HPM
  go_wp2_with (fail)
  generalize w4.setCell ⟨g, 1, none⟩ (.slice A n c) = w5 at HZ XZ KZ ⊢
  clear q1 f1 hct
  go_loopg [7] n (fun kq v7 w' => ∃ (i : Nat) (l' : List ((Int × ByteArray) × Int)), v7 = .int .i64 i ∧ i + kq = n ∧ (i < n ∨ n = 0) ∧ Aside0 (HP w0 w' g A c l' t) ∧ Aside0 (XI w' gx x0k x0s ∧ XI w' gr2 0 ⟨#[]⟩) ∧ Aside0 (K27 w w') ∧ Aside0 (DnL kP tP z3 r0 l' i))
  case atStart => exact ⟨0, r0, rfl, by omega, by omega, HZ, XZ, KZ, HDN⟩
  case round =>
    clear HZ HDN XZ KZ
    obtain ⟨i, l', rfl, hik, hin, HH, XX, KK, DD⟩ := hrel
    have HLL := Aside0.mk (show l'.length = n from DD.out.perm.length_eq.trans HR3.out)
    have hi9 : i ≤ 1000000 := by omega
    have HIN := Aside0.mk hin
    have HIK := Aside0.mk hik
    clear hin hik
    go_wp2_with (fail)
    go_loopg [8, 9] 2 (fun jq v8 v9 w'' => ∃ (b k : Nat), v8 = .int .i64 b ∧ v9 = .int .i64 k ∧ k + jq = 2 * i + 3 ∧ b ≤ 1000000 ∧ Aside0 (HP w0 w'' g A c l' t) ∧ Aside0 (XI w'' gx x0k x0s ∧ XI w'' gr2 0 ⟨#[]⟩) ∧ Aside0 (K27 w w'') ∧ Aside0 ((n = 0 ∧ b = i) ∨ BsL kP tP z3 l' i k b))
    case atStart => exact ⟨i, 2 * i + 1, rfl, by go_num, by omega, hi9, HH, XX, KK, ⟨by
      rcases HIN.out with h | h
      · exact .inr (BsL.start (by rw [HLL.out]; exact h))
      · exact .inl ⟨h, rfl⟩⟩⟩
    case round =>
      clear HH XX KK
      obtain ⟨b, k, rfl, rfl, hkj, hb9, HH, XX, KK, BB⟩ := hrel
      by_cases hm : n < 2 * i + 3
      · have hmi : (n : Int) < 2 * (i : Int) + 3 := by omega
        by_cases ht : k < n
        · have htb : decide ((k : Int) < n) = true := decide_eq_true (by omega)
          have htb2 : decide (k < n) = true := decide_eq_true ht
          have hkn : k < n := by omega
          have BB2 := Aside0.mk (BB.out.resolve_left (fun h => by have := h.1; omega))
          have HK := Aside0.mk (show k < l'.length ∧ b < l'.length from ⟨by rw [HLL.out]; omega, BB2.out.lt⟩)
          clear BB
          have hk9 : k ≤ 1000000 := by omega
          by_cases hc : hlt kP tP (l'.getD k z3) (l'.getD b z3)
          · have HC := Aside0.mk hc
            have HDE := Aside0.mk (decide_eq_true hc)
            clear hc
            go_wp2_with (fail)
            refine (HP.ahead HH.out k b HK.out.1 HK.out.2).mono ?_
            rw [HDE.out]
            rintro e w7 ⟨rfl, hf7⟩
            have H7 := Aside0.mk (HH.out.no hf7)
            have X7 := Aside0.mk (And.intro (XX.out.1.no hf7) (XX.out.2.no hf7))
            have K7 := Aside0.mk (KK.out.trans (K27.no hf7))
            clear hf7
            go_wp2_with (fail)
            go_roundg (2 * i + 3 - (k + 1))
            case measure => omega
            case rel => exact ⟨k, k + 1, rfl, by go_num, by omega, hk9, H7, X7, K7, ⟨.inr (BB2.out.yes HK.out.1 HC.out)⟩⟩
          · have HC := Aside0.mk hc
            have HDE := Aside0.mk (decide_eq_false hc)
            clear hc
            go_wp2_with (fail)
            refine (HP.ahead HH.out k b HK.out.1 HK.out.2).mono ?_
            rw [HDE.out]
            rintro e w7 ⟨rfl, hf7⟩
            have H7 := Aside0.mk (HH.out.no hf7)
            have X7 := Aside0.mk (And.intro (XX.out.1.no hf7) (XX.out.2.no hf7))
            have K7 := Aside0.mk (KK.out.trans (K27.no hf7))
            clear hf7
            go_wp2_with (fail)
            go_roundg (2 * i + 3 - (k + 1))
            case measure => omega
            case rel => exact ⟨b, k + 1, rfl, by go_num, by omega, hb9, H7, X7, K7, ⟨.inr (BB2.out.no HC.out)⟩⟩
        · have htb : decide ((k : Int) < n) = false := decide_eq_false (by omega)
          have htb2 : decide (k < n) = false := decide_eq_false ht
          by_cases hbi : b = i
          · have hbb : ((b : Int) == i) = true := by simp; omega
            have HBI := Aside0.mk hbi
            have HKE := Aside0.mk (show k = 2 * i + 3 ∨ l'.length ≤ k from by rw [HLL.out]; omega)
            obtain ⟨x0, x1⟩ := XX.out.1.cells
            obtain ⟨y0, y1⟩ := XX.out.2.cells
            obtain ⟨g0, g1⟩ := XX.out.2.free
            have hgg := XNE.out
            have hgg2 : ¬ gr2 = gx := fun e => hgg e.symm
            clear hbi
            go_wp2_with (fail)
            refine bodyPost_ret (v := .tuple #[.agg #[.int .i64 x0k, .string x0s], .bool true]) (by simp [results, Try.results23, go_sem, y0, y1]) rfl ⟨rfl, ?_⟩
            have FS := ((Fr.refl (At gr2) _).setAt (W := wr) 0 (.int .i64 x0k)).setAt 1 (.string x0s)
            have hbx := blk_ne XX.out.2 HH.out.hb (by decide)
            refine ⟨l', ⟨FS.blk HH.out.hb (fun (e : g = gr2) => hbx e.symm), Kd.R_set (Kd.R_set HH.out.r XX.out.2 (by intro q hq; simp [Kd.pair, Kd.int, Kd.string, Kd.scalar] at hq; omega) 0 _) (blk_set XX.out.2 0 _) (by intro q hq; simp [Kd.pair, Kd.int, Kd.string, Kd.scalar] at hq; omega) 1 _, HH.out.ge, HH.out.fr.trans FS (fun q (hq : q = gr2) => .inr (by rw [hq]; exact GRB.out))⟩, ?_, HPM.out.trans (DD.out.perm.symm.cons _), fun q cs hq => FS.blk (KK.out q cs hq) (fun (e : q = gr2) => by have := blk_lt hq; have := GR2.out; omega)⟩
            rcases BB.out with h | h
            · exact fun j h0 hj => by have := HLL.out; have := h.1; omega
            · exact BsL.over DD.out h HKE.out HBI.out
          · have hbb : ((b : Int) == i) = false := by simp; omega
            have BB2 := Aside0.mk (BB.out.resolve_left (fun h => hbi h.2))
            obtain ⟨n1, n2⟩ := BsL.next DD.out BB2.out (by rw [HLL.out]; omega) (by omega) hbi
            have D8 := Aside0.mk n1
            have HBL := Aside0.mk (show i < l'.length ∧ b < l'.length from ⟨by have := BB2.out.lt; omega, BB2.out.lt⟩)
            have HBN := Aside0.mk (show b < n from by rw [← HLL.out]; exact BB2.out.lt)
            clear hbi n1 BB BB2
            go_wp2_with (fail)
            refine (HP.swap HH.out i b HBL.out.1 HBL.out.2).mono ?_
            rintro e w8 ⟨rfl, h8, hf8⟩
            have H8 := Aside0.mk h8
            have X8 := Aside0.mk (And.intro (show XI w8 gx x0k x0s from hf8.blk XX.out.1 (fun hq => Kd.R_ne HH.out.r XX.out.1 (by decide) hq.symm)) (show XI w8 gr2 0 ⟨#[]⟩ from hf8.blk XX.out.2 (fun hq => Kd.R_ne HH.out.r XX.out.2 (by decide) hq.symm)))
            have K8 := Aside0.mk (KK.out.trans (K27.row hf8 HH.out.r))
            clear h8 hf8
            go_wp2_with (fail)
            go_roundg (n - b)
            case measure => have := HIK.out; have := HBN.out; omega
            case rel => exact ⟨b, _, rfl, by have := HBN.out; omega, .inl HBN.out, H8, X8, K8, D8⟩
      · have hmi : ¬ (n : Int) < 2 * (i : Int) + 3 := by omega
        by_cases ht : k < 2 * i + 3
        · have htb : decide ((k : Int) < 2 * (i : Int) + 3) = true := decide_eq_true (by omega)
          have hkn : k < n := by omega
          have BB2 := Aside0.mk (BB.out.resolve_left (fun h => by have := h.1; omega))
          have HK := Aside0.mk (show k < l'.length ∧ b < l'.length from ⟨by rw [HLL.out]; omega, BB2.out.lt⟩)
          clear BB
          have hk9 : k ≤ 1000000 := by omega
          by_cases hc : hlt kP tP (l'.getD k z3) (l'.getD b z3)
          · have HC := Aside0.mk hc
            have HDE := Aside0.mk (decide_eq_true hc)
            clear hc
            go_wp2_with (fail)
            refine (HP.ahead HH.out k b HK.out.1 HK.out.2).mono ?_
            rw [HDE.out]
            rintro e w7 ⟨rfl, hf7⟩
            have H7 := Aside0.mk (HH.out.no hf7)
            have X7 := Aside0.mk (And.intro (XX.out.1.no hf7) (XX.out.2.no hf7))
            have K7 := Aside0.mk (KK.out.trans (K27.no hf7))
            clear hf7
            go_wp2_with (fail)
            go_roundg (2 * i + 3 - (k + 1))
            case measure => omega
            case rel => exact ⟨k, k + 1, rfl, by go_num, by omega, hk9, H7, X7, K7, ⟨.inr (BB2.out.yes HK.out.1 HC.out)⟩⟩
          · have HC := Aside0.mk hc
            have HDE := Aside0.mk (decide_eq_false hc)
            clear hc
            go_wp2_with (fail)
            refine (HP.ahead HH.out k b HK.out.1 HK.out.2).mono ?_
            rw [HDE.out]
            rintro e w7 ⟨rfl, hf7⟩
            have H7 := Aside0.mk (HH.out.no hf7)
            have X7 := Aside0.mk (And.intro (XX.out.1.no hf7) (XX.out.2.no hf7))
            have K7 := Aside0.mk (KK.out.trans (K27.no hf7))
            clear hf7
            go_wp2_with (fail)
            go_roundg (2 * i + 3 - (k + 1))
            case measure => omega
            case rel => exact ⟨b, k + 1, rfl, by go_num, by omega, hb9, H7, X7, K7, ⟨.inr (BB2.out.no HC.out)⟩⟩
        · have htb : decide ((k : Int) < 2 * (i : Int) + 3) = false := decide_eq_false (by omega)
          by_cases hbi : b = i
          · have hbb : ((b : Int) == i) = true := by simp; omega
            have HBI := Aside0.mk hbi
            have HKE := Aside0.mk (show k = 2 * i + 3 ∨ l'.length ≤ k from by rw [HLL.out]; omega)
            obtain ⟨x0, x1⟩ := XX.out.1.cells
            obtain ⟨y0, y1⟩ := XX.out.2.cells
            obtain ⟨g0, g1⟩ := XX.out.2.free
            have hgg := XNE.out
            have hgg2 : ¬ gr2 = gx := fun e => hgg e.symm
            clear hbi
            go_wp2_with (fail)
            refine bodyPost_ret (v := .tuple #[.agg #[.int .i64 x0k, .string x0s], .bool true]) (by simp [results, Try.results23, go_sem, y0, y1]) rfl ⟨rfl, ?_⟩
            have FS := ((Fr.refl (At gr2) _).setAt (W := wr) 0 (.int .i64 x0k)).setAt 1 (.string x0s)
            have hbx := blk_ne XX.out.2 HH.out.hb (by decide)
            refine ⟨l', ⟨FS.blk HH.out.hb (fun (e : g = gr2) => hbx e.symm), Kd.R_set (Kd.R_set HH.out.r XX.out.2 (by intro q hq; simp [Kd.pair, Kd.int, Kd.string, Kd.scalar] at hq; omega) 0 _) (blk_set XX.out.2 0 _) (by intro q hq; simp [Kd.pair, Kd.int, Kd.string, Kd.scalar] at hq; omega) 1 _, HH.out.ge, HH.out.fr.trans FS (fun q (hq : q = gr2) => .inr (by rw [hq]; exact GRB.out))⟩, ?_, HPM.out.trans (DD.out.perm.symm.cons _), fun q cs hq => FS.blk (KK.out q cs hq) (fun (e : q = gr2) => by have := blk_lt hq; have := GR2.out; omega)⟩
            rcases BB.out with h | h
            · exact fun j h0 hj => by have := HLL.out; have := h.1; omega
            · exact BsL.over DD.out h HKE.out HBI.out
          · have hbb : ((b : Int) == i) = false := by simp; omega
            have BB2 := Aside0.mk (BB.out.resolve_left (fun h => hbi h.2))
            obtain ⟨n1, n2⟩ := BsL.next DD.out BB2.out (by rw [HLL.out]; omega) (by omega) hbi
            have D8 := Aside0.mk n1
            have HBL := Aside0.mk (show i < l'.length ∧ b < l'.length from ⟨by have := BB2.out.lt; omega, BB2.out.lt⟩)
            have HBN := Aside0.mk (show b < n from by rw [← HLL.out]; exact BB2.out.lt)
            clear hbi n1 BB BB2
            go_wp2_with (fail)
            refine (HP.swap HH.out i b HBL.out.1 HBL.out.2).mono ?_
            rintro e w8 ⟨rfl, h8, hf8⟩
            have H8 := Aside0.mk h8
            have X8 := Aside0.mk (And.intro (show XI w8 gx x0k x0s from hf8.blk XX.out.1 (fun hq => Kd.R_ne HH.out.r XX.out.1 (by decide) hq.symm)) (show XI w8 gr2 0 ⟨#[]⟩ from hf8.blk XX.out.2 (fun hq => Kd.R_ne HH.out.r XX.out.2 (by decide) hq.symm)))
            have K8 := Aside0.mk (KK.out.trans (K27.row hf8 HH.out.r))
            clear h8 hf8
            go_wp2_with (fail)
            go_roundg (n - b)
            case measure => have := HIK.out; have := HBN.out; omega
            case rel => exact ⟨b, _, rfl, by have := HBN.out; omega, .inl HBN.out, H8, X8, K8, D8⟩


end Go.Proofs.Ythlcognpfangkaa
