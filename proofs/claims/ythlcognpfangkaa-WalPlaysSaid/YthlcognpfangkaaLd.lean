/- The deeds of layer 8's laws, and what the records of records are (their cells readable, each integer in its range). -/
import Derived.Test.YthlcognpfangkaaWal3
import Derived.Test.YthlcognpfangkaaOp
import Derived.ChangeSlices
namespace Go.Proofs.Ythlcognpfangkaa
open Go.RowKit Go.Proofs.YthlcognpfangkaaW.PrintWords Go.Proofs.YthlcognpfangkaaW.PrintLast Go.Proofs.YthlcognpfangkaaW.PrintMore
set_option linter.unusedVariables false
set_option linter.unusedSimpArgs false

/-- What the walk is told of the deeds. -/
def DeedRow3 (w : World) (A : Option Addr) (n : Nat) (Wh N : Nat → Int) (X : Nat → Option Addr × Nat × List Int) : Prop :=
  ∀ k, k < n → (∃ ad, A = some ad ∧ w.cell? (ad.add (k * 3)) = some (.int .i64 (Wh k)) ∧ w.cell? (ad.add (k * 3 + 1)) = some (.int .i64 (N k)) ∧ w.cell? (ad.add (k * 3 + 2)) = some (.slice (X k).1 (X k).2.2.length (X k).2.1)) ∧
    (Kd.C (Kd.int .u8) w (X k).1 (X k).2.2.length (X k).2.2 ∧ (X k).2.2.length ≤ (X k).2.1 ∧ isBytes (X k).2.2 ∧ (X k).2.2.length ≤ 9223372036854775807) ∧ (-9223372036854775808 ≤ Wh k ∧ Wh k ≤ 9223372036854775807) ∧ (-9223372036854775808 ≤ N k ∧ N k ≤ 9223372036854775807)

theorem deed3_open {H : Type} {enc : TypeId × Value → H} {w : World} {base : Nat} {held : Bool} {a : Option Addr} {len cap : Nat} {d : DataW H} {pl : List MemPlace} (h : DataW.Trod enc Try.prog w base (fun _ => true) held 106 (.slice a len cap) d pl) :
    ∃ (Wh N : Nat → Int) (X : Nat → Option Addr × Nat × List Int), DeedRow3 w a len Wh N X ∧ len ≤ 9223372036854775807 := by
  obtain ⟨fuel, hf⟩ := h
  rcases open_rows Try.underlying106 Try.underlying111 3 (by kernel_rfl) hf with hcs | ⟨x, l, c, hcs, hl, hm, hi⟩
  · simp [Value.cells] at hcs
    obtain ⟨rfl, rfl, rfl⟩ := hcs
    exact ⟨fun _ => 0, fun _ => 0, fun _ => (none, 0, []), fun k hk => absurd hk (by omega), by omega⟩
  · simp [Value.cells] at hcs
    obtain ⟨rfl, rfl, rfl⟩ := hcs
    unfold maxLen at hm
    have c3 : 0 < Try.prog.cellsOf 3 := by
      have h : Try.prog.cellsOf 3 = 1 := by kernel_rfl
      omega
    have c47 : 0 < Try.prog.cellsOf 47 := by
      have h : Try.prog.cellsOf 47 = 1 := by kernel_rfl
      omega
    obtain ⟨T, hT⟩ := pick_each (α := Int) (n := len) (p := fun k v => w.cell? (x.add (k * 3)) = some (.int .i64 v) ∧ (Lit.int .i64 v).wf = true) (fun k hk => by
      obtain ⟨q, y, n, h1, h2⟩ := hi k hk 0 _ rfl
      obtain ⟨v, hv, hw⟩ := one_int Try.underlying3 h2
      exact ⟨v, (h1 0 c3 (by decide)).trans hv, hw⟩)
    obtain ⟨N, hN⟩ := pick_each (α := Int) (n := len) (p := fun k v => w.cell? (x.add (k * 3 + 1)) = some (.int .i64 v) ∧ (Lit.int .i64 v).wf = true) (fun k hk => by
      obtain ⟨q, y, n, h1, h2⟩ := hi k hk 1 _ rfl
      obtain ⟨v, hv, hw⟩ := one_int Try.underlying3 h2
      exact ⟨v, (h1 0 c3 (by decide)).trans hv, hw⟩)
    obtain ⟨X, hX⟩ := pick_each (α := Option Addr × Nat × List Int) (n := len) (p := fun k v => w.cell? (x.add (k * 3 + 2)) = some (.slice v.1 v.2.2.length v.2.1) ∧ Kd.C (Kd.int .u8) w v.1 v.2.2.length v.2.2 ∧ v.2.2.length ≤ v.2.1 ∧ isBytes v.2.2 ∧ v.2.2.length ≤ 9223372036854775807) (fun k hk => by
      obtain ⟨q, y, n, h1, h2⟩ := hi k hk 2 _ rfl
      have h3 := h1 0 c47 (by decide)
      rcases Go.ChangeShapes.open_ints Try.underlying47 Try.underlying5 (by kernel_rfl) h2 with ⟨hcs, _⟩ | ⟨xa, l, c, zs, hcs, _, hl, hm, hz, _, hcell, hwz⟩
      · rw [hcs] at h3
        exact ⟨(none, 0, []), h3, ⟨rfl, by simp, fun hn => absurd hn (by simp)⟩, by simp, (fun x hx => by cases hx), by simp⟩
      · rw [hcs] at h3
        unfold maxLen at hm
        have hrow : IsRow .u8 w (some xa) l c zs := .inr ⟨_, rfl, hl, by unfold maxLen; exact hm, by simpa using hz, hcell, hwz⟩
        obtain ⟨ys, rfl, hr, hc, hw8⟩ := hrow.reads
        exact ⟨(some xa, c, ys), h3, hr, hc, fun x hx => by have := bounds_u8 (hw8 x hx); omega, by show ys.length ≤ _; omega⟩)
    exact ⟨T, N, X, fun k hk => ⟨⟨x, rfl, (hT k hk).1, (hN k hk).1, (hX k hk).1⟩, (hX k hk).2, bounds_i64 (hT k hk).2, bounds_i64 (hN k hk).2⟩, by omega⟩

theorem pick08 (w : World) (c : Int) (m : Nat) (hm : m = 3 ∨ m = 5) (h0 : -9223372036854775808 ≤ c) (h1 : c ≤ 9223372036854775807) : Calls Try.prog 72 #[.int .i64 c, .int .i64 m] w fun e w' => ∃ r : Nat, r < m ∧ e = .returned (.int .i64 r) ∧ w = w' := by
  have h60 : ((m : Int) == 0) = false := by rcases hm with rfl | rfl <;> rfl
  have hm0 : 0 < m := by omega
  have hml : m ≤ 5 := by omega
  by_cases hc : c < 0
  · have hb : decide (c < 0) = true := decide_eq_true hc
    obtain ⟨k, hk⟩ : ∃ k : Nat, -(c + 1) = k := ⟨(-(c + 1)).toNat, by omega⟩
    have hw1 : IntKind.i64.wrap (c + 1) = c + 1 := IntWalk.i64_in _ (by omega)
    have hw2 : IntKind.i64.wrap (-(c + 1)) = k := by rw [hk]; exact IntWalk.i64_in _ (by omega)
    have ht : Int.tmod (k : Int) m = ((k % m : Nat) : Int) := rfl
    have hlt : k % m < m := Nat.mod_lt _ hm0
    generalize k % m = r at ht hlt
    clear hm
    go_enter Try.func72, Try.ntmps72
    go_wp2
    go_ret
    exact ⟨r, hlt, rfl, rfl⟩
  · have hb : decide (c < 0) = false := decide_eq_false hc
    obtain ⟨k, rfl⟩ := Int.eq_ofNat_of_zero_le (show 0 ≤ c by omega)
    have ht : Int.tmod (k : Int) m = ((k % m : Nat) : Int) := rfl
    have hlt : k % m < m := Nat.mod_lt _ hm0
    generalize k % m = r at ht hlt
    clear hm
    go_enter Try.func72, Try.ntmps72
    go_wp2
    go_ret
    exact ⟨r, hlt, rfl, rfl⟩

/-- Two rows of other types lie apart. -/
theorem R_apart2 {α β : Type} {d1 : Kd α} {d2 : Kd β} {e1 e2 b1 b2 : Nat} {w : World} {ok1 ok2 : Nat → Prop} {v1 v2 : Value} {xs : List α} {ys : List β} (h1 : d1.R e1 w b1 ok1 v1 xs) (h2 : d2.R e2 w b2 ok2 v2 ys) (hne : e1 ≠ e2) : ∀ k, v1.ownBlock = some k → v2.ownBlock ≠ some k := by
  intro k hk hk2
  obtain ⟨i1, o1⟩ := Kd.R_own h1
  obtain ⟨i2, o2⟩ := Kd.R_own h2
  obtain ⟨c1, hc1⟩ := own_typed o1 k hk
  obtain ⟨c2, hc2⟩ := own_typed o2 k hk2
  rw [hc1] at hc2
  simp only [Option.some.injEq, Obj.cells.injEq] at hc2
  exact hne hc2.2.1
section
variable {w0 w : World} {gl g c : Nat} {A : Option Addr} {l : List Int} {room left : Int} {v : Value} {o : List (List Int)}
/-- A row of texts is written. -/
theorem LG.away9 (h : LG w0 w gl g A c l room left v o) {b : Nat} {ok : Nat → Prop} {u : Value} {ys : List ByteArray} (hu : Kd.string.R 9 w b ok u ys) (hb : w0.heap.size ≤ b) {W : World} (hg : w.grownBy W u.ownBlock) : LG w0 W gl g A c l room left v o := by
  refine ⟨⟨h.la.ta.away hg (Kd.R_ne hu h.la.ta.t (by decide)) (fun k hk e => R_apart2 hu h.la.ta.r (by decide) k hk e) (fun k hk => Nat.le_trans hb (Kd.R_base hu k hk)), blk_grown h.la.lb hg (Kd.R_ne hu h.la.lb (by decide)), h.la.ge, ?_⟩, h.r1, h.r2, h.lf, h.ok, h.sz, h.by_⟩
  refine Kd.R_mono (Kd.R_grown (Kd.R_bound h.la.r) hg (fun k hk e => ?_)) (fun k hk => hk.1)
  obtain ⟨_, _, _, q, hq, cs, hcs⟩ := hk
  obtain ⟨i1, o1⟩ := Kd.R_own hu
  obtain ⟨c1, hc1⟩ := own_typed o1 k e.symm
  rw [hc1] at hcs
  simp only [Option.some.injEq, Obj.cells.injEq] at hcs
  obtain ⟨_, rfl, _⟩ := hcs
  revert hq
  simp [Kd.slice, Kd.int, Kd.scalar]
/-- Texts stay while a log and its tape are written. -/
theorem LG.keep9 (h : LG w0 w gl g A c l room left v o) {b : Nat} {ok : Nat → Prop} {u : Value} {ys : List ByteArray} (hu : Kd.string.R 9 w b ok u ys) {W : World} (hf : Fr (LS gl g (.slice A l.length c) v) w W) : Kd.string.R 9 W b ok u ys := by
  refine Kd.R_mono (hf.R (Kd.R_tight2 rfl hu) (fun k hk hs => ?_)) (fun k hk => hk.2)
  rcases hs with e | e | e | e
  · exact Kd.R_ne hu h.la.lb (by decide) (by rw [← e]; exact hk.1)
  · exact Kd.R_ne hu h.la.ta.t (by decide) (by rw [← e]; exact hk.1)
  · exact R_apart2 hu h.la.ta.r (by decide) k hk.1.symm e
  · exact R_apart2 hu h.la.r (by decide) k hk.1.symm e
end

/-- Records, one behind the other. -/
def flatR (o : List (List Int)) : List Int := (o.map recL).flatten
theorem flatR_app (o : List (List Int)) (b : List Int) : flatR (o ++ [b]) = flatR o ++ recL b := by unfold flatR; simp
theorem flatR_cons (x : List Int) (o : List (List Int)) : flatR (x :: o) = recL x ++ flatR o := by unfold flatR; simp
theorem txt_at (p x q : List Int) (h2 : x.length ≤ 16384) : txt (p ++ (recL x ++ q)) p.length = x := by
  have hd : (p ++ (recL x ++ q)).drop p.length = recL x ++ q := List.drop_left
  have hr : recL x ++ q = be 2 x.length ++ (x ++ (be 4 (sumN (be 2 x.length ++ x)) ++ q)) := by unfold recL sealL; simp only [List.append_assoc]
  have h2l : (be 2 (x.length : Int)).length = 2 := be_length _ _
  have ht : ((p ++ (recL x ++ q)).drop p.length).take 2 = be 2 x.length := by rw [hd, hr]; exact List.take_left' h2l
  have hn : textN (p ++ (recL x ++ q)) p.length = x.length := by
    unfold textN
    rw [ht]
    have := be_fold 2 0 (x.length : Int) (by omega) (by omega)
    unfold vb
    rw [this]
    omega
  have hlen : (p ++ (recL x ++ q)).length = p.length + (x.length + 6 + q.length) := by rw [List.length_append, List.length_append, recL_length]
  have hd2 : (p ++ (recL x ++ q)).drop (p.length + 2) = x ++ (be 4 (sumN (be 2 x.length ++ x)) ++ q) := by
    rw [← List.drop_drop, hd, hr]; exact List.drop_left' h2l
  unfold txt textS
  rw [if_pos rfl, hn, hd2, if_pos ⟨by omega, by omega, by omega⟩]
  exact List.take_left
theorem RS_flat (o : List (List Int)) : ∀ p : List Int, okL o → RS (p ++ flatR o) p.length = (o, (p ++ flatR o).length) := by
  induction o with
  | nil =>
    intro p _
    have hn : ¬ good (p ++ flatR []) p.length := fun h => by
      have := g_le h
      rw [show flatR [] = [] from rfl, List.append_nil] at this
      omega
    rw [RS_no hn, show flatR [] = [] from rfl, List.append_nil]
  | cons x o ih =>
    intro p hok
    obtain ⟨h1, h2, h3⟩ := hok x (List.mem_cons_self)
    have ht : txt (p ++ flatR (x :: o)) p.length = x := by rw [flatR_cons]; exact txt_at p x _ h2
    have hl : (p ++ flatR (x :: o)).length = p.length + (x.length + 6) + (flatR o).length := by rw [flatR_cons, List.length_append, List.length_append, recL_length]; omega
    have hcut : cutL (p ++ flatR (x :: o)) p.length (p.length + 6 + x.length) = recL x := by
      unfold cutL
      rw [flatR_cons, show p.length + 6 + x.length = p.length + (x.length + 6) by omega, List.take_length_add_append, List.drop_left, ← recL_length, List.take_left]
    have hg : good (p ++ flatR (x :: o)) p.length := ⟨by rw [ht]; exact h1, by rw [ht, hl]; omega, by rw [ht]; exact hcut⟩
    have hn : nxt (p ++ flatR (x :: o)) p.length = (p ++ recL x).length := by unfold nxt; rw [ht, List.length_append, recL_length]; omega
    have := ih (p ++ recL x) (fun y hy => hok y (List.mem_cons_of_mem _ hy))
    rw [List.append_assoc, ← flatR_cons] at this
    rw [RS_yes hg, hn, this, ht]

end Go.Proofs.Ythlcognpfangkaa
