/- The deeds of layer 9's law; the steps that copy rows of Items (the deeds readable, each integer in its range). -/
import Derived.Test.YthlcognpfangkaaId
import Derived.Test.YthlcognpfangkaaHx
import Derived.ChangeSame
namespace Go.Proofs.Ythlcognpfangkaa
open Go.RowKit Go.Proofs.YthlcognpfangkaaW.PrintWords Go.Proofs.YthlcognpfangkaaW.PrintLast Go.Proofs.YthlcognpfangkaaW.PrintMore
set_option linter.unusedVariables false
set_option linter.unusedSimpArgs false

/-- What the walk is told of the deeds. -/
def DeedRowI (w : World) (A : Option Addr) (n : Nat) (Wh K : Nat → Int) (N : Nat → ByteArray) : Prop :=
  ∀ k, k < n → (∃ ad, A = some ad ∧ w.cell? (ad.add (k * 3)) = some (.int .i64 (Wh k)) ∧ w.cell? (ad.add (k * 3 + 1)) = some (.int .i64 (K k)) ∧ w.cell? (ad.add (k * 3 + 2)) = some (.string (N k))) ∧ (-9223372036854775808 ≤ Wh k ∧ Wh k ≤ 9223372036854775807)
theorem one_string {H : Type} {enc : TypeId × Value → H} {P : Program} {w : World} {base : Nat} {spare : Nat → Bool} {held : Bool} {t : TypeId} {fuel : Nat} {l : List Value} {y : DataW H × List MemPlace} (ht : P.underlying t = some .string) (h : DataW.trod enc P w base spare held fuel t l = some y) :
    ∃ s, l[0]? = some (.string s) := by
  obtain ⟨s, rfl, _⟩ := DataW.trod_string ht h
  exact ⟨s, rfl⟩
theorem deedI_open {H : Type} {enc : TypeId × Value → H} {w : World} {base : Nat} {held : Bool} {a : Option Addr} {len cap : Nat} {d : DataW H} {pl : List MemPlace} (h : DataW.Trod enc Try.prog w base (fun _ => true) held 22 (.slice a len cap) d pl) :
    ∃ (Wh K : Nat → Int) (N : Nat → ByteArray), DeedRowI w a len Wh K N ∧ len ≤ 9223372036854775807 := by
  obtain ⟨fuel, hf⟩ := h
  rcases open_rows Try.underlying22 Try.underlying33 3 (by kernel_rfl) hf with hcs | ⟨x, l, c, hcs, hl, hm, hi⟩
  · simp [Value.cells] at hcs
    obtain ⟨rfl, rfl, rfl⟩ := hcs
    exact ⟨fun _ => 0, fun _ => 0, fun _ => ByteArray.empty, fun k hk => absurd hk (by omega), by omega⟩
  · simp [Value.cells] at hcs
    obtain ⟨rfl, rfl, rfl⟩ := hcs
    unfold maxLen at hm
    have c3 : 0 < Try.prog.cellsOf 3 := by
      have h : Try.prog.cellsOf 3 = 1 := by kernel_rfl
      omega
    have c9 : 0 < Try.prog.cellsOf 9 := by
      have h : Try.prog.cellsOf 9 = 1 := by kernel_rfl
      omega
    have c27 : Try.prog.cellsOf 27 = 2 := by kernel_rfl
    obtain ⟨T, hT⟩ := pick_each (α := Int) (n := len) (p := fun k v => w.cell? (x.add (k * 3)) = some (.int .i64 v) ∧ (Lit.int .i64 v).wf = true) (fun k hk => by
      obtain ⟨q, y, n, h1, h2⟩ := hi k hk 0 _ rfl
      obtain ⟨v, hv, hw⟩ := one_int Try.underlying3 h2
      exact ⟨v, (h1 0 c3 (by decide)).trans hv, hw⟩)
    obtain ⟨N, hN⟩ := pick_each (α := Int) (n := len) (p := fun k v => w.cell? (x.add (k * 3 + 1)) = some (.int .i64 v)) (fun k hk => by
      obtain ⟨q, y, n, h1, h2⟩ := hi k hk 1 _ rfl
      obtain ⟨y0, y1, n2, _, _, g0, g1⟩ := Go.ChangeShapes.trod_struct2 Try.underlying27 h2
      obtain ⟨v, hv, hw⟩ := one_int Try.underlying3 g0
      rw [List.getElem?_take_of_lt c3, List.getElem?_drop] at hv
      exact ⟨v, (h1 0 (show 0 < Try.prog.cellsOf 27 by omega) (by decide)).trans hv⟩)
    obtain ⟨X, hX⟩ := pick_each (α := ByteArray) (n := len) (p := fun k v => w.cell? (x.add (k * 3 + 2)) = some (.string v)) (fun k hk => by
      obtain ⟨q, y, n, h1, h2⟩ := hi k hk 1 _ rfl
      obtain ⟨y0, y1, n2, _, _, g0, g1⟩ := Go.ChangeShapes.trod_struct2 Try.underlying27 h2
      obtain ⟨v, hv⟩ := one_string Try.underlying9 g1
      rw [List.getElem?_take_of_lt c9, List.getElem?_drop] at hv
      exact ⟨v, (h1 1 (show 1 < Try.prog.cellsOf 27 by omega) (by decide)).trans hv⟩)
    exact ⟨T, N, X, fun k hk => ⟨⟨x, rfl, (hT k hk).1, hN k hk, hX k hk⟩, bounds_i64 (hT k hk).2⟩, by omega⟩

theorem info27 : (Try.prog.info? 27).map (fun i => (i.zero, i.size, i.bytes)) = some (some (.agg #[.int .i64 0, .string ByteArray.empty]), 2, 24) := by kernel_rfl
section
variable {ops : Array Oper} {o : Oper} {a : Act} {Kc : Act → World → Prop} {Q : Exit → Act → World → Prop}
/-- '[]Item{}' as one step of a region that draws. -/
theorem lit_ei_step {W : World} (base : Nat) (hw : Region.wanted o (yielded ops a.tmps) = true) (N : Tmp) (hd : o.dst = some N)
    (hrun : (execOp a.eval o).run Try.prog W = .ok (.value (.slice (some ⟨W.heap.size, 0, none⟩) 0 0)) (W.alloc (.cells #[] 27)))
    (hbase : base ≤ W.heap.size)
    (h : ∀ v1 w1, Kd.R EI 27 w1 base (fun _ => True) v1 [] → W.grownBy w1 none → (∃ b, v1.ownBlock = some b ∧ W.heap.size ≤ b) → Kc (a.put o.dst v1) w1) : if Region.wanted o (yielded ops a.tmps) = true then Oper.wp Try.prog o a W Kc Q else Kc (a.put o.dst undef) W :=
  Kd.R_lit_step EI (w0 := W) base 27 hw (N := N) hd (xs := ([] : List (Int × ByteArray))) (inner := []) (ok := fun _ => True) (okp := fun _ => True) hrun (Reps.none _ _) (fun _ hk => hk) trivial (Below.refl _ _) hbase (by simp) (fun v1 w1 h1 _ h2 h3 => h v1 w1 h1 h2 h3)
/-- An append of Items that are read, as one step of a region that draws. -/
theorem app_ei_step {W : World} (base : Nat) (hw : Region.wanted o (yielded ops a.tmps) = true) (s x : Tmp) (ho : o.op = .call { callee := .builtin .append, args := #[.tmp s, .tmp x], argTypes := #[29, 29] })
    (v : Value) (xs ys : List (Int × ByteArray)) (A : Option Addr) (m c : Nat) (hs : a.eval (.tmp s) = v) (hx : a.eval (.tmp x) = .slice A m c)
    (HO : Kd.R EI 27 W base (fun _ => True) v xs) (HR : Kd.C EI W A m ys) (hbase : base ≤ W.heap.size) (hl : (xs.length + m) * 24 ≤ 140737488355328)
    (h : ∀ v1 w1, Kd.R EI 27 w1 base (fun _ => True) v1 (xs ++ ys) → W.grownBy w1 v.ownBlock → Kc (a.put o.dst v1) w1) : if Region.wanted o (yielded ops a.tmps) = true then Oper.wp Try.prog o a W Kc Q else Kc (a.put o.dst undef) W :=
  Kd.R_append_rows_step EI (w0 := W) base hw (.tmp s) (.tmp x) 29 27 (.agg #[.int .i64 0, .string ByteArray.empty]) 24 ho Try.underlying29 info27 rfl (by decide) (by omega) v xs ys A m c (fun _ => True) (fun _ => False) hs hx HO HR (fun _ _ h => h) (fun _ h => h.elim) (fun _ _ => trivial) (Below.refl _ _) hbase hl (fun v1 w1 h1 _ h2 _ => h v1 w1 h1 h2)
end
/-- One Item's block, read as a row. -/
theorem XI.row {w : World} {g : Nat} {k : Int} {s : ByteArray} (h : XI w g k s) : Kd.C EI w (some ⟨g, 0, none⟩) 1 [(k, s)] := by
  refine ⟨rfl, by omega, fun _ => ⟨⟨g, 0, none⟩, rfl, fun j p hj => ?_⟩⟩
  have hj0 : j = 0 := by
    have := (List.getElem?_eq_some_iff.1 hj).1
    simp at this
    exact this
  subst hj0
  obtain rfl : (k, s) = p := by simpa using hj
  refine ⟨[.int .i64 k, .string s], rfl, ⟨[.int .i64 k], [.string s], rfl, rfl, rfl⟩, fun i u hi => ?_⟩
  match i, hi with
  | 0, hi => obtain rfl : Value.int .i64 k = u := by simpa using hi
             exact h.cells.1
  | 1, hi => obtain rfl : Value.string s = u := by simpa using hi
             exact h.cells.2
theorem XI.new (W : World) (k : Int) (s : ByteArray) : XI (W.alloc (.cells #[.int .i64 k, .string s] 27)) W.heap.size k s := blk_new W _
theorem FirstAt.none {L : List (Int × ByteArray)} {b : Int} (h : FirstAt L L.length b) (hl : L.length = 0) : b = -1 := by
  rcases h with ⟨_, h⟩ | ⟨j, rfl, hj, _⟩
  · exact h
  · omega
theorem FirstAt.some {L : List (Int × ByteArray)} {b : Int} (h : FirstAt L L.length b) (hl : 0 < L.length) : ∃ j : Nat, b = (j : Int) ∧ j < L.length ∧ FirstAt L L.length (j : Int) := by
  rcases h with ⟨h, _⟩ | ⟨j, rfl, hj, h1, h2⟩
  · omega
  · exact ⟨j, rfl, hj, .inr ⟨j, rfl, hj, h1, h2⟩⟩

end Go.Proofs.Ythlcognpfangkaa
