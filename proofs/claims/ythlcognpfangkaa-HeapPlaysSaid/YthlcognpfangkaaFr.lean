/- What a call keeps: a frame relation over worlds, and small lemmas for walks (no condition). -/
import Derived.Test.YthlcognpfangkaaPWordPutsx1
import Derived.Lib.Bytes
import Derived.OpenShut
namespace Go.Proofs.Ythlcognpfangkaa
open Go.RowKit Go.Proofs.YthlcognpfangkaaW.PrintWords Go.Proofs.YthlcognpfangkaaW.PrintLast Go.Proofs.YthlcognpfangkaaW.PrintMore

/-- W is w with new blocks, and with writes to blocks of S alone. -/
structure Fr (S : Nat → Prop) (w W : World) : Prop where
  os : W.os = w.os
  tape : W.tape = w.tape
  output : W.output = w.output
  size : w.heap.size ≤ W.heap.size
  block : ∀ k, k < w.heap.size → ¬ S k → W.heap[k]? = w.heap[k]?

def No : Nat → Prop := fun _ => False
def At (g : Nat) : Nat → Prop := fun k => k = g

section
variable {S S2 : Nat → Prop} {w W W2 : World}
theorem Fr.refl (S : Nat → Prop) (w : World) : Fr S w w := ⟨rfl, rfl, rfl, Nat.le_refl _, fun _ _ _ => rfl⟩
theorem Fr.trans (h : Fr S w W) (k : Fr S2 W W2) (hs : ∀ k, S2 k → S k ∨ w.heap.size ≤ k) : Fr S w W2 :=
  ⟨k.os.trans h.os, k.tape.trans h.tape, k.output.trans h.output, Nat.le_trans h.size k.size, fun i hi hn =>
    (k.block i (Nat.lt_of_lt_of_le hi h.size) (fun h2 => (hs i h2).elim hn (fun h3 => by omega))).trans (h.block i hi hn)⟩
theorem Fr.mono (h : Fr S w W) (hs : ∀ k, S k → S2 k) : Fr S2 w W := ⟨h.os, h.tape, h.output, h.size, fun i hi hn => h.block i hi (fun hk => hn (hs i hk))⟩
theorem Fr.of_below (h : Below w.heap.size w W) (S : Nat → Prop) : Fr S w W := ⟨h.os, h.tape, h.output, h.size, fun i hi _ => h.block i hi⟩
theorem Fr.then_below (h : Fr S w W) (k : Below W.heap.size W W2) : Fr S w W2 := h.trans (Fr.of_below k No) (fun _ hk => hk.elim)
theorem Fr.drawn (h : Fr S w W) (k : Drawn0 W W2) : Fr S w W2 := h.then_below k.below
theorem Fr.below {B : Nat} (h : Fr S w W) (hS : ∀ k, S k → B ≤ k) (hB : B ≤ w.heap.size) : Below B w W :=
  ⟨h.os, h.tape, h.output, h.size, fun k hk => h.block k (by omega) (fun hs => by have := hS k hs; omega)⟩
theorem Fr.no (h : Fr No w W) : Below w.heap.size w W := h.below (fun _ hk => hk.elim) (Nat.le_refl _)
/-- From an elder world on. -/
theorem Fr.belowOf {B : Nat} {w0 : World} (h : Fr S w W) (hb : Below B w0 w) (hS : ∀ k, S k → B ≤ k) (hB : B ≤ w.heap.size) : Below B w0 W := hb.trans (h.below hS hB)
theorem Fr.alloc (h : Fr S w W) (o : Obj) : Fr S w (W.alloc o) := h.then_below (below_alloc (Below.refl _ _) o)
theorem Fr.drew (h : Fr S w W) : Fr S w W.drew := ⟨h.os, h.tape, h.output, h.size, h.block⟩
theorem Fr.drewN (h : Fr S w W) (n : Nat) : Fr S w (W.drewN n) := ⟨h.os, h.tape, h.output, h.size, h.block⟩
theorem Fr.setCell (h : Fr S w W) {p : Addr} (hp : S p.block ∨ w.heap.size ≤ p.block) (u : Value) : Fr S w (W.setCell p u) :=
  h.trans (S2 := fun k => k = p.block) ⟨rfl, rfl, rfl, by simp [World.setCell], fun i _ hn => Below.heap_setCell W p u i hn⟩ (fun k hk => by rw [hk]; exact hp)
theorem Fr.setAt {g : Nat} (h : Fr (At g) w W) (j : Nat) (u : Value) : Fr (At g) w (W.setCell ⟨g, j, none⟩ u) := h.setCell (p := ⟨g, j, none⟩) (Or.inl (show At g g from rfl)) u
theorem Fr.setNew {g : Nat} (h : Fr S w W) (hg : w.heap.size ≤ g) (j : Nat) (u : Value) : Fr S w (W.setCell ⟨g, j, none⟩ u) := h.setCell (p := ⟨g, j, none⟩) (Or.inr hg) u
theorem Fr.grown {row : Option Nat} (h : Fr S w W) (hg : W.grownBy W2 row) (hr : ∀ k, row = some k → S k ∨ w.heap.size ≤ k) : Fr S w W2 :=
  h.trans (S2 := fun k => row = some k) ⟨hg.os, hg.tape, hg.output, hg.size, fun i hi hn => hg.block i hi (fun he => hn he.symm)⟩ hr
theorem Fr.blk {g : Nat} {o : Obj} (h : Fr S w W) (hb : w.heap[g]? = some o) (hn : ¬ S g) : W.heap[g]? = some o := (h.block g (blk_lt hb) hn).trans hb
theorem Fr.R {α : Type} {d : Kd α} {e base : Nat} {ok : Nat → Prop} {v : Value} {xs : List α} (h : Fr S w W) (hr : d.R e w base ok v xs) (hok : ∀ k, ok k → ¬ S k) : d.R e W base ok v xs :=
  Kd.R_step hr (fun k ho hk => h.block k hk (hok k ho))
/-- What was made from base on, where what is written lies below base. -/
theorem Fr.Rlow {α : Type} {d : Kd α} {e base : Nat} {ok : Nat → Prop} {v : Value} {xs : List α} (h : Fr S w W) (hr : d.R e w base ok v xs) (hS : ∀ k, S k → k < base) : d.R e W base ok v xs :=
  Kd.R_mono (h.R (Kd.R_bound hr) (fun k hk hs => by have := hS k hs; have := hk.2.1; omega)) (fun _ hk => hk.1)
/-- Bytes of the call's own, beside a block of another type that is written. -/
theorem Fr.Rtyp {e base g t : Nat} {ok : Nat → Prop} {v : Value} {xs : List Int} {k : IntKind} {cells : Array Value} (h : Fr (At g) w W) (hr : (Kd.int k).R e w base ok v xs) (hb : w.heap[g]? = some (.cells cells t (0, 0))) (ht : e ≠ t) : (Kd.int k).R e W base ok v xs :=
  Kd.R_mono (h.R (Kd.R_types hr hb (fun q hq => by simp [Kd.int, Kd.scalar] at hq; rw [hq]; exact ht)) (fun _ hk => hk.2)) (fun _ hk => hk.1)
theorem Fr.new (hg : W.grownBy W2 none) : Fr No W W2 := (Fr.refl No W).grown hg (fun k hk => by cases hk)
theorem Fr.own {v : Value} {B : Nat} {α : Type} {d : Kd α} {e : Nat} {ok : Nat → Prop} {xs : List α} (h : Fr S w W) (hr : d.R e W B ok v xs) (hB : w.heap.size ≤ B) (hg : W.grownBy W2 v.ownBlock) : Fr S w W2 :=
  h.grown hg (fun k hk => by
    obtain ⟨inner, ho⟩ := Kd.R_own hr
    exact .inr (Nat.le_trans hB (own_base ho k hk)))
end

/-- Bytes that are read: the block that they lie in is not written. -/
theorem C_fr {k : IntKind} {w W : World} {A : Option Addr} {n : Nat} {l : List Int} (h : Kd.C (Kd.int k) w A n l) (hf : ∀ b, b < w.heap.size → (∃ ad, A = some ad ∧ ad.block = b) → W.heap[b]? = w.heap[b]?) : Kd.C (Kd.int k) W A n l := by
  refine ⟨h.1, h.2.1, fun hn => ?_⟩
  obtain ⟨ad, e, hc⟩ := h.2.2 hn
  refine ⟨ad, e, fun j p hj => ?_⟩
  obtain ⟨c, hs, hr, hcell⟩ := hc j p hj
  refine ⟨c, hs, hr, fun i u hu => ?_⟩
  have hx := hcell i u hu
  have hb : (ad.add (j * (Kd.int k).sz + i)).block = ad.block := by unfold Addr.add; split <;> rfl
  have hlt := World.block_lt_of_cell? w _ hx
  rw [hb] at hlt
  have := hf ad.block hlt ⟨ad, e, rfl⟩
  rw [World.cell?_of_block (w := w) (w' := W) (by rw [hb]; exact this)]
  exact hx

section
variable {ops : Array Oper} {rest : List Oper} {o : Oper} {a : Act} {Q : Exit → Act → World → Prop}
/-- '[]byte{}': a new row of no bytes. -/
theorem lit_bytes {W : World} (base : Nat) (hgd : o.guard = none) (N : Tmp) (hd : o.dst = some N) (ok : Nat → Prop)
    (hrun : (execOp a.eval o).run Try.prog W = .ok (.value (.slice (some ⟨W.heap.size, 0, none⟩) 0 0)) (W.alloc (.cells #[] 5)))
    (hfresh : ok W.heap.size) (hbase : base ≤ W.heap.size)
    (h : ∀ v1 w1, Kd.R (Kd.int .u8) 5 w1 base ok v1 [] → W.grownBy w1 none → (∃ b, v1.ownBlock = some b ∧ W.heap.size ≤ b) → wpList Try.prog ops Q rest (a.put o.dst v1) w1) : wpList Try.prog ops Q (o :: rest) a W :=
  Kd.R_lit (Kd.int .u8) (w0 := W) base 5 hgd (N := N) hd (xs := ([] : List Int)) (inner := []) (ok := ok) (okp := ok) hrun (Reps.none _ _) (fun _ hk => hk) hfresh (Below.refl _ _) hbase (by simp) (fun v1 w1 h1 _ h2 h3 => h v1 w1 h1 h2 h3)
/-- Bytes that are read, appended to a row of bytes of the call's own. -/
theorem app_bytes {W : World} (base : Nat) (hgd : o.guard = none) (s x : Tmp) (ho : o.op = .call { callee := .builtin .append, args := #[.tmp s, .tmp x], argTypes := #[47, 47] })
    (v : Value) (xs ys : List Int) (A : Option Addr) (m c : Nat) (ok : Nat → Prop) (hs : a.eval (.tmp s) = v) (hx : a.eval (.tmp x) = .slice A m c)
    (HO : Kd.R (Kd.int .u8) 5 W base ok v xs) (HR : Kd.C (Kd.int .u8) W A m ys) (hfresh : ∀ k, W.heap.size ≤ k → ok k) (hbase : base ≤ W.heap.size) (hl : xs.length + m ≤ 140737488355328)
    (h : ∀ v1 w1, Kd.R (Kd.int .u8) 5 w1 base ok v1 (xs ++ ys) → W.grownBy w1 v.ownBlock → (v1.ownBlock = v.ownBlock ∨ ∃ b, v1.ownBlock = some b ∧ W.heap.size ≤ b) → wpList Try.prog ops Q rest (a.put o.dst v1) w1) : wpList Try.prog ops Q (o :: rest) a W :=
  Kd.R_append_rows (Kd.int .u8) (w0 := W) base hgd (.tmp s) (.tmp x) 47 5 (.int .u8 0) 1 ho Try.underlying47 PWordPuts.info5 rfl (by decide) (by omega) v xs ys A m c ok (fun _ => False) hs hx HO HR (fun _ _ h => h) (fun _ h => h.elim) hfresh (Below.refl _ _) hbase (by omega) (fun v1 w1 h1 _ h2 h3 => h v1 w1 h1 h2 h3)
end

/-- What a walk is told of a slice of integers that came in. -/
def IsRow (k : IntKind) (w : World) (a : Option Addr) (len cap : Nat) (zs : List Int) : Prop :=
  (a = none ∧ len = 0 ∧ cap = 0 ∧ zs = []) ∨
  ∃ x, a = some x ∧ len ≤ cap ∧ cap ≤ maxLen ∧ zs.length = cap ∧ (∀ i, i < zs.length → w.cell? (x.add i) = some (.int k (zs.getD i 0))) ∧ ∀ n ∈ zs, (Lit.int k n).wf = true
theorem IsRow.reads {k : IntKind} {w : World} {a : Option Addr} {len cap : Nat} {zs : List Int} (h : IsRow k w a len cap zs) :
    ∃ l : List Int, len = l.length ∧ Kd.C (Kd.int k) w a l.length l ∧ l.length ≤ cap ∧ ∀ n ∈ l, (Lit.int k n).wf = true := by
  obtain ⟨l, h1, hr, hm, hw, hc⟩ := ReadsInt.ofRowC h
  exact ⟨l, h1, Kd.C_of_reads (d := (0 : Int)) (h1 := fun _ => rfl) hr, hc, hw⟩

end Go.Proofs.Ythlcognpfangkaa
