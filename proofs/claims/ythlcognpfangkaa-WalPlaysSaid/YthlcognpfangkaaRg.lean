/- The walks of the document's Log (no condition but its state). -/
import Derived.Test.YthlcognpfangkaaLwKeeps
namespace Go.Proofs.Ythlcognpfangkaa
open Go.RowKit Go.Proofs.YthlcognpfangkaaW.PrintWords Go.Proofs.YthlcognpfangkaaW.PrintLast Go.Proofs.YthlcognpfangkaaW.PrintMore
set_option linter.unusedVariables false
set_option linter.unusedSimpArgs false

/-- The block of the document's log. -/
def Rlb (w : World) (gl g : Nat) (v : Value) : Prop := w.heap[gl]? = some (.cells #[.pointer (some ⟨g, 0, none⟩), v] 116 (0, 0))
theorem Rlb.cells {w : World} {gl g : Nat} {v : Value} (h : Rlb w gl g v) : w.cell? ⟨gl, 0, none⟩ = some (.pointer (some ⟨g, 0, none⟩)) ∧ w.cell? ⟨gl, 1, none⟩ = some v := ⟨(blk_cell h 0).trans rfl, (blk_cell h 1).trans rfl⟩
theorem Rlb.free {w : World} {gl g : Nat} {v : Value} (h : Rlb w gl g v) : w.frozen? ⟨gl, 1, none⟩ = false := blk_frozen h 1
theorem Rlb.set1 {w : World} {gl g : Nat} {v : Value} (h : Rlb w gl g v) (x : Value) : Rlb (w.setCell ⟨gl, 1, none⟩ x) gl g x := blk_set h 1 _
/-- The blocks that it writes. -/
def R2 (gl g : Nat) : Nat → Prop := fun k => k = gl ∨ k = g
/-- The document's log, its tape up and synced. -/
structure RG (w0 w : World) (gl g : Nat) (l : List Int) (room left : Int) (v : Value) (o : List (List Int)) : Prop where
  rb : Rlb w gl g v
  rt : RL w g room l.length left l false
  ge : w0.heap.size ≤ gl
  ge2 : w0.heap.size ≤ g
  r : Kd.string.R 9 w w0.heap.size (fun _ => True) v (o.map strOfNums)
  fr : Fr No w0 w
section
variable {w0 w : World} {gl g : Nat} {l : List Int} {room left : Int} {v : Value} {o : List (List Int)}
theorem RG.no (h : RG w0 w gl g l room left v o) {W : World} (hf : Fr No w W) : RG w0 W gl g l room left v o := ⟨hf.blk h.rb (fun h => h.elim), hf.blk h.rt (fun h => h.elim), h.ge, h.ge2, hf.Rlow h.r (fun _ h => h.elim), h.fr.on hf⟩
theorem RG.frW (h : RG w0 w gl g l room left v o) {W : World} (hf : Fr (R2 gl g) w W) : Fr No w0 W := h.fr.trans hf (fun k hk => hk.elim (fun e => .inr (by rw [e]; exact h.ge)) (fun e => .inr (by rw [e]; exact h.ge2)))
/-- Its tape alone was written. -/
theorem RG.tape (h : RG w0 w gl g l room left v o) {W : World} {l' : List Int} {left' : Int} {s : Nat} (ht : RL W g room s left' l' false) (hs : s = l'.length) (hf : Fr (At g) w W) : RG w0 W gl g l' room left' v o :=
  ⟨hf.blk h.rb (fun (e : gl = g) => blk_ne h.rb h.rt (by decide) e), by rw [← hs]; exact ht, h.ge, h.ge2, Kd.R_mono (hf.R (Kd.R_tight2 rfl h.r) (fun k hk (e : k = g) => Kd.R_ne h.r h.rt (by decide) (by rw [← e]; exact hk.1))) (fun _ _ => trivial), h.frW (hf.mono (fun k hk => .inr hk))⟩
end

theorem size_take (o : List (List Int)) (k : Nat) (h : k < o.length) : sizeL (o.take (k + 1)) = sizeL (o.take k) + 6 + (o[k]).length := by
  rw [List.take_add_one, List.getElem?_eq_getElem h, Option.toList_some, sizeL_app]; omega
theorem size_mono (o : List (List Int)) (k : Nat) : sizeL (o.take k) ≤ sizeL o := by
  induction o generalizing k with
  | nil => simp
  | cons x o ih => cases k with
    | zero => simp [sizeL]
    | succ k => rw [List.take_succ_cons, sizeL_cons, sizeL_cons]; have := ih k; omega

set_option maxRecDepth 100000 in
theorem rsize_calls (w : World) (gl g : Nat) (A : Option Addr) (c : Nat) (o : List (List Int)) (hb : Rlb w gl g (.slice A o.length c)) (hr : Kd.string.C w A o.length (o.map strOfNums)) (hz : sizeL o ≤ 1048576) :
    Calls Try.prog 96 #[.pointer (some ⟨gl, 0, none⟩)] w fun e w' => e = .returned (.int .i64 (sizeL o)) ∧ w = w' := by
  obtain ⟨q0, q1⟩ := hb.cells
  have HR := Aside0.mk hr
  have HZ := Aside0.mk hz
  have hl6 := sizeL_len o
  have hl : o.length ≤ 1048576 := by omega
  clear hb hr hz q0 hl6
  go_enter Try.func96, Try.ntmps96
  go_wp2_with (fail)
  go_loop [3, 4] (fun v3 v4 => ∃ k : Nat, k ≤ o.length ∧ v4 = .int .i64 k ∧ v3 = .int .i64 (sizeL (o.take k))) (fun _ v4 => o.length - (intOf v4).toNat)
  case atStart => exact ⟨0, by omega, rfl, rfl⟩
  case round =>
    obtain ⟨k, hk, rfl, rfl⟩ := hrel
    by_cases hlt : k < o.length
    · have hs2 := HR.out
      rw [← List.length_map (f := strOfNums)] at hs2
      obtain ⟨ad, rfl, p0⟩ := KS_get hs2 k (by rw [List.length_map]; exact hlt)
      rw [List.getElem_map] at p0
      have htk := size_take o k hlt
      have hm1 := size_mono o (k + 1)
      have hm2 := HZ.out
      have hsz : (strOfNums (o[k])).size = (o[k]).length := strOfNums_size _
      generalize strOfNums (o[k]) = sx at p0 hsz
      generalize (o[k]).length = n1 at htk hsz
      generalize hz1 : sizeL (o.take (k + 1)) = z1 at htk hm1
      have HZ1 := Aside0.mk hz1
      generalize sizeL (o.take k) = z0 at htk ⊢
      generalize sizeL o = z at hm1 hm2 ⊢
      have hw1 : IntKind.i64.wrap ((z0 : Int) + 6) = z0 + 6 := IntWalk.i64_in _ (by omega)
      have hw2 : IntKind.i64.wrap ((z0 : Int) + 6 + sx.size) = z1 := by rw [IntWalk.i64_in _ (by omega)]; omega
      have hix : (0 : Int) ≤ k := by omega
      have hix2 : (k : Int) < o.length := by omega
      have hb : decide ((k : Int) < o.length) = true := decide_eq_true hix2
      have HTK := Aside0.mk htk
      clear hs2 htk hm1 hm2 hsz hz1
      go_wp2
      go_round
      case rel => exact ⟨k + 1, by omega, by go_num, by rw [HZ1.out]⟩
      case measure => simp [intOf]; omega
    · have hb : decide ((k : Int) < o.length) = false := decide_eq_false (by omega)
      have hb2 : decide (k < o.length) = false := decide_eq_false hlt
      have hz : sizeL (o.take k) = sizeL o := by rw [List.take_of_length_le (by omega)]
      go_wp2
      go_ret
      exact ⟨rfl, rfl⟩

set_option maxRecDepth 100000 in
theorem ropen_calls {w0 w : World} {gl g s : Nat} {l : List Int} {room left : Int} {v : Value} {down : Bool} (hb : Rlb w gl g v) (ht : RL w g room s left l down) (hge : w0.heap.size ≤ gl) (hge2 : w0.heap.size ≤ g) (hfr : Fr No w0 w) (hl : isBytes l) (hn : l.length ≤ 1048576) :
    Calls Try.prog 75 #[.pointer (some ⟨gl, 0, none⟩)] w fun e w' => e = .returned (.tuple #[]) ∧ ∃ v', RG w0 w' gl g (l.take (RS l 0).2) room left v' (RS l 0).1 ∧ Fr (R2 gl g) w w' := by
  have HB := Aside0.mk hb
  have HT := Aside0.mk ht
  have HL := Aside0.mk hl
  have HE := Aside0.mk (RS_end l)
  have HFR := Aside0.mk hfr
  obtain ⟨z0, z1⟩ := hb.cells
  obtain ⟨q0, q1, q2, q3, q4⟩ := ht.cells
  obtain ⟨f0, f1, f2, f3, f4⟩ := ht.free
  have hgg := blk_ne hb ht (by decide)
  have T1 := Aside0.mk (show RL (w.setCell ⟨g, 4, none⟩ (.bool false)) g room s left l false from ht.set4 false)
  have B1 := Aside0.mk (show Rlb (w.setCell ⟨g, 4, none⟩ (.bool false)) gl g v from ((Fr.refl (At g) w).setAt 4 (.bool false)).blk hb (fun (e : gl = g) => hgg e))
  have F1 := Aside0.mk (((Fr.refl (At g) w).setAt 4 (.bool false)).mono (S2 := R2 gl g) (fun k hk => .inr hk))
  clear hb ht hl hfr z1 q0 q1 q2 f0 f1 f2 f3 hgg
  go_enter Try.func75, Try.ntmps75
  go_wp2_with (fail)
  generalize w.setCell ⟨g, 4, none⟩ (.bool false) = w1 at T1 B1 F1 ⊢
  clear z0 q3 q4 f4
  refine (rrecords_calls w1 l HL.out hn).mono ?_
  rintro e w2 ⟨v2, rfl, hr2, hf⟩
  obtain ⟨A2, c2, e2⟩ := Kd.R_slice hr2
  rw [List.length_map] at e2
  subst e2
  generalize hn2 : (RS l 0).1.length = n2 at hr2 ⊢
  clear hn2
  have B2 := Aside0.mk (show Rlb w2 gl g v from hf.blk B1.out (fun h => h.elim))
  have T2 := Aside0.mk (show RL w2 g room s left l false from hf.blk T1.out (fun h => h.elim))
  have F2 := Aside0.mk (F1.out.trans hf (fun _ h => h.elim))
  have R2_ := Aside0.mk (Kd.R_lower hr2 (Nat.le_trans HFR.out.size F1.out.size))
  clear hr2 hf B1 T1
  obtain ⟨z0, z1⟩ := B2.out.cells
  have zf := B2.out.free
  have B3 := Aside0.mk (show Rlb (w2.setCell ⟨gl, 1, none⟩ (.slice A2 n2 c2)) gl g (.slice A2 n2 c2) from B2.out.set1 _)
  have hfS := (Fr.refl (At gl) w2).setAt 1 (.slice A2 n2 c2)
  have T3 := Aside0.mk (show RL (w2.setCell ⟨gl, 1, none⟩ (.slice A2 n2 c2)) g room s left l false from hfS.blk T2.out (fun (e : g = gl) => blk_ne T2.out B2.out (by decide) e))
  have F3 := Aside0.mk (F2.out.trans hfS (fun k hk => .inl (.inl hk)))
  have R3 := Aside0.mk (Kd.R_set R2_.out B2.out (by intro q hq; simp [Kd.string, Kd.scalar] at hq; omega) 1 (.slice A2 n2 c2))
  clear hfS
  go_wp2_with (fail)
  generalize w2.setCell ⟨gl, 1, none⟩ (.slice A2 n2 c2) = w3 at B3 T3 F3 R3 ⊢
  clear z0 z1 zf B2 T2 F2 R2_
  refine (RL.cut_any T3.out ((RS l 0).2 : Nat)).mono ?_
  have hcc : cutC false ((RS l 0).2 : Nat) l.length = 0 := by unfold cutC; rw [if_neg (by decide), if_neg (by have := HE.out; omega)]
  have hct : cutT false ((RS l 0).2 : Nat) l = l.take (RS l 0).2 := by unfold cutT; rw [if_pos hcc, Int.toNat_natCast]
  have hcs : cutS false ((RS l 0).2 : Nat) l.length s = (RS l 0).2 := by unfold cutS; rw [if_pos hcc, Int.toNat_natCast]
  rw [hcc, hct, hcs]
  have HLEN := Aside0.mk (show (l.take (RS l 0).2).length = (RS l 0).2 from by rw [List.length_take]; have := HE.out; omega)
  clear hcc hct hcs
  rintro e w4 ⟨rfl, ht4, hf4⟩
  have G4 := Aside0.mk (show RG w0 w4 gl g (l.take (RS l 0).2) room left (.slice A2 n2 c2) (RS l 0).1 from ⟨hf4.blk B3.out (fun (e : gl = g) => blk_ne B3.out T3.out (by decide) e), by rw [HLEN.out]; exact ht4, hge, hge2, Kd.R_mono (hf4.R (Kd.R_tight2 rfl R3.out) (fun k hk (e : k = g) => Kd.R_ne R3.out T3.out (by decide) (by rw [← e]; exact hk.1))) (fun _ _ => trivial), HFR.out.trans (F3.out.trans hf4 (fun k hk => .inl (.inr hk))) (fun k hk => hk.elim (fun e => .inr (by rw [e]; exact hge)) (fun e => .inr (by rw [e]; exact hge2)))⟩)
  have F4 := Aside0.mk (F3.out.trans hf4 (fun k hk => .inl (.inr hk)))
  clear ht4 hf4
  go_wp2_with (fail)
  go_end0
  exact ⟨rfl, _, G4.out, F4.out⟩

set_option maxRecDepth 100000 in
theorem rclear_calls {w0 w : World} {gl g : Nat} {l : List Int} {room left : Int} {v : Value} {o : List (List Int)} (h : RG w0 w gl g l room left v o) :
    Calls Try.prog 78 #[.pointer (some ⟨gl, 0, none⟩)] w fun e w' => e = .returned (.int .i64 0) ∧ RG w0 w' gl g [] room left (.slice none 0 0) [] ∧ Fr (R2 gl g) w w' := by
  have H := Aside0.mk h
  obtain ⟨z0, z1⟩ := h.rb.cells
  have hcc : cutC false (0 : Int) l.length = 0 := by unfold cutC; rw [if_neg (by decide), if_neg (by omega)]
  have hct : cutT false (0 : Int) l = [] := by unfold cutT; rw [if_pos hcc]; rfl
  have hcs : cutS false (0 : Int) l.length l.length = 0 := by unfold cutS; rw [if_pos hcc]; rfl
  have HCC := Aside0.mk hcc
  have HCT := Aside0.mk hct
  have HCS := Aside0.mk hcs
  clear h z1 hcc hct hcs
  go_enter Try.func78, Try.ntmps78
  go_wp2_with (fail)
  refine (RL.cut_any H.out.rt 0).mono ?_
  rw [HCC.out, HCT.out, HCS.out]
  rintro e w1 ⟨rfl, ht, hf⟩
  have G1 := Aside0.mk (H.out.tape ht rfl hf)
  have F1 := Aside0.mk (hf.mono (S2 := R2 gl g) (fun k hk => .inr hk))
  clear ht hf z0
  obtain ⟨z0, z1⟩ := G1.out.rb.cells
  have zf := G1.out.rb.free
  have hfS := (Fr.refl (At gl) w1).setAt 1 (.slice none 0 0)
  have G2 := Aside0.mk (show RG w0 (w1.setCell ⟨gl, 1, none⟩ (.slice none 0 0)) gl g [] room left (.slice none 0 0) [] from ⟨G1.out.rb.set1 _, hfS.blk G1.out.rt (fun (e : g = gl) => blk_ne G1.out.rt G1.out.rb (by decide) e), G1.out.ge, G1.out.ge2, Kd.R_nil _ _ _ _ _, G1.out.fr.trans hfS (fun k (hk : k = gl) => .inr (by rw [hk]; exact G1.out.ge))⟩)
  have F2 := Aside0.mk (F1.out.trans hfS (fun k hk => .inl (.inl hk)))
  clear hfS
  go_wp2_with (fail)
  go_ret
  exact ⟨rfl, G2.out, F2.out⟩


theorem rlapp_bad (w : World) (gl : Nat) (s : ByteArray) (h : s.size < 1 ∨ 16384 < s.size) :
    Calls Try.prog 76 #[.pointer (some ⟨gl, 0, none⟩), .string s] w fun e w' => e = .returned (.int .i64 1) ∧ w = w' := by
  by_cases h1 : s.size < 1
  · have hb : decide (s.size < 1) = true := decide_eq_true h1
    have hbi : decide ((s.size : Int) < 1) = true := decide_eq_true (by omega)
    have hs0 : s.size = 0 := by omega
    clear h h1
    go_enter Try.func76, Try.ntmps76
    go_wp2
    go_ret
    exact ⟨rfl, rfl⟩
  · have hb : decide (s.size < 1) = false := decide_eq_false h1
    have hbi : decide ((s.size : Int) < 1) = false := decide_eq_false (by omega)
    have hb2 : decide (16384 < s.size) = true := decide_eq_true (by omega)
    have hb2i : decide (16384 < (s.size : Int)) = true := decide_eq_true (by omega)
    clear h h1
    go_enter Try.func76, Try.ntmps76
    go_wp2
    go_ret
    exact ⟨rfl, rfl⟩

section
variable {ops : Array Oper} {rest : List Oper} {o : Oper} {a : Act} {Q : Exit → Act → World → Prop}
/-- '[]string{}': a new row of no texts. -/
theorem lit_strs {W : World} (base : Nat) (hgd : o.guard = none) (N : Tmp) (hd : o.dst = some N)
    (hrun : (execOp a.eval o).run Try.prog W = .ok (.value (.slice (some ⟨W.heap.size, 0, none⟩) 0 0)) (W.alloc (.cells #[] 9)))
    (hbase : base ≤ W.heap.size)
    (h : ∀ v1 w1, Kd.string.R 9 w1 base (fun _ => True) v1 [] → W.grownBy w1 none → wpList Try.prog ops Q rest (a.put o.dst v1) w1) : wpList Try.prog ops Q (o :: rest) a W :=
  Kd.R_lit Kd.string (w0 := W) base 9 hgd (N := N) hd (xs := ([] : List ByteArray)) (inner := []) (ok := fun _ => True) (okp := fun _ => True) hrun (Reps.none _ _) (fun _ hk => hk) trivial (Below.refl _ _) hbase (by simp) (fun v1 w1 h1 _ h2 h3 => h v1 w1 h1 h2)
/-- Texts that are read, appended to a row of the call's own. -/
theorem app_strs {W : World} (base : Nat) (hgd : o.guard = none) (s x : Tmp) (ho : o.op = .call { callee := .builtin .append, args := #[.tmp s, .tmp x], argTypes := #[102, 102] })
    (v : Value) (xs ys : List ByteArray) (A : Option Addr) (m c : Nat) (hs : a.eval (.tmp s) = v) (hx : a.eval (.tmp x) = .slice A m c)
    (HO : Kd.string.R 9 W base (fun _ => True) v xs) (HR : Kd.string.C W A m ys) (hbase : base ≤ W.heap.size) (hl : (xs.length + m) * 16 ≤ 140737488355328)
    (h : ∀ v1 w1, Kd.string.R 9 w1 base (fun _ => True) v1 (xs ++ ys) → W.grownBy w1 v.ownBlock → (v1.ownBlock = v.ownBlock ∨ ∃ b, v1.ownBlock = some b ∧ W.heap.size ≤ b) → wpList Try.prog ops Q rest (a.put o.dst v1) w1) : wpList Try.prog ops Q (o :: rest) a W :=
  Kd.R_append_rows Kd.string (w0 := W) base hgd (.tmp s) (.tmp x) 102 9 (.string ByteArray.empty) 16 ho Try.underlying102 info9 rfl (by decide) (by omega) v xs ys A m c (fun _ => True) (fun _ => False) hs hx HO HR (fun _ _ h => h) (fun _ h => h.elim) (fun _ _ => trivial) (Below.refl _ _) hbase hl (fun v1 w1 h1 _ h2 h3 => h v1 w1 h1 h2 h3)
end

section
variable {w0 w : World} {gl g : Nat} {l : List Int} {room left : Int} {v : Value} {o : List (List Int)}


set_option maxHeartbeats 8000000 in
set_option maxRecDepth 100000 in
theorem rlapp1 (h : RG w0 w gl g l room left v o) {b : List Int} (hby : isBytes b) (h1 : 1 ≤ b.length) (h2 : b.length ≤ 16384) (hl : left ≤ 9223372036854775807) (hn : (l.length : Int) ≤ room) (hr1 : room ≤ 1048576) (hsz : sizeL o = l.length) (hc : apC false left room l.length (recL b).length ≠ 0) :
    Calls Try.prog 76 #[.pointer (some ⟨gl, 0, none⟩), .string (strOfNums b)] w fun e w' => e = .returned (.int .i64 (apC false left room l.length (recL b).length)) ∧ ∃ v', RG w0 w' gl g l room (callL false left) v' o ∧ Fr (R2 gl g) w w' := by
  have hap : apL (apC false left room l.length (recL b).length) l (recL b) = l := by unfold apL; rw [if_neg hc]
  generalize hcd : apC false left room l.length (recL b).length = cd at hap hc ⊢
  have HCD := Aside0.mk hcd
  have HAP := Aside0.mk hap
  have hcd0 : ((cd : Int) == 0) = false := by simp; omega
  have hcd1 : ((cd : Int) != 0) = true := by simp; omega
  clear hap hcd hc
  have H := Aside0.mk h
  have HBY := Aside0.mk hby
  have HSZ := Aside0.mk hsz
  have HSZ2 := Aside0.mk (show sizeL o ≤ 1048576 by omega)
  have hss := strOfNums_size b
  have hb1 : decide ((strOfNums b).size < 1) = false := decide_eq_false (by omega)
  have hb1i : decide (((strOfNums b).size : Int) < 1) = false := decide_eq_false (by omega)
  have hb2 : decide (16384 < (strOfNums b).size) = false := decide_eq_false (by omega)
  have hb2i : decide (16384 < ((strOfNums b).size : Int)) = false := decide_eq_false (by omega)
  have HXL := Aside0.mk (recL_length b)
  have REC := Aside0.mk (fun W => record_calls W b hby (by omega))
  generalize hsb : strOfNums b = sb at hb1 hb1i hb2 hb2i REC ⊢
  generalize hxx : recL b = x at REC HXL HCD HAP ⊢
  have HSB := Aside0.mk hsb
  have HXX := Aside0.mk hxx
  obtain ⟨z0, z1⟩ := h.rb.cells
  clear h hby hsz hss hsb hxx z1
  go_enter Try.func76, Try.ntmps76
  go_wp2_with (fail)
  refine start_ (n := 8) (S := fun w' => w'.cell? ⟨gl, 0, none⟩ = some (.pointer (some ⟨g, 0, none⟩))) (ds := []) #[false, false, false, false, false, false, false, false] (by kernel_rfl) rfl rfl (z0) (fun hHeld => ?_)
  refine pure_ (i := 0) (N := some 14) (v := ?_) (a' := ?_) #[true, false, false, false, false, false, false, false] rfl rfl (by kernel_rfl) (fun _ _ _ h => h) (Or.inl ⟨by rfl, ?_⟩) ?_ ?_
  rotate_left
  · intro w'
    go_simp
    with_reducible rfl
  rotate_left
  · simp only [Act.put, List.setIfInBounds_toArray, List.set_cons_zero, List.set_cons_succ, i64_w, i32_w]
    rfl
  refine pure_ (i := 1) (N := some 15) (v := ?_) (a' := ?_) #[true, true, false, false, false, false, false, false] rfl rfl (by kernel_rfl) (fun _ _ _ h => h) (Or.inl ⟨by rfl, ?_⟩) ?_ ?_
  rotate_left
  · intro w'
    go_simp
    with_reducible rfl
  rotate_left
  · simp only [Act.put, List.setIfInBounds_toArray, List.set_cons_zero, List.set_cons_succ, i64_w, i32_w]
    rfl
  refine pure_ (i := 2) (N := some 16) (v := ?_) (a' := ?_) #[true, true, true, false, false, false, false, false] rfl rfl (by kernel_rfl) (fun _ _ _ h => h) (Or.inl ⟨by rfl, ?_⟩) ?_ ?_
  rotate_left
  · intro w'
    go_simp
    with_reducible rfl
  rotate_left
  · simp only [Act.put, List.setIfInBounds_toArray, List.set_cons_zero, List.set_cons_succ, i64_w, i32_w]
    rfl
  refine pure_ (i := 4) (N := some 18) (v := ?_) (a' := ?_) #[true, true, true, false, true, false, false, false] rfl rfl (by kernel_rfl) (fun _ _ _ h => h) (Or.inl ⟨by rfl, ?_⟩) ?_ ?_
  rotate_left
  · intro w'
    go_simp
    with_reducible rfl
  rotate_left
  · simp only [Act.put, List.setIfInBounds_toArray, List.set_cons_zero, List.set_cons_succ, i64_w, i32_w]
    rfl
  refine take_ (i := 3) (N := some 17) (v := ?_) (a' := ?_) #[true, true, true, true, true, false, false, false] rfl rfl (by kernel_rfl) (fun _ _ _ h => h) (Or.inl ⟨by rfl, ?_⟩) hHeld ?_ ?_
  rotate_left
  · intro w' s0
    go_simp
    with_reducible rfl
  rotate_left
  · simp only [Act.put, List.setIfInBounds_toArray, List.set_cons_zero, List.set_cons_succ, i64_w, i32_w]
    rfl
  refine one_ (i := 5) (N := some 19) #[true, true, true, true, true, true, false, false] rfl rfl (by kernel_rfl) (by decide) (fun K hK => ?_)
  refine goes_ Try.func94 (by kernel_rfl) rfl #[.string sb] (by rfl) rfl rfl (by simp only [List.map_toArray, List.map_cons, List.map_nil]; rfl) ?_
  with_reducible refine (REC.out _).mono ?_
  rintro e w5 ⟨rfl, hf5⟩
  refine ⟨_, rfl, ?_⟩
  have B5 := Aside0.mk (show Rlb w5 gl g v from hf5.blk H.out.rb (fun h => h.elim))
  have T5 := Aside0.mk (show RL w5 g room l.length left l false from hf5.blk H.out.rt (fun h => h.elim))
  have F5 := Aside0.mk (show Fr (R2 gl g) w w5 from ((Fr.refl (R2 gl g) w).drew.trans hf5 (fun _ h => h.elim)))
  have R5 := Aside0.mk (show Kd.string.R 9 w5 w0.heap.size (fun _ => True) v (o.map strOfNums) from hf5.Rlow (W := w5) (w := w.drew) H.out.r (fun _ h => h.elim))
  clear hf5
  refine hK.out _ _ (B5.out.cells.1) (fun hHeld => ?_)
  clear hK K
  refine norm_ (a' := ?_) ?_ ?_
  rotate_left
  · show Act.put _ (some 19) _ = _
    simp only [Act.put, List.setIfInBounds_toArray, List.set_cons_zero, List.set_cons_succ, i64_w, i32_w]
    rfl
  refine one_ (i := 6) (N := some 20) #[true, true, true, true, true, true, true, false] rfl rfl (by kernel_rfl) (by decide) (fun K hK => ?_)
  refine goes_ Try.func61 (by kernel_rfl) rfl #[.pointer (some ⟨g, 0, none⟩), .string (strOfNums x)] (by rfl) rfl rfl (by simp only [List.map_toArray, List.map_cons, List.map_nil]; rfl) ?_
  with_reducible refine (RL.app_any (m := x) T5.out hl (by omega) (by have := HXL.out; omega)).mono ?_
  rintro e w6 ⟨rfl, ht6, hf6⟩
  refine ⟨_, rfl, ?_⟩
  have T6 := Aside0.mk ht6
  have F6 := Aside0.mk (F5.out.trans hf6 (fun k hk => .inl (.inr hk)))
  have B6 := Aside0.mk (show Rlb w6 gl g v from hf6.blk B5.out (fun (e : gl = g) => blk_ne B5.out T5.out (by decide) e))
  have R6 := Aside0.mk (keepAt9 R5.out hf6 T5.out (by decide))
  clear ht6 hf6
  refine hK.out _ _ (B6.out.cells.1) (fun hHeld => ?_)
  clear hK K
  refine norm_ (a' := ?_) ?_ ?_
  rotate_left
  · show Act.put _ (some 20) _ = _
    simp only [Act.put, List.setIfInBounds_toArray, List.set_cons_zero, List.set_cons_succ, i64_w, i32_w]
    rfl
  refine pure_ (i := 7) (N := some 5) (v := ?_) (a' := ?_) #[true, true, true, true, true, true, true, true] rfl rfl (by kernel_rfl) (fun _ _ _ h => h) (Or.inl ⟨by rfl, ?_⟩) ?_ ?_
  rotate_left
  · intro w'
    go_simp
    with_reducible rfl
  rotate_left
  · simp only [Act.put, List.setIfInBounds_toArray, List.set_cons_zero, List.set_cons_succ, i64_w, i32_w]
    rfl
  refine done_ (by kernel_rfl) ?_
  rw [HCD.out]
  have T7 := Aside0.mk (show RL w6 g room l.length (callL false left) l false from by have := T6.out; rw [HCD.out, HAP.out] at this; exact this)
  clear T6 T5 R5 B5 z0
  obtain ⟨A6, c6, e6⟩ := Kd.R_slice R6.out
  rw [List.length_map] at e6
  subst e6
  have RD6 := Aside0.mk (Kd.R_reads' R6.out).2.2
  rw [List.length_map] at RD6
  obtain ⟨y0, y1⟩ := B6.out.cells
  clear y1
  go_wp2_with (fail)
  have BD := Aside0.mk (show Rlb w6.drew gl g (.slice A6 o.length c6) from B6.out)
  have TD := Aside0.mk (show RL w6.drew g room l.length _ (l) false from T7.out)
  have RD := Aside0.mk (show Kd.string.R 9 w6.drew w0.heap.size (fun _ => True) (.slice A6 o.length c6) (o.map strOfNums) from R6.out)
  have CDR := Aside0.mk (show Kd.string.C w6.drew A6 o.length (o.map strOfNums) from RD6.out)
  have FD := Aside0.mk F6.out.drew
  refine start_ (n := 7) (S := fun w' => w'.cell? ⟨gl, 0, none⟩ = some (.pointer (some ⟨g, 0, none⟩))) (ds := []) #[false, false, false, false, false, false, false] (by kernel_rfl) rfl rfl (y0) (fun hHeld => ?_)
  refine pure_ (i := 0) (N := some 30) (v := ?_) (a' := ?_) #[true, false, false, false, false, false, false] rfl rfl (by kernel_rfl) (fun _ _ _ h => h) (Or.inl ⟨by rfl, ?_⟩) ?_ ?_
  rotate_left
  · intro w'
    go_simp
    with_reducible rfl
  rotate_left
  · simp only [Act.put, List.setIfInBounds_toArray, List.set_cons_zero, List.set_cons_succ, i64_w, i32_w]
    rfl
  refine pure_ (i := 1) (N := some 31) (v := ?_) (a' := ?_) #[true, true, false, false, false, false, false] rfl rfl (by kernel_rfl) (fun _ _ _ h => h) (Or.inl ⟨by rfl, ?_⟩) ?_ ?_
  rotate_left
  · intro w'
    go_simp
    with_reducible rfl
  rotate_left
  · simp only [Act.put, List.setIfInBounds_toArray, List.set_cons_zero, List.set_cons_succ, i64_w, i32_w]
    rfl
  refine pure_ (i := 2) (N := some 32) (v := ?_) (a' := ?_) #[true, true, true, false, false, false, false] rfl rfl (by kernel_rfl) (fun _ _ _ h => h) (Or.inl ⟨by rfl, ?_⟩) ?_ ?_
  rotate_left
  · intro w'
    go_simp
    with_reducible rfl
  rotate_left
  · simp only [Act.put, List.setIfInBounds_toArray, List.set_cons_zero, List.set_cons_succ, i64_w, i32_w]
    rfl
  refine pure_ (i := 4) (N := some 34) (v := ?_) (a' := ?_) #[true, true, true, false, true, false, false] rfl rfl (by kernel_rfl) (fun _ _ _ h => h) (Or.inl ⟨by rfl, ?_⟩) ?_ ?_
  rotate_left
  · intro w'
    go_simp
    with_reducible rfl
  rotate_left
  · simp only [Act.put, List.setIfInBounds_toArray, List.set_cons_zero, List.set_cons_succ, i64_w, i32_w]
    rfl
  refine take_ (i := 3) (N := some 33) (v := ?_) (a' := ?_) #[true, true, true, true, true, false, false] rfl rfl (by kernel_rfl) (fun _ _ _ h => h) (Or.inl ⟨by rfl, ?_⟩) hHeld ?_ ?_
  rotate_left
  · intro w' s0
    go_simp
    with_reducible rfl
  rotate_left
  · simp only [Act.put, List.setIfInBounds_toArray, List.set_cons_zero, List.set_cons_succ, i64_w, i32_w]
    rfl
  refine one_ (i := 5) (N := some 35) #[true, true, true, true, true, true, false] rfl rfl (by kernel_rfl) (by decide) (fun K hK => ?_)
  refine goes_ Try.func96 (by kernel_rfl) rfl #[.pointer (some ⟨gl, 0, none⟩)] (by rfl) rfl rfl (by simp only [List.map_toArray, List.map_cons, List.map_nil]; rfl) ?_
  with_reducible refine (rsize_calls _ gl g A6 c6 o BD.out CDR.out HSZ2.out).mono ?_
  rintro e w7 ⟨rfl, rfl⟩
  refine ⟨_, rfl, ?_⟩
  rw [HSZ.out]
  refine hK.out _ _ (BD.out.cells.1) (fun hHeld => ?_)
  clear hK K
  refine norm_ (a' := ?_) ?_ ?_
  rotate_left
  · show Act.put _ (some 35) _ = _
    simp only [Act.put, List.setIfInBounds_toArray, List.set_cons_zero, List.set_cons_succ, i64_w, i32_w]
    rfl
  refine one_ (i := 6) (N := some 36) #[true, true, true, true, true, true, true] rfl rfl (by kernel_rfl) (by decide) (fun K hK => ?_)
  refine goes_ Try.func64 (by kernel_rfl) rfl #[.pointer (some ⟨g, 0, none⟩), .int .i64 (l.length : Nat)] (by rfl) rfl rfl (by simp only [List.map_toArray, List.map_cons, List.map_nil]; rfl) ?_
  with_reducible refine (RL.cut_any TD.out (l.length : Nat)).mono ?_
  rintro e w8 ⟨rfl, ht8, hf8⟩
  refine ⟨_, rfl, ?_⟩
  have T8 := Aside0.mk ht8
  have F8 := Aside0.mk (FD.out.trans hf8 (fun k hk => .inl (.inr hk)))
  have B8 := Aside0.mk (show Rlb w8 gl g _ from hf8.blk BD.out (fun (e : gl = g) => blk_ne BD.out TD.out (by decide) e))
  have R8 := Aside0.mk (keepAt9 RD.out hf8 TD.out (by decide))
  clear ht8 hf8
  refine hK.out _ _ (B8.out.cells.1) (fun hHeld => ?_)
  clear hK K
  refine norm_ (a' := ?_) ?_ ?_
  rotate_left
  · show Act.put _ (some 36) _ = _
    simp only [Act.put, List.setIfInBounds_toArray, List.set_cons_zero, List.set_cons_succ, i64_w, i32_w]
    rfl
  refine done_ (by kernel_rfl) ?_
  have hcc : cutC false (l.length : Nat) l.length = 0 := by unfold cutC; rw [if_neg (by decide), if_neg (by omega)]
  have hct : cutT false (l.length : Nat) l = l := by unfold cutT; rw [if_pos hcc, Int.toNat_natCast, List.take_length]
  have hcs : cutS false (l.length : Nat) l.length l.length = l.length := by unfold cutS; rw [if_pos hcc, Int.toNat_natCast]
  have T9 := T8.out
  rw [hct, hcs] at T9
  have T10 := Aside0.mk T9
  rw [hcc]
  clear hcc hct hcs T8 T9 y0
  go_wp2_with (fail)
  go_ret
  exact ⟨rfl, _, ⟨B8.out, T10.out, H.out.ge, H.out.ge2, R8.out, H.out.frW F8.out⟩, F8.out⟩


set_option maxHeartbeats 8000000 in
set_option maxRecDepth 100000 in
theorem rlapp2 (h : RG w0 w gl g l room left v o) {b : List Int} (hby : isBytes b) (h1 : 1 ≤ b.length) (h2 : b.length ≤ 16384) (hl : left ≤ 9223372036854775807) (hn : (l.length : Int) ≤ room) (hr1 : room ≤ 1048576) (hsz : sizeL o = l.length) (hc0 : apC false left room l.length (recL b).length = 0) (hc : callC false (callL false left) ≠ 0) :
    Calls Try.prog 76 #[.pointer (some ⟨gl, 0, none⟩), .string (strOfNums b)] w fun e w' => e = .returned (.int .i64 (callC false (callL false left))) ∧ ∃ v', RG w0 w' gl g l room (callL false (callL false left)) v' o ∧ Fr (R2 gl g) w w' := by
  have hap : apL (apC false left room l.length (recL b).length) l (recL b) = l ++ recL b := by unfold apL; rw [if_pos hc0]
  generalize hl2 : l ++ recL b = l2 at hap
  have HL2 := Aside0.mk (show l2.take l.length = l ∧ l.length ≤ l2.length from by rw [← hl2]; exact ⟨List.take_left, by simp⟩)
  generalize hcd : callC false (callL false left) = cd at hc ⊢
  have HCD := Aside0.mk hcd
  have HC0 := Aside0.mk hc0
  have HAP := Aside0.mk hap
  have hcd0 : ((cd : Int) == 0) = false := by simp; omega
  have hcd1 : ((cd : Int) != 0) = true := by simp; omega
  have HNZ := Aside0.mk hc
  clear hap hcd hc hc0 hl2
  have H := Aside0.mk h
  have HBY := Aside0.mk hby
  have HSZ := Aside0.mk hsz
  have HSZ2 := Aside0.mk (show sizeL o ≤ 1048576 by omega)
  have hss := strOfNums_size b
  have hb1 : decide ((strOfNums b).size < 1) = false := decide_eq_false (by omega)
  have hb1i : decide (((strOfNums b).size : Int) < 1) = false := decide_eq_false (by omega)
  have hb2 : decide (16384 < (strOfNums b).size) = false := decide_eq_false (by omega)
  have hb2i : decide (16384 < ((strOfNums b).size : Int)) = false := decide_eq_false (by omega)
  have HXL := Aside0.mk (recL_length b)
  have REC := Aside0.mk (fun W => record_calls W b hby (by omega))
  generalize hsb : strOfNums b = sb at hb1 hb1i hb2 hb2i REC ⊢
  generalize hxx : recL b = x at REC HXL HC0 HAP ⊢
  have HSB := Aside0.mk hsb
  have HXX := Aside0.mk hxx
  obtain ⟨z0, z1⟩ := h.rb.cells
  clear h hby hsz hss hsb hxx z1
  go_enter Try.func76, Try.ntmps76
  go_wp2_with (fail)
  refine start_ (n := 8) (S := fun w' => w'.cell? ⟨gl, 0, none⟩ = some (.pointer (some ⟨g, 0, none⟩))) (ds := []) #[false, false, false, false, false, false, false, false] (by kernel_rfl) rfl rfl (z0) (fun hHeld => ?_)
  refine pure_ (i := 0) (N := some 14) (v := ?_) (a' := ?_) #[true, false, false, false, false, false, false, false] rfl rfl (by kernel_rfl) (fun _ _ _ h => h) (Or.inl ⟨by rfl, ?_⟩) ?_ ?_
  rotate_left
  · intro w'
    go_simp
    with_reducible rfl
  rotate_left
  · simp only [Act.put, List.setIfInBounds_toArray, List.set_cons_zero, List.set_cons_succ, i64_w, i32_w]
    rfl
  refine pure_ (i := 1) (N := some 15) (v := ?_) (a' := ?_) #[true, true, false, false, false, false, false, false] rfl rfl (by kernel_rfl) (fun _ _ _ h => h) (Or.inl ⟨by rfl, ?_⟩) ?_ ?_
  rotate_left
  · intro w'
    go_simp
    with_reducible rfl
  rotate_left
  · simp only [Act.put, List.setIfInBounds_toArray, List.set_cons_zero, List.set_cons_succ, i64_w, i32_w]
    rfl
  refine pure_ (i := 2) (N := some 16) (v := ?_) (a' := ?_) #[true, true, true, false, false, false, false, false] rfl rfl (by kernel_rfl) (fun _ _ _ h => h) (Or.inl ⟨by rfl, ?_⟩) ?_ ?_
  rotate_left
  · intro w'
    go_simp
    with_reducible rfl
  rotate_left
  · simp only [Act.put, List.setIfInBounds_toArray, List.set_cons_zero, List.set_cons_succ, i64_w, i32_w]
    rfl
  refine pure_ (i := 4) (N := some 18) (v := ?_) (a' := ?_) #[true, true, true, false, true, false, false, false] rfl rfl (by kernel_rfl) (fun _ _ _ h => h) (Or.inl ⟨by rfl, ?_⟩) ?_ ?_
  rotate_left
  · intro w'
    go_simp
    with_reducible rfl
  rotate_left
  · simp only [Act.put, List.setIfInBounds_toArray, List.set_cons_zero, List.set_cons_succ, i64_w, i32_w]
    rfl
  refine take_ (i := 3) (N := some 17) (v := ?_) (a' := ?_) #[true, true, true, true, true, false, false, false] rfl rfl (by kernel_rfl) (fun _ _ _ h => h) (Or.inl ⟨by rfl, ?_⟩) hHeld ?_ ?_
  rotate_left
  · intro w' s0
    go_simp
    with_reducible rfl
  rotate_left
  · simp only [Act.put, List.setIfInBounds_toArray, List.set_cons_zero, List.set_cons_succ, i64_w, i32_w]
    rfl
  refine one_ (i := 5) (N := some 19) #[true, true, true, true, true, true, false, false] rfl rfl (by kernel_rfl) (by decide) (fun K hK => ?_)
  refine goes_ Try.func94 (by kernel_rfl) rfl #[.string sb] (by rfl) rfl rfl (by simp only [List.map_toArray, List.map_cons, List.map_nil]; rfl) ?_
  with_reducible refine (REC.out _).mono ?_
  rintro e w5 ⟨rfl, hf5⟩
  refine ⟨_, rfl, ?_⟩
  have B5 := Aside0.mk (show Rlb w5 gl g v from hf5.blk H.out.rb (fun h => h.elim))
  have T5 := Aside0.mk (show RL w5 g room l.length left l false from hf5.blk H.out.rt (fun h => h.elim))
  have F5 := Aside0.mk (show Fr (R2 gl g) w w5 from ((Fr.refl (R2 gl g) w).drew.trans hf5 (fun _ h => h.elim)))
  have R5 := Aside0.mk (show Kd.string.R 9 w5 w0.heap.size (fun _ => True) v (o.map strOfNums) from hf5.Rlow (W := w5) (w := w.drew) H.out.r (fun _ h => h.elim))
  clear hf5
  refine hK.out _ _ (B5.out.cells.1) (fun hHeld => ?_)
  clear hK K
  refine norm_ (a' := ?_) ?_ ?_
  rotate_left
  · show Act.put _ (some 19) _ = _
    simp only [Act.put, List.setIfInBounds_toArray, List.set_cons_zero, List.set_cons_succ, i64_w, i32_w]
    rfl
  refine one_ (i := 6) (N := some 20) #[true, true, true, true, true, true, true, false] rfl rfl (by kernel_rfl) (by decide) (fun K hK => ?_)
  refine goes_ Try.func61 (by kernel_rfl) rfl #[.pointer (some ⟨g, 0, none⟩), .string (strOfNums x)] (by rfl) rfl rfl (by simp only [List.map_toArray, List.map_cons, List.map_nil]; rfl) ?_
  with_reducible refine (RL.app_any (m := x) T5.out hl (by omega) (by have := HXL.out; omega)).mono ?_
  rintro e w6 ⟨rfl, ht6, hf6⟩
  refine ⟨_, rfl, ?_⟩
  have T6 := Aside0.mk ht6
  have F6 := Aside0.mk (F5.out.trans hf6 (fun k hk => .inl (.inr hk)))
  have B6 := Aside0.mk (show Rlb w6 gl g v from hf6.blk B5.out (fun (e : gl = g) => blk_ne B5.out T5.out (by decide) e))
  have R6 := Aside0.mk (keepAt9 R5.out hf6 T5.out (by decide))
  clear ht6 hf6
  refine hK.out _ _ (B6.out.cells.1) (fun hHeld => ?_)
  clear hK K
  refine norm_ (a' := ?_) ?_ ?_
  rotate_left
  · show Act.put _ (some 20) _ = _
    simp only [Act.put, List.setIfInBounds_toArray, List.set_cons_zero, List.set_cons_succ, i64_w, i32_w]
    rfl
  refine pure_ (i := 7) (N := some 5) (v := ?_) (a' := ?_) #[true, true, true, true, true, true, true, true] rfl rfl (by kernel_rfl) (fun _ _ _ h => h) (Or.inl ⟨by rfl, ?_⟩) ?_ ?_
  rotate_left
  · intro w'
    go_simp
    with_reducible rfl
  rotate_left
  · simp only [Act.put, List.setIfInBounds_toArray, List.set_cons_zero, List.set_cons_succ, i64_w, i32_w]
    rfl
  refine done_ (by kernel_rfl) ?_
  rw [HC0.out]
  have T7 := Aside0.mk (show RL w6 g room l.length (callL false left) l2 false from by have := T6.out; rw [HAP.out] at this; exact this)
  clear T6 T5 R5 B5 z0
  obtain ⟨y0, y1⟩ := B6.out.cells
  clear y1
  go_wp2_with (fail)
  refine (RL.sync_any T7.out (callL_le hl)).mono ?_
  rw [HCD.out, if_neg HNZ.out]
  rintro e w9 ⟨rfl, ht9, hf9⟩
  have B9 := Aside0.mk (show Rlb w9 gl g v from hf9.blk B6.out (fun (e : gl = g) => blk_ne B6.out T7.out (by decide) e))
  have R9 := Aside0.mk (keepAt9 R6.out hf9 T7.out (by decide))
  have F9 := Aside0.mk (F6.out.trans hf9 (fun k hk => .inl (.inr hk)))
  have T9 := Aside0.mk ht9
  clear ht9 hf9 y0 B6 R6 F6 T7
  obtain ⟨A6, c6, e6⟩ := Kd.R_slice R9.out
  rw [List.length_map] at e6
  subst e6
  have RD6 := Aside0.mk (Kd.R_reads' R9.out).2.2
  rw [List.length_map] at RD6
  obtain ⟨y0, y1⟩ := B9.out.cells
  clear y1
  go_wp2_with (fail)
  have BD := Aside0.mk (show Rlb w9.drew gl g (.slice A6 o.length c6) from B9.out)
  have TD := Aside0.mk (show RL w9.drew g room l.length _ (l2) false from T9.out)
  have RD := Aside0.mk (show Kd.string.R 9 w9.drew w0.heap.size (fun _ => True) (.slice A6 o.length c6) (o.map strOfNums) from R9.out)
  have CDR := Aside0.mk (show Kd.string.C w9.drew A6 o.length (o.map strOfNums) from RD6.out)
  have FD := Aside0.mk F9.out.drew
  refine start_ (n := 7) (S := fun w' => w'.cell? ⟨gl, 0, none⟩ = some (.pointer (some ⟨g, 0, none⟩))) (ds := []) #[false, false, false, false, false, false, false] (by kernel_rfl) rfl rfl (y0) (fun hHeld => ?_)
  refine pure_ (i := 0) (N := some 30) (v := ?_) (a' := ?_) #[true, false, false, false, false, false, false] rfl rfl (by kernel_rfl) (fun _ _ _ h => h) (Or.inl ⟨by rfl, ?_⟩) ?_ ?_
  rotate_left
  · intro w'
    go_simp
    with_reducible rfl
  rotate_left
  · simp only [Act.put, List.setIfInBounds_toArray, List.set_cons_zero, List.set_cons_succ, i64_w, i32_w]
    rfl
  refine pure_ (i := 1) (N := some 31) (v := ?_) (a' := ?_) #[true, true, false, false, false, false, false] rfl rfl (by kernel_rfl) (fun _ _ _ h => h) (Or.inl ⟨by rfl, ?_⟩) ?_ ?_
  rotate_left
  · intro w'
    go_simp
    with_reducible rfl
  rotate_left
  · simp only [Act.put, List.setIfInBounds_toArray, List.set_cons_zero, List.set_cons_succ, i64_w, i32_w]
    rfl
  refine pure_ (i := 2) (N := some 32) (v := ?_) (a' := ?_) #[true, true, true, false, false, false, false] rfl rfl (by kernel_rfl) (fun _ _ _ h => h) (Or.inl ⟨by rfl, ?_⟩) ?_ ?_
  rotate_left
  · intro w'
    go_simp
    with_reducible rfl
  rotate_left
  · simp only [Act.put, List.setIfInBounds_toArray, List.set_cons_zero, List.set_cons_succ, i64_w, i32_w]
    rfl
  refine pure_ (i := 4) (N := some 34) (v := ?_) (a' := ?_) #[true, true, true, false, true, false, false] rfl rfl (by kernel_rfl) (fun _ _ _ h => h) (Or.inl ⟨by rfl, ?_⟩) ?_ ?_
  rotate_left
  · intro w'
    go_simp
    with_reducible rfl
  rotate_left
  · simp only [Act.put, List.setIfInBounds_toArray, List.set_cons_zero, List.set_cons_succ, i64_w, i32_w]
    rfl
  refine take_ (i := 3) (N := some 33) (v := ?_) (a' := ?_) #[true, true, true, true, true, false, false] rfl rfl (by kernel_rfl) (fun _ _ _ h => h) (Or.inl ⟨by rfl, ?_⟩) hHeld ?_ ?_
  rotate_left
  · intro w' s0
    go_simp
    with_reducible rfl
  rotate_left
  · simp only [Act.put, List.setIfInBounds_toArray, List.set_cons_zero, List.set_cons_succ, i64_w, i32_w]
    rfl
  refine one_ (i := 5) (N := some 35) #[true, true, true, true, true, true, false] rfl rfl (by kernel_rfl) (by decide) (fun K hK => ?_)
  refine goes_ Try.func96 (by kernel_rfl) rfl #[.pointer (some ⟨gl, 0, none⟩)] (by rfl) rfl rfl (by simp only [List.map_toArray, List.map_cons, List.map_nil]; rfl) ?_
  with_reducible refine (rsize_calls _ gl g A6 c6 o BD.out CDR.out HSZ2.out).mono ?_
  rintro e w7 ⟨rfl, rfl⟩
  refine ⟨_, rfl, ?_⟩
  rw [HSZ.out]
  refine hK.out _ _ (BD.out.cells.1) (fun hHeld => ?_)
  clear hK K
  refine norm_ (a' := ?_) ?_ ?_
  rotate_left
  · show Act.put _ (some 35) _ = _
    simp only [Act.put, List.setIfInBounds_toArray, List.set_cons_zero, List.set_cons_succ, i64_w, i32_w]
    rfl
  refine one_ (i := 6) (N := some 36) #[true, true, true, true, true, true, true] rfl rfl (by kernel_rfl) (by decide) (fun K hK => ?_)
  refine goes_ Try.func64 (by kernel_rfl) rfl #[.pointer (some ⟨g, 0, none⟩), .int .i64 (l.length : Nat)] (by rfl) rfl rfl (by simp only [List.map_toArray, List.map_cons, List.map_nil]; rfl) ?_
  with_reducible refine (RL.cut_any TD.out (l.length : Nat)).mono ?_
  rintro e w8 ⟨rfl, ht8, hf8⟩
  refine ⟨_, rfl, ?_⟩
  have T8 := Aside0.mk ht8
  have F8 := Aside0.mk (FD.out.trans hf8 (fun k hk => .inl (.inr hk)))
  have B8 := Aside0.mk (show Rlb w8 gl g _ from hf8.blk BD.out (fun (e : gl = g) => blk_ne BD.out TD.out (by decide) e))
  have R8 := Aside0.mk (keepAt9 RD.out hf8 TD.out (by decide))
  clear ht8 hf8
  refine hK.out _ _ (B8.out.cells.1) (fun hHeld => ?_)
  clear hK K
  refine norm_ (a' := ?_) ?_ ?_
  rotate_left
  · show Act.put _ (some 36) _ = _
    simp only [Act.put, List.setIfInBounds_toArray, List.set_cons_zero, List.set_cons_succ, i64_w, i32_w]
    rfl
  refine done_ (by kernel_rfl) ?_
  have hcc : cutC false (l.length : Nat) l2.length = 0 := by unfold cutC; rw [if_neg (by decide), if_neg (by have := HL2.out; omega)]
  have hct : cutT false (l.length : Nat) l2 = l := by unfold cutT; rw [if_pos hcc, Int.toNat_natCast, HL2.out.1]
  have hcs : cutS false (l.length : Nat) l2.length l.length = l.length := by unfold cutS; rw [if_pos hcc, Int.toNat_natCast]
  have T11 := T8.out
  rw [hct, hcs] at T11
  have T10 := Aside0.mk T11
  rw [hcc]
  clear hcc hct hcs T8 T11 y0
  go_wp2_with (fail)
  go_ret
  exact ⟨rfl, _, ⟨B8.out, T10.out, H.out.ge, H.out.ge2, R8.out, H.out.frW F8.out⟩, F8.out⟩


set_option maxHeartbeats 8000000 in
set_option maxRecDepth 100000 in
theorem rlapp3 (h : RG w0 w gl g l room left v o) {b : List Int} (hby : isBytes b) (h1 : 1 ≤ b.length) (h2 : b.length ≤ 16384) (hl : left ≤ 9223372036854775807) (hn : (l.length : Int) ≤ room) (hr1 : room ≤ 1048576) (hsz : sizeL o = l.length) (hc0 : apC false left room l.length (recL b).length = 0) (hc : callC false (callL false left) = 0) (hol : o.length ≤ 1048576) :
    Calls Try.prog 76 #[.pointer (some ⟨gl, 0, none⟩), .string (strOfNums b)] w fun e w' => e = .returned (.int .i64 0) ∧ ∃ v', RG w0 w' gl g (l ++ recL b) room (callL false (callL false left)) v' (o ++ [b]) ∧ Fr (R2 gl g) w w' := by
  have hap : apL (apC false left room l.length (recL b).length) l (recL b) = l ++ recL b := by unfold apL; rw [if_pos hc0]
  generalize hl2 : l ++ recL b = l2 at hap ⊢
  have HCD := Aside0.mk hc
  have HC0 := Aside0.mk hc0
  have HAP := Aside0.mk hap
  have HOL := Aside0.mk hol
  clear hap hc hc0 hl2 hol
  have H := Aside0.mk h
  have HBY := Aside0.mk hby
  have HSZ := Aside0.mk hsz
  have HSZ2 := Aside0.mk (show sizeL o ≤ 1048576 by omega)
  have hss := strOfNums_size b
  have hb1 : decide ((strOfNums b).size < 1) = false := decide_eq_false (by omega)
  have hb1i : decide (((strOfNums b).size : Int) < 1) = false := decide_eq_false (by omega)
  have hb2 : decide (16384 < (strOfNums b).size) = false := decide_eq_false (by omega)
  have hb2i : decide (16384 < ((strOfNums b).size : Int)) = false := decide_eq_false (by omega)
  have HXL := Aside0.mk (recL_length b)
  have REC := Aside0.mk (fun W => record_calls W b hby (by omega))
  generalize hsb : strOfNums b = sb at hb1 hb1i hb2 hb2i REC ⊢
  generalize hxx : recL b = x at REC HXL HC0 HAP ⊢
  have HSB := Aside0.mk hsb
  have HXX := Aside0.mk hxx
  obtain ⟨z0, z1⟩ := h.rb.cells
  clear h hby hsz hss hsb hxx z1
  go_enter Try.func76, Try.ntmps76
  go_wp2_with (fail)
  refine start_ (n := 8) (S := fun w' => w'.cell? ⟨gl, 0, none⟩ = some (.pointer (some ⟨g, 0, none⟩))) (ds := []) #[false, false, false, false, false, false, false, false] (by kernel_rfl) rfl rfl (z0) (fun hHeld => ?_)
  refine pure_ (i := 0) (N := some 14) (v := ?_) (a' := ?_) #[true, false, false, false, false, false, false, false] rfl rfl (by kernel_rfl) (fun _ _ _ h => h) (Or.inl ⟨by rfl, ?_⟩) ?_ ?_
  rotate_left
  · intro w'
    go_simp
    with_reducible rfl
  rotate_left
  · simp only [Act.put, List.setIfInBounds_toArray, List.set_cons_zero, List.set_cons_succ, i64_w, i32_w]
    rfl
  refine pure_ (i := 1) (N := some 15) (v := ?_) (a' := ?_) #[true, true, false, false, false, false, false, false] rfl rfl (by kernel_rfl) (fun _ _ _ h => h) (Or.inl ⟨by rfl, ?_⟩) ?_ ?_
  rotate_left
  · intro w'
    go_simp
    with_reducible rfl
  rotate_left
  · simp only [Act.put, List.setIfInBounds_toArray, List.set_cons_zero, List.set_cons_succ, i64_w, i32_w]
    rfl
  refine pure_ (i := 2) (N := some 16) (v := ?_) (a' := ?_) #[true, true, true, false, false, false, false, false] rfl rfl (by kernel_rfl) (fun _ _ _ h => h) (Or.inl ⟨by rfl, ?_⟩) ?_ ?_
  rotate_left
  · intro w'
    go_simp
    with_reducible rfl
  rotate_left
  · simp only [Act.put, List.setIfInBounds_toArray, List.set_cons_zero, List.set_cons_succ, i64_w, i32_w]
    rfl
  refine pure_ (i := 4) (N := some 18) (v := ?_) (a' := ?_) #[true, true, true, false, true, false, false, false] rfl rfl (by kernel_rfl) (fun _ _ _ h => h) (Or.inl ⟨by rfl, ?_⟩) ?_ ?_
  rotate_left
  · intro w'
    go_simp
    with_reducible rfl
  rotate_left
  · simp only [Act.put, List.setIfInBounds_toArray, List.set_cons_zero, List.set_cons_succ, i64_w, i32_w]
    rfl
  refine take_ (i := 3) (N := some 17) (v := ?_) (a' := ?_) #[true, true, true, true, true, false, false, false] rfl rfl (by kernel_rfl) (fun _ _ _ h => h) (Or.inl ⟨by rfl, ?_⟩) hHeld ?_ ?_
  rotate_left
  · intro w' s0
    go_simp
    with_reducible rfl
  rotate_left
  · simp only [Act.put, List.setIfInBounds_toArray, List.set_cons_zero, List.set_cons_succ, i64_w, i32_w]
    rfl
  refine one_ (i := 5) (N := some 19) #[true, true, true, true, true, true, false, false] rfl rfl (by kernel_rfl) (by decide) (fun K hK => ?_)
  refine goes_ Try.func94 (by kernel_rfl) rfl #[.string sb] (by rfl) rfl rfl (by simp only [List.map_toArray, List.map_cons, List.map_nil]; rfl) ?_
  with_reducible refine (REC.out _).mono ?_
  rintro e w5 ⟨rfl, hf5⟩
  refine ⟨_, rfl, ?_⟩
  have B5 := Aside0.mk (show Rlb w5 gl g v from hf5.blk H.out.rb (fun h => h.elim))
  have T5 := Aside0.mk (show RL w5 g room l.length left l false from hf5.blk H.out.rt (fun h => h.elim))
  have F5 := Aside0.mk (show Fr (R2 gl g) w w5 from ((Fr.refl (R2 gl g) w).drew.trans hf5 (fun _ h => h.elim)))
  have R5 := Aside0.mk (show Kd.string.R 9 w5 w0.heap.size (fun _ => True) v (o.map strOfNums) from hf5.Rlow (W := w5) (w := w.drew) H.out.r (fun _ h => h.elim))
  clear hf5
  refine hK.out _ _ (B5.out.cells.1) (fun hHeld => ?_)
  clear hK K
  refine norm_ (a' := ?_) ?_ ?_
  rotate_left
  · show Act.put _ (some 19) _ = _
    simp only [Act.put, List.setIfInBounds_toArray, List.set_cons_zero, List.set_cons_succ, i64_w, i32_w]
    rfl
  refine one_ (i := 6) (N := some 20) #[true, true, true, true, true, true, true, false] rfl rfl (by kernel_rfl) (by decide) (fun K hK => ?_)
  refine goes_ Try.func61 (by kernel_rfl) rfl #[.pointer (some ⟨g, 0, none⟩), .string (strOfNums x)] (by rfl) rfl rfl (by simp only [List.map_toArray, List.map_cons, List.map_nil]; rfl) ?_
  with_reducible refine (RL.app_any (m := x) T5.out hl (by omega) (by have := HXL.out; omega)).mono ?_
  rintro e w6 ⟨rfl, ht6, hf6⟩
  refine ⟨_, rfl, ?_⟩
  have T6 := Aside0.mk ht6
  have F6 := Aside0.mk (F5.out.trans hf6 (fun k hk => .inl (.inr hk)))
  have B6 := Aside0.mk (show Rlb w6 gl g v from hf6.blk B5.out (fun (e : gl = g) => blk_ne B5.out T5.out (by decide) e))
  have R6 := Aside0.mk (keepAt9 R5.out hf6 T5.out (by decide))
  clear ht6 hf6
  refine hK.out _ _ (B6.out.cells.1) (fun hHeld => ?_)
  clear hK K
  refine norm_ (a' := ?_) ?_ ?_
  rotate_left
  · show Act.put _ (some 20) _ = _
    simp only [Act.put, List.setIfInBounds_toArray, List.set_cons_zero, List.set_cons_succ, i64_w, i32_w]
    rfl
  refine pure_ (i := 7) (N := some 5) (v := ?_) (a' := ?_) #[true, true, true, true, true, true, true, true] rfl rfl (by kernel_rfl) (fun _ _ _ h => h) (Or.inl ⟨by rfl, ?_⟩) ?_ ?_
  rotate_left
  · intro w'
    go_simp
    with_reducible rfl
  rotate_left
  · simp only [Act.put, List.setIfInBounds_toArray, List.set_cons_zero, List.set_cons_succ, i64_w, i32_w]
    rfl
  refine done_ (by kernel_rfl) ?_
  rw [HC0.out]
  have T7 := Aside0.mk (show RL w6 g room l.length (callL false left) l2 false from by have := T6.out; rw [HAP.out] at this; exact this)
  clear T6 T5 R5 B5 z0
  obtain ⟨y0, y1⟩ := B6.out.cells
  clear y1
  go_wp2_with (fail)
  refine (RL.sync_any T7.out (callL_le hl)).mono ?_
  rw [HCD.out, if_pos rfl]
  rintro e w9 ⟨rfl, ht9, hf9⟩
  have B9 := Aside0.mk (show Rlb w9 gl g v from hf9.blk B6.out (fun (e : gl = g) => blk_ne B6.out T7.out (by decide) e))
  have R9 := Aside0.mk (keepAt9 R6.out hf9 T7.out (by decide))
  have F9 := Aside0.mk (F6.out.trans hf9 (fun k hk => .inl (.inr hk)))
  have T9 := Aside0.mk ht9
  have N9 := Aside0.mk (show w0.heap.size ≤ w9.heap.size from Nat.le_trans H.out.fr.size F9.out.size)
  clear ht9 hf9 y0 B6 R6 F6 T7
  obtain ⟨A6, c6, e6⟩ := Kd.R_slice R9.out
  rw [List.length_map] at e6
  subst e6
  have RD9 := Aside0.mk (Kd.R_reads' R9.out).2.2
  rw [List.length_map] at RD9
  obtain ⟨y0, y1⟩ := B9.out.cells
  go_wp2_with (first
    | ((with_reducible refine gate_dst (N := 39) rfl ?_); refine lit_strs w9.heap.size rfl 39 rfl ?hr (Nat.le_refl _) ?_; (case hr => first | (go_simp; done) | (go_simp; rfl)); intro v10 w10 hr10 hg10; have O10 := Aside0.mk hr10; have F10 := Aside0.mk (Fr.new hg10); have B10 := Aside0.mk (show Rlb w10 gl g (.slice A6 o.length c6) from (Fr.new hg10).blk B9.out (fun h => h.elim)); have RD10 := Aside0.mk (Kd.C_below RD9.out (Fr.new hg10).no); clear hr10 hg10 y0 y1; obtain ⟨y0, y1⟩ := B10.out.cells)
    | ((with_reducible refine gate_builtin (b := .append) (xs := #[.tmp 39, .tmp 43]) rfl ?_); at_builtin; refine app_strs w9.heap.size rfl 39 43 rfl v10 [] (o.map strOfNums) A6 o.length c6 rfl rfl O10.out RD10.out F10.out.size ?aL ?_; (case aL => have := HOL.out; simp; omega); intro v11 w11 hr11 hg11 hat11; rw [List.nil_append] at hr11; have O11 := Aside0.mk hr11; have F11 := Aside0.mk (F10.out.own O10.out (Nat.le_refl _) hg11); have B11 := Aside0.mk (show Rlb w11 gl g (.slice A6 o.length c6) from F11.out.blk B9.out (fun h => h.elim)); clear hr11 hg11 hat11 y0 y1; obtain ⟨y0, y1⟩ := B11.out.cells)
    | ((with_reducible refine gate_builtin (b := .append) (xs := #[.tmp 44, .tmp 46]) rfl ?_); at_builtin; refine app_str w9.heap.size rfl 44 46 rfl v11 (o.map strOfNums) sb rfl rfl O11.out F11.out.size ?aL ?_; (case aL => have := HOL.out; rw [List.length_map]; omega); intro v12 w12 hr12 hg12; have F12 := Aside0.mk (F11.out.own O11.out (Nat.le_refl _) hg12); obtain ⟨A12, c12, e12⟩ := Kd.R_slice hr12; rw [List.length_append, List.length_map, List.length_singleton] at e12; subst e12; have O12 := Aside0.mk hr12; have B12 := Aside0.mk (show Rlb w12 gl g (.slice A6 o.length c6) from F12.out.blk B9.out (fun h => h.elim)); have zf := B12.out.free; clear hr12 hg12 y0 y1; obtain ⟨y0, y1⟩ := B12.out.cells))
  go_ret
  have FS := (Fr.refl (At gl) w12).setAt 1 (.slice A12 (o.length + 1) c12)
  have FZ := (F9.out.trans F12.out (fun _ h => h.elim)).trans FS (fun k (hk : k = gl) => .inl (.inl hk))
  refine ⟨rfl, _, ⟨B12.out.set1 _, FS.blk (F12.out.blk T9.out (fun h => h.elim)) (fun (e : g = gl) => blk_ne T9.out B9.out (by decide) e), H.out.ge, H.out.ge2, ?_, H.out.frW FZ⟩, FZ⟩
  rw [List.map_append, show [b].map strOfNums = [sb] from by rw [List.map_singleton, HSB.out]]
  exact Kd.R_lower (Kd.R_set O12.out B12.out (by intro q hq; simp [Kd.string, Kd.scalar] at hq; omega) 1 _) N9.out
end


end Go.Proofs.Ythlcognpfangkaa
