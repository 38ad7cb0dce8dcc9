/- The walks of wal.Log's methods (no condition but the log's state). -/
import Derived.Test.YthlcognpfangkaaWal1
import Derived.Test.YthlcognpfangkaaTq
namespace Go.Proofs.Ythlcognpfangkaa
open Go.RowKit Go.Proofs.YthlcognpfangkaaW.PrintWords Go.Proofs.YthlcognpfangkaaW.PrintLast Go.Proofs.YthlcognpfangkaaW.PrintMore
set_option linter.unusedVariables false
set_option linter.unusedSimpArgs false

/-- The block of a log. -/
def Lb (w : World) (gl g : Nat) (v : Value) (n : Int) : Prop := w.heap[gl]? = some (.cells #[.pointer (some ⟨g, 0, none⟩), v, .int .i64 n] 138 (0, 0))
section
variable {w : World} {gl g : Nat} {v : Value} {n : Int}
theorem Lb.cells (h : Lb w gl g v n) : w.cell? ⟨gl, 0, none⟩ = some (.pointer (some ⟨g, 0, none⟩)) ∧ w.cell? ⟨gl, 1, none⟩ = some v ∧ w.cell? ⟨gl, 2, none⟩ = some (.int .i64 n) :=
  ⟨(blk_cell h 0).trans rfl, (blk_cell h 1).trans rfl, (blk_cell h 2).trans rfl⟩
theorem Lb.free (h : Lb w gl g v n) : w.frozen? ⟨gl, 1, none⟩ = false ∧ w.frozen? ⟨gl, 2, none⟩ = false := ⟨blk_frozen h 1, blk_frozen h 2⟩
theorem Lb.set1 (h : Lb w gl g v n) (x : Value) : Lb (w.setCell ⟨gl, 1, none⟩ x) gl g x n := blk_set h 1 _
theorem Lb.set2 (h : Lb w gl g v n) (x : Int) : Lb (w.setCell ⟨gl, 2, none⟩ (.int .i64 x)) gl g v x := blk_set h 2 _
end

theorem RS_le (l : List Int) : ∀ (d a : Nat), a + d = l.length → (RS l a).2 ≤ l.length := by
  intro d
  induction d using Nat.strongRecOn with
  | _ d ih =>
    intro a ha
    by_cases hg : good l a
    · have := nxt_lt hg
      rw [RS_yes hg]
      exact ih (l.length - nxt l a) (by omega) (nxt l a) (by omega)
    · rw [RS_no hg]; exact (by omega : a ≤ l.length)
theorem RS_end (l : List Int) : (RS l 0).2 ≤ l.length := RS_le l l.length 0 (by omega)

theorem open_nil (w : World) : Calls Try.prog 71 #[.pointer none] w fun e w' => e = .returned (.tuple #[.pointer none, .iface 56 (.int .i64 1)]) ∧ w = w' := by
  go_enter Try.func71, Try.ntmps71
  go_wp2
  go_ret2
  exact ⟨rfl, rfl⟩

set_option maxRecDepth 100000 in
theorem open_calls {w0 w : World} {g c : Nat} {A : Option Addr} {l : List Int} {room left : Int} {s : Nat} {down : Bool} (h : TA w0 w g A c l room s down left) (hl : isBytes l) (hn : l.length ≤ 1048576) :
    Calls Try.prog 71 #[.pointer (some ⟨g, 0, none⟩)] w fun e w' => ∃ gl v, e = .returned (.tuple #[.pointer (some ⟨gl, 0, none⟩), .nilIface]) ∧ w.heap.size ≤ gl ∧ TA w0 w' g A c (l.take (RS l 0).2) room ((RS l 0).2 : Nat) false left ∧ Lb w' gl g v ((RS l 0).2 : Nat) ∧ Kd.R KB 47 w' w.heap.size (fun _ => True) v (RS l 0).1 ∧ Fr (At g) w w' := by
  have H := Aside0.mk h
  have HL := Aside0.mk hl
  have hend := RS_end l
  have hu := Try.underlying138
  clear h hl
  go_enter Try.func71, Try.ntmps71
  go_wp2_with (fail)
  refine (TA.up H.out).mono ?_
  rintro e w1 ⟨rfl, ht, hf⟩
  have T1 := Aside0.mk ht
  have F1 := Aside0.mk hf
  clear ht hf
  go_wp2_with (fail)
  refine (TA.read T1.out (by omega)).mono ?_
  rintro e w2 ⟨A2, c2, rfl, hr2, hc2, ht, hf⟩
  have T2 := Aside0.mk ht
  have R2 := Aside0.mk hr2
  have C2 := Aside0.mk hc2
  have F2 := Aside0.mk (F1.out.trans hf (fun _ h => h.elim))
  clear ht hf hr2 hc2 T1
  go_wp2_with (fail)
  refine (records_calls w2 A2 c2 l R2.out C2.out HL.out hn).mono ?_
  rintro e w3 ⟨v3, rfl, hr3, hf⟩
  obtain ⟨A3, c3, e3⟩ := Kd.R_slice hr3
  subst e3
  have T3 := Aside0.mk (T2.out.no hf)
  have F3 := Aside0.mk (F2.out.trans hf (fun _ h => h.elim))
  have R3 := Aside0.mk (Kd.R_lower hr3 F2.out.size)
  have hcc : cutC false ((RS l 0).2 : Nat) l.length = 0 := by unfold cutC; rw [if_neg (by decide), if_neg (by omega)]
  have hct : cutT false ((RS l 0).2 : Nat) l = l.take (RS l 0).2 := by unfold cutT; rw [if_pos hcc, Int.toNat_natCast]
  have hcs : cutS false ((RS l 0).2 : Nat) l.length s = (RS l 0).2 := by unfold cutS; rw [if_pos hcc, Int.toNat_natCast]
  have HCC := Aside0.mk hcc
  have HCS := Aside0.mk hcs
  have HCT := Aside0.mk hct
  clear hr3 hf hcc hct hcs hend
  go_wp2_with (fail)
  refine (TA.cut_any T3.out ((RS l 0).2 : Nat)).mono ?_
  rw [HCC.out, HCT.out, HCS.out, errOf_0]
  rintro e w4 ⟨rfl, ht, hf⟩
  have T4 := Aside0.mk ht
  have F4 := Aside0.mk (F3.out.trans hf (fun k (hk : k = g) => .inl hk))
  have R4 := Aside0.mk (Kd.R_mono (hf.R (Kd.R_types R3.out T3.out.t (by intro q hq; simp [Kd.slice, Kd.int, Kd.scalar] at hq; omega)) (fun k hk => hk.2)) (ok' := fun _ => True) (fun _ _ => trivial))
  clear ht hf
  go_wp2_with (fail)
  go_ret2
  exact ⟨w4.heap.size, _, rfl, F4.out.size, T4.out.no ((Fr.refl No w4).alloc _), blk_new w4 _, Kd.R_alloc R4.out _, F4.out.alloc _⟩

end Go.Proofs.Ythlcognpfangkaa

namespace Go.Proofs.Ythlcognpfangkaa
open Go.RowKit Go.Proofs.YthlcognpfangkaaW.PrintWords Go.Proofs.YthlcognpfangkaaW.PrintLast Go.Proofs.YthlcognpfangkaaW.PrintMore
set_option linter.unusedVariables false
set_option linter.unusedSimpArgs false

/-- Rows as a log has them: none is empty, each is a record. -/
def recsOk (o : List (List Int)) : Prop := o.length ≤ 1048576 ∧ ∀ x ∈ o, x ≠ [] ∧ x.length ≤ 16384 ∧ isBytes x

set_option maxHeartbeats 8000000 in
set_option maxRecDepth 100000 in
theorem all_calls (w : World) (gl g : Nat) (A : Option Addr) (c : Nat) (n : Int) (o : List (List Int)) (h : Lb w gl g (.slice A o.length c) n) (hr : KB.C w A o.length o) (hok : recsOk o) :
    Calls Try.prog 74 #[.pointer (some ⟨gl, 0, none⟩)] w fun e w' => ∃ v, e = .returned v ∧ Kd.R KB 47 w' w.heap.size (fun _ => True) v o ∧ Fr No w w' := by
  obtain ⟨q0, q1, q2⟩ := h.cells
  have HR := Aside0.mk hr
  have HK := Aside0.mk hok
  have hl := hok.1
  clear h hr hok q0 q2
  go_enter Try.func74, Try.ntmps74
  go_wp2_with (fail)
  clear q1
  go_loopg [3, 11] o.length (fun kq v3 v11 w' => ∃ k : Nat, k + kq = o.length ∧ v11 = .int .i64 k ∧ Aside0 (Kd.R KB 47 w' w.heap.size (fun _ => True) v3 (o.take k)) ∧ Aside0 (Fr No w w'))
  case atStart => exact ⟨0, by omega, rfl, ⟨Kd.R_nil _ _ _ _ _⟩, ⟨Fr.refl _ _⟩⟩
  case round =>
    obtain ⟨k, hk, rfl, OO, FF⟩ := hrel
    by_cases hlt : k < o.length
    · obtain ⟨ad, A1, c1, rfl, q0, hle, hrd⟩ := KB_get (Kd.C_below HR.out FF.out.no) k hlt
      obtain ⟨hx1, hx2, hx3⟩ := HK.out.2 _ (List.getElem_mem hlt)
      have htk : o.take (k + 1) = o.take k ++ [o[k]] := by rw [List.take_add_one, List.getElem?_eq_getElem hlt]; rfl
      have htl : (o.take k).length = k := by rw [List.length_take]; omega
      generalize o[k] = x at q0 hrd hx1 hx2 htk hle
      obtain ⟨ad1, rfl, _⟩ := hrd.2.2 (by have := List.length_pos_iff.mpr hx1; omega)
      have HRD := Aside0.mk hrd
      have HTK := Aside0.mk htk
      have HTL := Aside0.mk htl
      have hix : (0 : Int) ≤ k := by omega
      have hix2 : (k : Int) < o.length := by omega
      have hb : decide ((k : Int) < o.length) = true := decide_eq_true hix2
      clear hrd htk htl hx3 hle
      go_wp2_with (fail)
      refine (clone_some wr ad1 c1 x HRD.out (by omega)).mono ?_
      rintro e w2 ⟨v2, rfl, hr2, hf2⟩
      have F2 := Aside0.mk hf2
      have R2 := Aside0.mk (Kd.R_lower (Kd.R_newR (W := wr) hr2 OO.out) FF.out.size)
      obtain ⟨A2, c2, e2⟩ := Kd.R_slice hr2
      subst e2
      clear hr2 hf2
      go_wp2_with (first | ((with_reducible refine gate_builtin (b := .append) (xs := #[.tmp 15, .tmp 18]) rfl ?_); at_builtin; refine app_row w.heap.size rfl 15 18 rfl u3 (o.take k) x (.slice A2 x.length c2) rfl rfl R2.out (F2.out.Rlow OO.out (fun _ h => h.elim)) (FF.out.on F2.out).size ?aL ?_; (case aL => rw [HTL.out]; omega); intro v6 w6 hr6 hg6; have R6 := Aside0.mk hr6; have F6 := Aside0.mk ((FF.out.on F2.out).own (F2.out.Rlow OO.out (fun _ h => h.elim)) (Nat.le_refl _) hg6); clear hr6 hg6))
      go_roundg (o.length - (k + 1))
      case measure => omega
      case rel => exact ⟨k + 1, by omega, by go_num, ⟨by rw [HTK.out]; exact R6.out⟩, F6⟩
    · have hb : decide ((k : Int) < o.length) = false := decide_eq_false (by omega)
      have hb2 : decide (k < o.length) = false := decide_eq_false hlt
      obtain rfl : k = o.length := by omega
      have OO2 := Aside0.mk (show Kd.R KB 47 wr w.heap.size (fun _ => True) u3 o from by have := OO.out; rw [List.take_length] at this; exact this)
      clear OO
      go_wp2_with (fail)
      go_ret
      exact ⟨_, rfl, OO2.out, FF.out⟩

end Go.Proofs.Ythlcognpfangkaa

namespace Go.Proofs.Ythlcognpfangkaa
open Go.RowKit Go.Proofs.YthlcognpfangkaaW.PrintWords Go.Proofs.YthlcognpfangkaaW.PrintLast Go.Proofs.YthlcognpfangkaaW.PrintMore
set_option linter.unusedVariables false
set_option linter.unusedSimpArgs false

/-- A log on a tape that is up. -/
structure LA (w0 w : World) (gl g : Nat) (A : Option Addr) (c : Nat) (l : List Int) (room : Int) (s : Nat) (left : Int) (v : Value) (n : Nat) (o : List (List Int)) : Prop where
  ta : TA w0 w g A c l room s false left
  lb : Lb w gl g v n
  ge : w0.heap.size ≤ gl
  r : Kd.R KB 47 w w0.heap.size (fun k => some k ≠ (Value.slice A 0 c).ownBlock) v o

theorem LA_r {w W : World} {base g n n' c c' : Nat} {A A' : Option Addr} {v : Value} {o : List (List Int)} {cells : Array Value} (hr : Kd.R KB 47 w base (fun k => some k ≠ (Value.slice A 0 c).ownBlock) v o) (ht : w.heap[g]? = some (.cells cells 135 (0, 0))) (hf : Fr (TS g (.slice A n c)) w W) (hs : Shares w A A' n c n' c') :
    Kd.R KB 47 W base (fun k => some k ≠ (Value.slice A' 0 c').ownBlock) v o := by
  refine Kd.R_mono (hf.R (Kd.R_bound hr) (fun k hk hS => hS.elim (fun e => ?_) (fun e => hk.1 (by rw [own_len A c 0 n]; exact e.symm)))) (fun k hk => ?_)
  · obtain ⟨_, _, _, q, hq, cs, hcs⟩ := hk
    rw [e, ht] at hcs
    simp only [Option.some.injEq, Obj.cells.injEq] at hcs
    obtain ⟨_, rfl, _⟩ := hcs
    revert hq
    simp [Kd.slice, Kd.int, Kd.scalar]
  · rcases hs with hs | ⟨b, hs, hb⟩
    · rw [own_len A' c' 0 n', hs, own_len A c n 0]; exact hk.1
    · rw [own_len A' c' 0 n', hs]
      intro e
      cases e
      have := hk.2.2.1
      omega
/-- The blocks that a log and its tape write. -/
def LS (gl g : Nat) (t v : Value) : Nat → Prop := fun k => k = gl ∨ k = g ∨ t.ownBlock = some k ∨ v.ownBlock = some k
theorem LS_of_TS {gl g : Nat} {t v : Value} {k : Nat} (h : TS g t k) : LS gl g t v k := h.elim (fun h => .inr (.inl h)) (fun h => .inr (.inr (.inl h)))
section
variable {w0 w : World} {gl g c n s : Nat} {A : Option Addr} {l : List Int} {room left : Int} {v : Value} {o : List (List Int)}
theorem LA.no (h : LA w0 w gl g A c l room s left v n o) {W : World} (hf : Fr No w W) : LA w0 W gl g A c l room s left v n o :=
  ⟨h.ta.no hf, hf.blk h.lb (fun h => h.elim), h.ge, hf.Rlow h.r (fun _ h => h.elim)⟩
/-- Whatever is done to the tape, the log's own block stays. -/
theorem LA.lbTS (h : LA w0 w gl g A c l room s left v n o) {W : World} (hf : Fr (TS g (.slice A l.length c)) w W) : Lb W gl g v n :=
  hf.blk h.lb (fun hk => hk.elim (fun e => blk_ne h.lb h.ta.t (by decide) e) (fun e => Kd.R_ne h.ta.r h.lb (by decide) e.symm))
theorem LA.to (h : LA w0 w gl g A c l room s left v n o) {W : World} {A' : Option Addr} {c' : Nat} {l' : List Int} {s' : Nat} {left' : Int} (ht : TA w0 W g A' c' l' room s' false left') (hf : Fr (TS g (.slice A l.length c)) w W) (hs : Shares w A A' l.length c l'.length c') : LA w0 W gl g A' c' l' room s' left' v n o :=
  ⟨ht, h.lbTS hf, h.ge, LA_r h.r h.ta.t hf hs⟩
theorem LA.to_at (h : LA w0 w gl g A c l room s left v n o) {W : World} {l' : List Int} {s' : Nat} {left' : Int} (ht : TA w0 W g A c l' room s' false left') (hf : Fr (At g) w W) : LA w0 W gl g A c l' room s' left' v n o :=
  h.to ht (hf.mono (fun k hk => .inl hk)) (.inl (own_len _ _ _ _))
end

theorem lapp_bad (w : World) (gl : Nat) (B : Option Addr) (d m : Nat) (h : m < 1 ∨ 16384 < m) :
    Calls Try.prog 73 #[.pointer (some ⟨gl, 0, none⟩), .slice B m d] w fun e w' => e = .returned (errOf 1) ∧ w = w' := by
  rw [errOf_pos (by omega)]
  by_cases h1 : m < 1
  · obtain rfl : m = 0 := by omega
    clear h h1
    go_enter Try.func73, Try.ntmps73
    go_wp2
    go_ret
    exact ⟨rfl, rfl⟩
  · have hb : decide (m < 1) = false := decide_eq_false h1
    have hbi : decide ((m : Int) < 1) = false := decide_eq_false (by omega)
    have hb2 : decide (16384 < m) = true := decide_eq_true (by omega)
    have hb2i : decide (16384 < (m : Int)) = true := decide_eq_true (by omega)
    clear h h1
    go_enter Try.func73, Try.ntmps73
    go_wp2
    go_ret
    exact ⟨rfl, rfl⟩

section
variable {w0 w : World} {gl g c n s : Nat} {A : Option Addr} {l : List Int} {room left : Int} {v : Value} {o : List (List Int)}


set_option maxHeartbeats 8000000 in
set_option maxRecDepth 100000 in
theorem LA.app1 (h : LA w0 w gl g A c l room s left v n o) {B : Option Addr} {d : Nat} {b : List Int} (hb : Kd.C (Kd.int .u8) w B b.length b) (hd : b.length ≤ d) (hby : isBytes b) (h1 : 1 ≤ b.length) (h2 : b.length ≤ 16384) (hl : left ≤ 9223372036854775807) (hr0 : 0 ≤ room) (hr1 : room ≤ 1048576) (hn : l.length ≤ room) (hno : n ≤ l.length) (hc : apC false left room l.length (recL b).length ≠ 0) :
    Calls Try.prog 73 #[.pointer (some ⟨gl, 0, none⟩), .slice B b.length d] w fun e w' => e = .returned (errOf (apC false left room l.length (recL b).length)) ∧ ∃ A' c', LA w0 w' gl g A' c' (l.take n) room n (callL false left) v n o ∧ Fr (LS gl g (.slice A l.length c) v) w w' := by
  have hap : apL (apC false left room l.length (recL b).length) l (recL b) = l := by unfold apL; rw [if_neg hc]
  have HAP := Aside0.mk hap
  rw [errOf_pos hc]
  have HC := Aside0.mk hc
  clear hap hc
  have H := Aside0.mk h
  have HB := Aside0.mk hb
  have HD := Aside0.mk hd
  have HBY := Aside0.mk hby
  have hb1 : decide (b.length < 1) = false := decide_eq_false (by omega)
  have hb1i : decide ((b.length : Int) < 1) = false := decide_eq_false (by omega)
  have hb2 : decide (16384 < b.length) = false := decide_eq_false (by omega)
  have hb2i : decide (16384 < (b.length : Int)) = false := decide_eq_false (by omega)
  have hxl := recL_length b
  have HXL := Aside0.mk hxl
  clear h hb hd hby hxl
  go_enter Try.func73, Try.ntmps73
  go_wp2_with (fail)
  refine (walput_calls w B d b HB.out HD.out HBY.out (by omega)).mono ?_
  rintro e w1 ⟨v1, rfl, hr1', hf⟩
  have L1 := Aside0.mk (H.out.no hf)
  have F1 := Aside0.mk hf
  have R1 := Aside0.mk hr1'
  obtain ⟨A1, c1, e1, _, hrd1⟩ := R_out hr1'
  subst e1
  have RD1 := Aside0.mk hrd1
  clear hr1' hf hrd1
  obtain ⟨z0, z1, z2⟩ := L1.out.lb.cells
  go_wp2_with (fail)
  clear z0 z1 z2
  refine (TA.app_any L1.out.ta RD1.out (fun ad e _ hg => Kd.R_ne R1.out L1.out.ta.t (by decide) (by rw [e, ← hg]; rfl)) hl hr0 hr1 hn (by rw [HXL.out]; omega)).mono ?_
  rw [errOf_pos HC.out, HAP.out]
  rintro e w2 ⟨rfl, A2, c2, ht, hf, hs⟩
  have L9 := Aside0.mk (L1.out.to ht hf hs)
  have F9 := Aside0.mk (show Fr (LS gl g (.slice A l.length c) v) w w2 from (F1.out.mono (S2 := LS gl g (.slice A l.length c) v) (fun _ h => h.elim)).trans hf (fun k hk => .inl (LS_of_TS hk)))
  have hcc : cutC false (n : Int) l.length = 0 := by unfold cutC; rw [if_neg (by decide), if_neg (by omega)]
  have hct : cutT false (n : Int) l = l.take n := by unfold cutT; rw [if_pos hcc, Int.toNat_natCast]
  have hcs : cutS false (n : Int) l.length s = n := by unfold cutS; rw [if_pos hcc, Int.toNat_natCast]
  have HCC := Aside0.mk hcc
  have HCT := Aside0.mk hct
  have HCS := Aside0.mk hcs
  clear ht hf hs hcc hct hcs
  obtain ⟨z0, z1, z2⟩ := L9.out.lb.cells
  go_wp2_with (fail)
  refine start_ (n := 10) (S := fun w' => w'.cell? ⟨gl, 0, none⟩ = some (.pointer (some ⟨g, 0, none⟩)) ∧ w'.cell? ⟨gl, 2, none⟩ = some (.int .i64 (n : Int))) (ds := []) #[false, false, false, false, false, false, false, false, false, false] (by kernel_rfl) rfl rfl ⟨z0, z2⟩ (fun hHeld => ?_)
  refine pure_ (i := 0) (N := some 34) (v := ?_) (a' := ?_) #[true, false, false, false, false, false, false, false, false, false] rfl rfl (by kernel_rfl) (fun _ _ _ h => h) (Or.inl ⟨by rfl, ?_⟩) ?_ ?_
  rotate_left
  · intro w'
    go_simp
    with_reducible rfl
  rotate_left
  · simp only [Act.put, List.setIfInBounds_toArray, List.set_cons_zero, List.set_cons_succ, i64_w, i32_w]
    rfl
  refine pure_ (i := 1) (N := some 35) (v := ?_) (a' := ?_) #[true, true, false, false, false, false, false, false, false, false] rfl rfl (by kernel_rfl) (fun _ _ _ h => h) (Or.inl ⟨by rfl, ?_⟩) ?_ ?_
  rotate_left
  · intro w'
    go_simp
    with_reducible rfl
  rotate_left
  · simp only [Act.put, List.setIfInBounds_toArray, List.set_cons_zero, List.set_cons_succ, i64_w, i32_w]
    rfl
  refine pure_ (i := 2) (N := some 36) (v := ?_) (a' := ?_) #[true, true, true, false, false, false, false, false, false, false] rfl rfl (by kernel_rfl) (fun _ _ _ h => h) (Or.inl ⟨by rfl, ?_⟩) ?_ ?_
  rotate_left
  · intro w'
    go_simp
    with_reducible rfl
  rotate_left
  · simp only [Act.put, List.setIfInBounds_toArray, List.set_cons_zero, List.set_cons_succ, i64_w, i32_w]
    rfl
  refine pure_ (i := 4) (N := some 38) (v := ?_) (a' := ?_) #[true, true, true, false, true, false, false, false, false, false] rfl rfl (by kernel_rfl) (fun _ _ _ h => h) (Or.inl ⟨by rfl, ?_⟩) ?_ ?_
  rotate_left
  · intro w'
    go_simp
    with_reducible rfl
  rotate_left
  · simp only [Act.put, List.setIfInBounds_toArray, List.set_cons_zero, List.set_cons_succ, i64_w, i32_w]
    rfl
  refine pure_ (i := 5) (N := some 39) (v := ?_) (a' := ?_) #[true, true, true, false, true, true, false, false, false, false] rfl rfl (by kernel_rfl) (fun _ _ _ h => h) (Or.inl ⟨by rfl, ?_⟩) ?_ ?_
  rotate_left
  · intro w'
    go_simp
    with_reducible rfl
  rotate_left
  · simp only [Act.put, List.setIfInBounds_toArray, List.set_cons_zero, List.set_cons_succ, i64_w, i32_w]
    rfl
  refine pure_ (i := 6) (N := some 40) (v := ?_) (a' := ?_) #[true, true, true, false, true, true, true, false, false, false] rfl rfl (by kernel_rfl) (fun _ _ _ h => h) (Or.inl ⟨by rfl, ?_⟩) ?_ ?_
  rotate_left
  · intro w'
    go_simp
    with_reducible rfl
  rotate_left
  · simp only [Act.put, List.setIfInBounds_toArray, List.set_cons_zero, List.set_cons_succ, i64_w, i32_w]
    rfl
  refine take_ (i := 3) (N := some 37) (v := ?_) (a' := ?_) #[true, true, true, true, true, true, true, false, false, false] rfl rfl (by kernel_rfl) (fun _ _ _ h => h) (Or.inl ⟨by rfl, ?_⟩) hHeld ?_ ?_
  rotate_left
  · rintro w' ⟨s0, s1⟩
    go_simp
    with_reducible rfl
  rotate_left
  · simp only [Act.put, List.setIfInBounds_toArray, List.set_cons_zero, List.set_cons_succ, i64_w, i32_w]
    rfl
  refine take_ (i := 7) (N := some 41) (v := ?_) (a' := ?_) #[true, true, true, true, true, true, true, true, false, false] rfl rfl (by kernel_rfl) (fun _ _ _ h => h) (Or.inl ⟨by rfl, ?_⟩) hHeld ?_ ?_
  rotate_left
  · rintro w' ⟨s0, s1⟩
    go_simp
    with_reducible rfl
  rotate_left
  · simp only [Act.put, List.setIfInBounds_toArray, List.set_cons_zero, List.set_cons_succ, i64_w, i32_w]
    rfl
  refine one_ (i := 8) (N := some 42) #[true, true, true, true, true, true, true, true, true, false] rfl rfl (by kernel_rfl) (by decide) (fun K hK => ?_)
  refine goes_ Try.func63 (by kernel_rfl) rfl #[.pointer (some ⟨g, 0, none⟩), .int .i64 (n : Int)] (by rfl) rfl rfl (by simp only [List.map_toArray, List.map_cons, List.map_nil]; rfl) ?_
  with_reducible refine (TA.cut_any (L9.out.no ((Fr.refl No _).drew)).ta (n : Int)).mono ?_
  rintro e w9 ⟨rfl, ht, hf⟩
  refine ⟨_, rfl, ?_⟩
  have LX := Aside0.mk ((L9.out.no ((Fr.refl No _).drew)).to_at (s' := cutS false (n : Int) (l).length s) (l' := cutT false (n : Int) (l)) ht hf)
  have FX := Aside0.mk (F9.out.drew.trans hf (fun k hk => .inl (.inr (.inl hk))))
  clear ht hf
  refine hK.out _ _ ⟨LX.out.lb.cells.1, LX.out.lb.cells.2.2⟩ (fun hHeld => ?_)
  clear hK K
  refine norm_ (a' := ?_) ?_ ?_
  rotate_left
  · show Act.put _ (some 42) _ = _
    simp only [Act.put, List.setIfInBounds_toArray, List.set_cons_zero, List.set_cons_succ, i64_w, i32_w]
    rfl
  refine pure_ (i := 9) (N := some 7) (v := ?_) (a' := ?_) #[true, true, true, true, true, true, true, true, true, true] rfl rfl (by kernel_rfl) (fun _ _ _ h => h) (Or.inl ⟨by rfl, ?_⟩) ?_ ?_
  rotate_left
  · intro w'
    go_simp
    with_reducible rfl
  rotate_left
  · simp only [Act.put, List.setIfInBounds_toArray, List.set_cons_zero, List.set_cons_succ, i64_w, i32_w]
    rfl
  refine done_ (by kernel_rfl) ?_
  rw [HCC.out, errOf_0]
  have LY := LX.out
  rw [HCT.out, HCS.out] at LY
  have LZ := Aside0.mk LY
  clear LX LY z0 z1 z2
  go_wp2_with (fail)
  go_ret
  exact ⟨rfl, A2, c2, LZ.out, FX.out⟩

set_option maxHeartbeats 8000000 in
set_option maxRecDepth 100000 in
theorem LA.app2 (h : LA w0 w gl g A c l room s left v n o) {B : Option Addr} {d : Nat} {b : List Int} (hb : Kd.C (Kd.int .u8) w B b.length b) (hd : b.length ≤ d) (hby : isBytes b) (h1 : 1 ≤ b.length) (h2 : b.length ≤ 16384) (hl : left ≤ 9223372036854775807) (hr0 : 0 ≤ room) (hr1 : room ≤ 1048576) (hn : l.length ≤ room) (hno : n ≤ l.length) (hc0 : apC false left room l.length (recL b).length = 0) (hc : callC false (callL false left) ≠ 0) :
    Calls Try.prog 73 #[.pointer (some ⟨gl, 0, none⟩), .slice B b.length d] w fun e w' => e = .returned (errOf (callC false (callL false left))) ∧ ∃ A' c', LA w0 w' gl g A' c' ((l ++ recL b).take n) room n (callL false (callL false left)) v n o ∧ Fr (LS gl g (.slice A l.length c) v) w w' := by
  have hap : apL (apC false left room l.length (recL b).length) l (recL b) = l ++ recL b := by unfold apL; rw [if_pos hc0]
  rw [errOf_pos hc]
  have HC := Aside0.mk hc
  have HC0 := Aside0.mk hc0
  have hl2n : n ≤ (l ++ recL b).length := by rw [List.length_append]; omega
  generalize hl2 : l ++ recL b = l2 at hap hl2n ⊢
  have HAP := Aside0.mk hap
  clear hap hc hc0 hl2
  have H := Aside0.mk h
  have HB := Aside0.mk hb
  have HD := Aside0.mk hd
  have HBY := Aside0.mk hby
  have hb1 : decide (b.length < 1) = false := decide_eq_false (by omega)
  have hb1i : decide ((b.length : Int) < 1) = false := decide_eq_false (by omega)
  have hb2 : decide (16384 < b.length) = false := decide_eq_false (by omega)
  have hb2i : decide (16384 < (b.length : Int)) = false := decide_eq_false (by omega)
  have hxl := recL_length b
  have HXL := Aside0.mk hxl
  clear h hb hd hby hxl
  go_enter Try.func73, Try.ntmps73
  go_wp2_with (fail)
  refine (walput_calls w B d b HB.out HD.out HBY.out (by omega)).mono ?_
  rintro e w1 ⟨v1, rfl, hr1', hf⟩
  have L1 := Aside0.mk (H.out.no hf)
  have F1 := Aside0.mk hf
  have R1 := Aside0.mk hr1'
  obtain ⟨A1, c1, e1, _, hrd1⟩ := R_out hr1'
  subst e1
  have RD1 := Aside0.mk hrd1
  clear hr1' hf hrd1
  obtain ⟨z0, z1, z2⟩ := L1.out.lb.cells
  go_wp2_with (fail)
  clear z0 z1 z2
  refine (TA.app_any L1.out.ta RD1.out (fun ad e _ hg => Kd.R_ne R1.out L1.out.ta.t (by decide) (by rw [e, ← hg]; rfl)) hl hr0 hr1 hn (by rw [HXL.out]; omega)).mono ?_
  rw [HAP.out, HC0.out, errOf_0]
  rintro e w2 ⟨rfl, A2, c2, ht, hf, hs⟩
  have L2 := Aside0.mk (L1.out.to ht hf hs)
  have F2 := Aside0.mk (show Fr (LS gl g (.slice A l.length c) v) w w2 from (F1.out.mono (S2 := LS gl g (.slice A l.length c) v) (fun _ h => h.elim)).trans hf (fun k hk => .inl (LS_of_TS hk)))
  clear ht hf hs
  obtain ⟨z0, z1, z2⟩ := L2.out.lb.cells
  go_wp2_with (fail)
  refine (TA.sync_any L2.out.ta (callL_le hl)).mono ?_
  rw [errOf_pos HC.out, if_neg HC.out]
  rintro e w3 ⟨rfl, ht, hf⟩
  have L9 := Aside0.mk (L2.out.to_at ht hf)
  have F9 := Aside0.mk (F2.out.trans hf (fun k hk => .inl (.inr (.inl hk))))
  have hcc : cutC false (n : Int) l2.length = 0 := by unfold cutC; rw [if_neg (by decide), if_neg (by omega)]
  have hct : cutT false (n : Int) l2 = l2.take n := by unfold cutT; rw [if_pos hcc, Int.toNat_natCast]
  have hcs : cutS false (n : Int) l2.length s = n := by unfold cutS; rw [if_pos hcc, Int.toNat_natCast]
  have HCC := Aside0.mk hcc
  have HCT := Aside0.mk hct
  have HCS := Aside0.mk hcs
  clear ht hf hcc hct hcs z0 z1 z2 L2
  obtain ⟨z0, z1, z2⟩ := L9.out.lb.cells
  go_wp2_with (fail)
  refine start_ (n := 10) (S := fun w' => w'.cell? ⟨gl, 0, none⟩ = some (.pointer (some ⟨g, 0, none⟩)) ∧ w'.cell? ⟨gl, 2, none⟩ = some (.int .i64 (n : Int))) (ds := []) #[false, false, false, false, false, false, false, false, false, false] (by kernel_rfl) rfl rfl ⟨z0, z2⟩ (fun hHeld => ?_)
  refine pure_ (i := 0) (N := some 34) (v := ?_) (a' := ?_) #[true, false, false, false, false, false, false, false, false, false] rfl rfl (by kernel_rfl) (fun _ _ _ h => h) (Or.inl ⟨by rfl, ?_⟩) ?_ ?_
  rotate_left
  · intro w'
    go_simp
    with_reducible rfl
  rotate_left
  · simp only [Act.put, List.setIfInBounds_toArray, List.set_cons_zero, List.set_cons_succ, i64_w, i32_w]
    rfl
  refine pure_ (i := 1) (N := some 35) (v := ?_) (a' := ?_) #[true, true, false, false, false, false, false, false, false, false] rfl rfl (by kernel_rfl) (fun _ _ _ h => h) (Or.inl ⟨by rfl, ?_⟩) ?_ ?_
  rotate_left
  · intro w'
    go_simp
    with_reducible rfl
  rotate_left
  · simp only [Act.put, List.setIfInBounds_toArray, List.set_cons_zero, List.set_cons_succ, i64_w, i32_w]
    rfl
  refine pure_ (i := 2) (N := some 36) (v := ?_) (a' := ?_) #[true, true, true, false, false, false, false, false, false, false] rfl rfl (by kernel_rfl) (fun _ _ _ h => h) (Or.inl ⟨by rfl, ?_⟩) ?_ ?_
  rotate_left
  · intro w'
    go_simp
    with_reducible rfl
  rotate_left
  · simp only [Act.put, List.setIfInBounds_toArray, List.set_cons_zero, List.set_cons_succ, i64_w, i32_w]
    rfl
  refine pure_ (i := 4) (N := some 38) (v := ?_) (a' := ?_) #[true, true, true, false, true, false, false, false, false, false] rfl rfl (by kernel_rfl) (fun _ _ _ h => h) (Or.inl ⟨by rfl, ?_⟩) ?_ ?_
  rotate_left
  · intro w'
    go_simp
    with_reducible rfl
  rotate_left
  · simp only [Act.put, List.setIfInBounds_toArray, List.set_cons_zero, List.set_cons_succ, i64_w, i32_w]
    rfl
  refine pure_ (i := 5) (N := some 39) (v := ?_) (a' := ?_) #[true, true, true, false, true, true, false, false, false, false] rfl rfl (by kernel_rfl) (fun _ _ _ h => h) (Or.inl ⟨by rfl, ?_⟩) ?_ ?_
  rotate_left
  · intro w'
    go_simp
    with_reducible rfl
  rotate_left
  · simp only [Act.put, List.setIfInBounds_toArray, List.set_cons_zero, List.set_cons_succ, i64_w, i32_w]
    rfl
  refine pure_ (i := 6) (N := some 40) (v := ?_) (a' := ?_) #[true, true, true, false, true, true, true, false, false, false] rfl rfl (by kernel_rfl) (fun _ _ _ h => h) (Or.inl ⟨by rfl, ?_⟩) ?_ ?_
  rotate_left
  · intro w'
    go_simp
    with_reducible rfl
  rotate_left
  · simp only [Act.put, List.setIfInBounds_toArray, List.set_cons_zero, List.set_cons_succ, i64_w, i32_w]
    rfl
  refine take_ (i := 3) (N := some 37) (v := ?_) (a' := ?_) #[true, true, true, true, true, true, true, false, false, false] rfl rfl (by kernel_rfl) (fun _ _ _ h => h) (Or.inl ⟨by rfl, ?_⟩) hHeld ?_ ?_
  rotate_left
  · rintro w' ⟨s0, s1⟩
    go_simp
    with_reducible rfl
  rotate_left
  · simp only [Act.put, List.setIfInBounds_toArray, List.set_cons_zero, List.set_cons_succ, i64_w, i32_w]
    rfl
  refine take_ (i := 7) (N := some 41) (v := ?_) (a' := ?_) #[true, true, true, true, true, true, true, true, false, false] rfl rfl (by kernel_rfl) (fun _ _ _ h => h) (Or.inl ⟨by rfl, ?_⟩) hHeld ?_ ?_
  rotate_left
  · rintro w' ⟨s0, s1⟩
    go_simp
    with_reducible rfl
  rotate_left
  · simp only [Act.put, List.setIfInBounds_toArray, List.set_cons_zero, List.set_cons_succ, i64_w, i32_w]
    rfl
  refine one_ (i := 8) (N := some 42) #[true, true, true, true, true, true, true, true, true, false] rfl rfl (by kernel_rfl) (by decide) (fun K hK => ?_)
  refine goes_ Try.func63 (by kernel_rfl) rfl #[.pointer (some ⟨g, 0, none⟩), .int .i64 (n : Int)] (by rfl) rfl rfl (by simp only [List.map_toArray, List.map_cons, List.map_nil]; rfl) ?_
  with_reducible refine (TA.cut_any (L9.out.no ((Fr.refl No _).drew)).ta (n : Int)).mono ?_
  rintro e w9 ⟨rfl, ht, hf⟩
  refine ⟨_, rfl, ?_⟩
  have LX := Aside0.mk ((L9.out.no ((Fr.refl No _).drew)).to_at (s' := cutS false (n : Int) (l2).length s) (l' := cutT false (n : Int) (l2)) ht hf)
  have FX := Aside0.mk (F9.out.drew.trans hf (fun k hk => .inl (.inr (.inl hk))))
  clear ht hf
  refine hK.out _ _ ⟨LX.out.lb.cells.1, LX.out.lb.cells.2.2⟩ (fun hHeld => ?_)
  clear hK K
  refine norm_ (a' := ?_) ?_ ?_
  rotate_left
  · show Act.put _ (some 42) _ = _
    simp only [Act.put, List.setIfInBounds_toArray, List.set_cons_zero, List.set_cons_succ, i64_w, i32_w]
    rfl
  refine pure_ (i := 9) (N := some 7) (v := ?_) (a' := ?_) #[true, true, true, true, true, true, true, true, true, true] rfl rfl (by kernel_rfl) (fun _ _ _ h => h) (Or.inl ⟨by rfl, ?_⟩) ?_ ?_
  rotate_left
  · intro w'
    go_simp
    with_reducible rfl
  rotate_left
  · simp only [Act.put, List.setIfInBounds_toArray, List.set_cons_zero, List.set_cons_succ, i64_w, i32_w]
    rfl
  refine done_ (by kernel_rfl) ?_
  rw [HCC.out, errOf_0]
  have LY := LX.out
  rw [HCT.out, HCS.out] at LY
  have LZ := Aside0.mk LY
  clear LX LY z0 z1 z2
  go_wp2_with (fail)
  go_ret
  exact ⟨rfl, A2, c2, LZ.out, FX.out⟩
end


section
variable {ops : Array Oper} {o : Oper} {a : Act} {Kc : Act → World → Prop} {Q : Exit → Act → World → Prop}
/-- append(out, s) as one step of a region that draws. -/
theorem app_row_step {W : World} (base : Nat) (hw : Region.wanted o (yielded ops a.tmps) = true) (s x : Tmp) (ho : o.op = .call { callee := .builtin .append, args := #[.tmp s, .tmp x], argTypes := #[99, 99] })
    (v : Value) (xs : List (List Int)) (p : List Int) (sv : Value) (ok : Nat → Prop) (hs : a.eval (.tmp s) = v) (hx : a.eval (.tmp x) = .slice (some ⟨W.heap.size, 0, none⟩) 1 1) (hp : Kd.R (Kd.int .u8) 5 W base (fun k => ok k ∧ some k ≠ v.ownBlock) sv p)
    (HO : Kd.R KB 47 W base ok v xs) (hfresh : ∀ k, W.heap.size ≤ k → ok k) (hbase : base ≤ W.heap.size) (hl : (xs.length + 1) * 24 ≤ 140737488355328)
    (h : ∀ v1 w1, Kd.R KB 47 w1 base ok v1 (xs ++ [p]) → W.grownBy w1 v.ownBlock → Kc (a.put o.dst v1) w1) : if Region.wanted o (yielded ops a.tmps) = true then Oper.wp Try.prog o a (W.alloc (.cells #[sv] 47)) Kc Q else Kc (a.put o.dst undef) (W.alloc (.cells #[sv] 47)) :=
  Kd.R_append_step KB (w0 := W) base hw (.tmp s) (.tmp x) 99 47 (.slice none 0 0) 24 ho Try.underlying99 info47 rfl KB_sz (by omega) v xs p [sv] ok (fun k => ok k ∧ some k ≠ v.ownBlock) hs hx (KB_M hp) (fun _ hk => hk) hfresh HO (Below.refl _ _) hbase hl (fun v1 w1 h1 _ h2 _ => h v1 w1 h1 h2)
end


end Go.Proofs.Ythlcognpfangkaa

namespace Go.Proofs.Ythlcognpfangkaa
open Go.RowKit Go.Proofs.YthlcognpfangkaaW.PrintWords Go.Proofs.YthlcognpfangkaaW.PrintLast Go.Proofs.YthlcognpfangkaaW.PrintMore
set_option linter.unusedVariables false
set_option linter.unusedSimpArgs false


/-- Another block is written. -/
theorem TA.other {w0 w W : World} {g g2 c t : Nat} {A : Option Addr} {l : List Int} {room s left : Int} {down : Bool} {cells : Array Value} (h : TA w0 w g A c l room s down left) (hf : Fr (At g2) w W) (hb : w.heap[g2]? = some (.cells cells t (0, 0))) (h1 : 135 ≠ t) (h2 : 5 ≠ t) (hge : w0.heap.size ≤ g2) : TA w0 W g A c l room s down left :=
  ⟨hf.blk h.t (fun (e : g = g2) => (blk_ne h.t hb h1) e), hf.Rtyp h.r hb h2, h.ge, h.fr.trans hf (fun k (hk : k = g2) => .inr (by rw [hk]; exact hge))⟩
theorem lapp_new {w0 w w4 : World} {g c b c4 : Nat} {A A4 : Option Addr} {l p : List Int} {room s left : Int} {ok ok' : Nat → Prop} {v : Value} {o : List (List Int)} (ht : TA w0 w g A c l room s false left) (hb : w.drew.heap.size ≤ w4.heap.size) (hr : Kd.R (Kd.int .u8) 5 w4 w.drew.heap.size ok (.slice A4 b c4) p) (ho : Kd.R KB 47 w w0.heap.size ok' v o) :
    Kd.R (Kd.int .u8) 5 w4 w0.heap.size (fun k => some k ≠ (Value.slice A 0 c).ownBlock ∧ some k ≠ v.ownBlock) (.slice A4 b c4) p := by
  refine Kd.R_lower (Kd.R_mono (Kd.R_bound hr) (fun k hk => ⟨fun e => ?_, fun e => ?_⟩)) (show w0.heap.size ≤ w.drew.heap.size from ht.fr.size)
  · have := Kd.R_lt ht.r k (by rw [own_len A c _ 0]; exact e.symm)
    have := hk.2.1
    have h2 : w.drew.heap.size = w.heap.size := rfl
    omega
  · have := Kd.R_lt ho k e.symm
    have := hk.2.1
    have h2 : w.drew.heap.size = w.heap.size := rfl
    omega

section
variable {w0 w : World} {gl g c n s : Nat} {A : Option Addr} {l : List Int} {room left : Int} {v : Value} {o : List (List Int)}
set_option maxHeartbeats 8000000 in
set_option maxRecDepth 100000 in
theorem LA.app3 (h : LA w0 w gl g A c l room s left v n o) {B : Option Addr} {d : Nat} {b : List Int} (hb : Kd.C (Kd.int .u8) w B b.length b) (hd : b.length ≤ d) (hby : isBytes b) (h1 : 1 ≤ b.length) (h2 : b.length ≤ 16384) (hl : left ≤ 9223372036854775807) (hr0 : 0 ≤ room) (hr1 : room ≤ 1048576) (hn : l.length ≤ room) (hno : n ≤ l.length) (hbk : ∀ W, Fr (TS g (.slice A l.length c)) w W → Kd.C (Kd.int .u8) W B b.length b) (hc0 : apC false left room l.length (recL b).length = 0) (hc : callC false (callL false left) = 0) (hol : o.length ≤ 1048576) :
    Calls Try.prog 73 #[.pointer (some ⟨gl, 0, none⟩), .slice B b.length d] w fun e w' => e = .returned .nilIface ∧ ∃ A' c' v', LA w0 w' gl g A' c' (l ++ recL b) room (l ++ recL b).length (callL false (callL false left)) v' (n + (recL b).length) (o ++ [b]) ∧ Fr (LS gl g (.slice A l.length c) v) w w' := by
  have hap : apL (apC false left room l.length (recL b).length) l (recL b) = l ++ recL b := by unfold apL; rw [if_pos hc0]
  have HBK := Aside0.mk hbk
  have HB0 := Aside0.mk (show b.length ≤ 140737488355000 by omega)
  obtain ⟨adb, rfl, _⟩ := hb.2.2 (by omega)
  have HC := Aside0.mk hc
  have HC0 := Aside0.mk hc0
  have hxl0 := recL_length b
  generalize hl2 : l ++ recL b = l2 at hap ⊢
  generalize hx : recL b = x at hap HC0 hxl0 ⊢
  have HX := Aside0.mk hx
  have HXL0 := Aside0.mk hxl0
  clear hx hxl0
  have HAP := Aside0.mk hap
  have HOL := Aside0.mk hol
  clear hap hc hc0 hl2 hol hbk
  have H := Aside0.mk h
  have HB := Aside0.mk hb
  have HD := Aside0.mk hd
  have HBY := Aside0.mk hby
  have hb1 : decide (b.length < 1) = false := decide_eq_false (by omega)
  have hb1i : decide ((b.length : Int) < 1) = false := decide_eq_false (by omega)
  have hb2 : decide (16384 < b.length) = false := decide_eq_false (by omega)
  have hb2i : decide (16384 < (b.length : Int)) = false := decide_eq_false (by omega)
  have hxl := HXL0.out
  have HXL := Aside0.mk hxl
  clear h hb hd hby hxl
  go_enter Try.func73, Try.ntmps73
  go_wp2_with (fail)
  refine (walput_calls w (some adb) d b HB.out HD.out HBY.out (by omega)).mono ?_
  rw [HX.out]
  rintro e w1 ⟨v1, rfl, hr1', hf⟩
  have L1 := Aside0.mk (H.out.no hf)
  have F1 := Aside0.mk hf
  have R1 := Aside0.mk hr1'
  obtain ⟨A1, c1, e1, _, hrd1⟩ := R_out hr1'
  subst e1
  have RD1 := Aside0.mk hrd1
  clear hr1' hf hrd1
  obtain ⟨z0, z1, z2⟩ := L1.out.lb.cells
  go_wp2_with (fail)
  clear z0 z1 z2
  refine (TA.app_any L1.out.ta RD1.out (fun ad e _ hg => Kd.R_ne R1.out L1.out.ta.t (by decide) (by rw [e, ← hg]; rfl)) hl hr0 hr1 hn (by rw [HXL.out]; omega)).mono ?_
  rw [HAP.out, HC0.out, errOf_0]
  rintro e w2 ⟨rfl, A2, c2, ht, hf, hs⟩
  have L2 := Aside0.mk (L1.out.to ht hf hs)
  have F2 := Aside0.mk (F1.out.mono (S2 := TS g (.slice A l.length c)) (fun _ h => h.elim) |>.trans hf (fun k hk => .inl hk))
  clear ht hf hs
  obtain ⟨z0, z1, z2⟩ := L2.out.lb.cells
  go_wp2_with (fail)
  refine (TA.sync_any L2.out.ta (callL_le hl)).mono ?_
  rw [HC.out, if_pos rfl, errOf_0]
  rintro e w3 ⟨rfl, ht, hf⟩
  have L3 := Aside0.mk (L2.out.to_at ht hf)
  have F3 := Aside0.mk (F2.out.trans hf (fun k hk => .inl (.inl hk)))
  have CB := Aside0.mk (HBK.out _ F3.out.drew)
  clear ht hf z0 z1 z2 L2
  obtain ⟨AV, cvv, ev⟩ := Kd.R_slice L3.out.r
  subst ev
  obtain ⟨z0, z1, z2⟩ := L3.out.lb.cells
  have hsum : IntKind.i64.wrap ((n : Int) + x.length) = n + x.length := IntWalk.i64_in _ (by have := HXL0.out; omega)
  go_wp2_with (fail)
  refine start_ (n := 23) (S := fun w' => w'.cell? ⟨gl, 1, none⟩ = some (.slice AV o.length cvv) ∧ w'.cell? ⟨gl, 2, none⟩ = some (.int .i64 (n : Int))) (ds := [19, 22]) #[false, false, false, false, false, false, false, false, false, false, false, false, false, false, false, false, false, false, false, false, false, false, false] (by kernel_rfl) rfl rfl ⟨z1, z2⟩ (fun hHeld => ?_)
  refine pure_ (i := 0) (N := some 47) (v := ?_) (a' := ?_) #[true, false, false, false, false, false, false, false, false, false, false, false, false, false, false, false, false, false, false, false, false, false, false] rfl rfl (by kernel_rfl) (fun _ _ _ h => h) (Or.inl ⟨by rfl, ?_⟩) ?_ ?_
  rotate_left
  · intro w'
    go_simp
    with_reducible rfl
  rotate_left
  · simp only [Act.put, List.setIfInBounds_toArray, List.set_cons_zero, List.set_cons_succ, i64_w, i32_w]
    rfl
  refine pure_ (i := 1) (N := some 48) (v := ?_) (a' := ?_) #[true, true, false, false, false, false, false, false, false, false, false, false, false, false, false, false, false, false, false, false, false, false, false] rfl rfl (by kernel_rfl) (fun _ _ _ h => h) (Or.inl ⟨by rfl, ?_⟩) ?_ ?_
  rotate_left
  · intro w'
    go_simp
    with_reducible rfl
  rotate_left
  · simp only [Act.put, List.setIfInBounds_toArray, List.set_cons_zero, List.set_cons_succ, i64_w, i32_w]
    rfl
  refine pure_ (i := 2) (N := some 49) (v := ?_) (a' := ?_) #[true, true, true, false, false, false, false, false, false, false, false, false, false, false, false, false, false, false, false, false, false, false, false] rfl rfl (by kernel_rfl) (fun _ _ _ h => h) (Or.inl ⟨by rfl, ?_⟩) ?_ ?_
  rotate_left
  · intro w'
    go_simp
    with_reducible rfl
  rotate_left
  · simp only [Act.put, List.setIfInBounds_toArray, List.set_cons_zero, List.set_cons_succ, i64_w, i32_w]
    rfl
  refine pure_ (i := 3) (N := some 50) (v := ?_) (a' := ?_) #[true, true, true, true, false, false, false, false, false, false, false, false, false, false, false, false, false, false, false, false, false, false, false] rfl rfl (by kernel_rfl) (fun _ _ _ h => h) (Or.inl ⟨by rfl, ?_⟩) ?_ ?_
  rotate_left
  · intro w'
    go_simp
    with_reducible rfl
  rotate_left
  · simp only [Act.put, List.setIfInBounds_toArray, List.set_cons_zero, List.set_cons_succ, i64_w, i32_w]
    rfl
  refine pure_ (i := 4) (N := some 51) (v := ?_) (a' := ?_) #[true, true, true, true, true, false, false, false, false, false, false, false, false, false, false, false, false, false, false, false, false, false, false] rfl rfl (by kernel_rfl) (fun _ _ _ h => h) (Or.inl ⟨by rfl, ?_⟩) ?_ ?_
  rotate_left
  · intro w'
    go_simp
    with_reducible rfl
  rotate_left
  · simp only [Act.put, List.setIfInBounds_toArray, List.set_cons_zero, List.set_cons_succ, i64_w, i32_w]
    rfl
  refine pure_ (i := 6) (N := some 53) (v := ?_) (a' := ?_) #[true, true, true, true, true, false, true, false, false, false, false, false, false, false, false, false, false, false, false, false, false, false, false] rfl rfl (by kernel_rfl) (fun _ _ _ h => h) (Or.inl ⟨by rfl, ?_⟩) ?_ ?_
  rotate_left
  · intro w'
    go_simp
    with_reducible rfl
  rotate_left
  · simp only [Act.put, List.setIfInBounds_toArray, List.set_cons_zero, List.set_cons_succ, i64_w, i32_w]
    rfl
  refine pure_ (i := 10) (N := some 57) (v := ?_) (a' := ?_) #[true, true, true, true, true, false, true, false, false, false, true, false, false, false, false, false, false, false, false, false, false, false, false] rfl rfl (by kernel_rfl) (fun _ _ _ h => h) (Or.inl ⟨by rfl, ?_⟩) ?_ ?_
  rotate_left
  · intro w'
    go_simp
    with_reducible rfl
  rotate_left
  · simp only [Act.put, List.setIfInBounds_toArray, List.set_cons_zero, List.set_cons_succ, i64_w, i32_w]
    rfl
  refine pure_ (i := 11) (N := some 58) (v := ?_) (a' := ?_) #[true, true, true, true, true, false, true, false, false, false, true, true, false, false, false, false, false, false, false, false, false, false, false] rfl rfl (by kernel_rfl) (fun _ _ _ h => h) (Or.inl ⟨by rfl, ?_⟩) ?_ ?_
  rotate_left
  · intro w'
    go_simp
    with_reducible rfl
  rotate_left
  · simp only [Act.put, List.setIfInBounds_toArray, List.set_cons_zero, List.set_cons_succ, i64_w, i32_w]
    rfl
  refine pure_ (i := 12) (N := some 59) (v := ?_) (a' := ?_) #[true, true, true, true, true, false, true, false, false, false, true, true, true, false, false, false, false, false, false, false, false, false, false] rfl rfl (by kernel_rfl) (fun _ _ _ h => h) (Or.inl ⟨by rfl, ?_⟩) ?_ ?_
  rotate_left
  · intro w'
    go_simp
    with_reducible rfl
  rotate_left
  · simp only [Act.put, List.setIfInBounds_toArray, List.set_cons_zero, List.set_cons_succ, i64_w, i32_w]
    rfl
  refine pure_ (i := 14) (N := some 61) (v := ?_) (a' := ?_) #[true, true, true, true, true, false, true, false, false, false, true, true, true, false, true, false, false, false, false, false, false, false, false] rfl rfl (by kernel_rfl) (fun _ _ _ h => h) (Or.inl ⟨by rfl, ?_⟩) ?_ ?_
  rotate_left
  · intro w'
    go_simp
    with_reducible rfl
  rotate_left
  · simp only [Act.put, List.setIfInBounds_toArray, List.set_cons_zero, List.set_cons_succ, i64_w, i32_w]
    rfl
  refine pure_ (i := 15) (N := some 62) (v := ?_) (a' := ?_) #[true, true, true, true, true, false, true, false, false, false, true, true, true, false, true, true, false, false, false, false, false, false, false] rfl rfl (by kernel_rfl) (fun _ _ _ h => h) (Or.inl ⟨by rfl, ?_⟩) ?_ ?_
  rotate_left
  · intro w'
    go_simp
    with_reducible rfl
  rotate_left
  · simp only [Act.put, List.setIfInBounds_toArray, List.set_cons_zero, List.set_cons_succ, i64_w, i32_w]
    rfl
  refine take_ (i := 5) (N := some 52) (v := ?_) (a' := ?_) #[true, true, true, true, true, true, true, false, false, false, true, true, true, false, true, true, false, false, false, false, false, false, false] rfl rfl (by kernel_rfl) (fun _ _ _ h => h) (Or.inl ⟨by rfl, ?_⟩) hHeld ?_ ?_
  rotate_left
  · rintro w' ⟨s0, s1⟩
    go_simp
    with_reducible rfl
  rotate_left
  · simp only [Act.put, List.setIfInBounds_toArray, List.set_cons_zero, List.set_cons_succ, i64_w, i32_w]
    rfl
  refine take_ (i := 13) (N := some 60) (v := ?_) (a' := ?_) #[true, true, true, true, true, true, true, false, false, false, true, true, true, true, true, true, false, false, false, false, false, false, false] rfl rfl (by kernel_rfl) (fun _ _ _ h => h) (Or.inl ⟨by rfl, ?_⟩) hHeld ?_ ?_
  rotate_left
  · rintro w' ⟨s0, s1⟩
    go_simp
    with_reducible rfl
  rotate_left
  · simp only [Act.put, List.setIfInBounds_toArray, List.set_cons_zero, List.set_cons_succ, i64_w, i32_w]
    rfl
  refine pure_ (i := 16) (N := some 63) (v := ?_) (a' := ?_) #[true, true, true, true, true, true, true, false, false, false, true, true, true, true, true, true, true, false, false, false, false, false, false] rfl rfl (by kernel_rfl) (fun _ _ _ h => h) (Or.inl ⟨by rfl, ?_⟩) ?_ ?_
  rotate_left
  · intro w'
    go_simp
    with_reducible rfl
  rotate_left
  · simp only [Act.put, List.setIfInBounds_toArray, List.set_cons_zero, List.set_cons_succ, i64_w, i32_w]
    rfl
  refine one_ (i := 7) (N := some 54) #[true, true, true, true, true, true, true, true, false, false, true, true, true, true, true, true, true, false, false, false, false, false, false] rfl rfl (by kernel_rfl) (by decide) (fun K hK => ?_)
  refine goes_ Try.func92 (by kernel_rfl) rfl #[.slice (some adb) b.length d] (by rfl) rfl rfl (by simp only [List.map_toArray, List.map_cons, List.map_nil]; rfl) ?_
  with_reducible refine (clone_some _ adb d b CB.out HB0.out).mono ?_
  rintro e w4 ⟨v4, rfl, hr4, hf4⟩
  refine ⟨_, rfl, ?_⟩
  have L4 := Aside0.mk ((L3.out.no (Fr.refl No _).drew).no hf4)
  have R4 := Aside0.mk hr4
  have B4 := Aside0.mk hf4.size
  have F4 := Aside0.mk ((F3.out.mono (S2 := LS gl g (.slice A l.length c) (.slice AV o.length cvv)) (fun k hk => LS_of_TS hk)).drew.trans hf4 (fun _ h => h.elim))
  obtain ⟨A4, c4, e4⟩ := Kd.R_slice hr4
  subst e4
  clear hr4 hf4
  refine hK.out _ _ ⟨L4.out.lb.cells.2.1, L4.out.lb.cells.2.2⟩ (fun hHeld => ?_)
  clear hK K
  refine norm_ (a' := ?_) ?_ ?_
  rotate_left
  · show Act.put _ (some 54) _ = _
    simp only [Act.put, List.setIfInBounds_toArray, List.set_cons_zero, List.set_cons_succ, i64_w, i32_w]
    rfl
  refine one_ (i := 8) (N := some 55) #[true, true, true, true, true, true, true, true, true, false, true, true, true, true, true, true, true, false, false, false, false, false, false] rfl rfl (by kernel_rfl) (by decide) (fun K hK => ?_)
  refine value_ (w1 := ?_) (v := ?_) (by rfl) rfl ?_ ?_
  rotate_left 2
  · go_simp
    constructor
    · rfl
    · rfl
  refine hK.out _ _ ⟨(L4.out.no ((Fr.refl No _).alloc _)).lb.cells.2.1, (L4.out.no ((Fr.refl No _).alloc _)).lb.cells.2.2⟩ (fun hHeld => ?_)
  clear hK K
  refine norm_ (a' := ?_) ?_ ?_
  rotate_left
  · show Act.put _ (some 55) _ = _
    simp only [Act.put, List.setIfInBounds_toArray, List.set_cons_zero, List.set_cons_succ, i64_w, i32_w]
    rfl
  refine one_ (i := 9) (N := some 56) #[true, true, true, true, true, true, true, true, true, true, true, true, true, true, true, true, true, false, false, false, false, false, false] rfl rfl (by kernel_rfl) (by decide) (fun K hK => ?_)
  refine app_row_step w0.heap.size (by rfl) 52 55 (by rfl) (.slice AV o.length cvv) o b (.slice A4 b.length c4) (fun k => some k ≠ (Value.slice A2 0 c2).ownBlock) (by rfl) (by rfl) (lapp_new L3.out.ta B4.out R4.out L3.out.r) L4.out.r (fun k hk e => by have := Kd.R_lt L4.out.ta.r k (by rw [own_len A2 c2 _ 0]; exact e.symm); omega) L4.out.ta.fr.size (by have := HOL.out; omega) ?_
  intro v5 w5 hr5 hg5
  have T5 := Aside0.mk (L4.out.ta.away hg5 (Kd.R_ne L4.out.r L4.out.ta.t (by decide)) (fun k hk e => L4.out.r.1 k hk (by rw [own_len A2 c2 0 l2.length]; exact e.symm)) (fun k hk => Kd.R_base L4.out.r k hk))
  have B5 := Aside0.mk (show Lb w5 gl g (.slice AV o.length cvv) n from blk_grown L4.out.lb hg5 (Kd.R_ne L4.out.r L4.out.lb (by decide)))
  have F5 := Aside0.mk (F4.out.grown hg5 (fun k hk => .inl (.inr (.inr (.inr hk)))))
  have R5 := Aside0.mk hr5
  obtain ⟨A5, c5, e5⟩ := Kd.R_slice hr5
  rw [List.length_append, List.length_singleton] at e5
  subst e5
  obtain ⟨y0, y1, y2⟩ := B5.out.cells
  obtain ⟨f1, f2⟩ := B5.out.free
  clear hr5 hg5 y0
  refine hK.out _ _ ⟨B5.out.cells.2.1, B5.out.cells.2.2⟩ (fun hHeld => ?_)
  clear hK K
  refine norm_ (a' := ?_) ?_ ?_
  rotate_left
  · show Act.put _ (some 56) _ = _
    simp only [Act.put, List.setIfInBounds_toArray, List.set_cons_zero, List.set_cons_succ, i64_w, i32_w]
    rfl
  refine pure_ (i := 17) (N := some 64) (v := ?_) (a' := ?_) #[true, true, true, true, true, true, true, true, true, true, true, true, true, true, true, true, true, true, false, false, false, false, false] rfl rfl (by kernel_rfl) (fun _ _ _ h => h) (Or.inl ⟨by rfl, ?_⟩) ?_ ?_
  rotate_left
  · intro w'
    go_simp
    with_reducible rfl
  rotate_left
  · simp only [Act.put, List.setIfInBounds_toArray, List.set_cons_zero, List.set_cons_succ, i64_w, i32_w]
    rfl
  refine pure_ (i := 18) (N := some 65) (v := ?_) (a' := ?_) #[true, true, true, true, true, true, true, true, true, true, true, true, true, true, true, true, true, true, true, false, false, false, false] rfl rfl (by kernel_rfl) (fun _ _ _ h => h) (Or.inl ⟨by rfl, ?_⟩) ?_ ?_
  rotate_left
  · intro w'
    go_simp
    with_reducible rfl
  rotate_left
  · simp only [Act.put, List.setIfInBounds_toArray, List.set_cons_zero, List.set_cons_succ, i64_w, i32_w]
    rfl
  refine last_ (i := 19) (N := none) #[true, true, true, true, true, true, true, true, true, true, true, true, true, true, true, true, true, true, true, true, false, false, false] rfl rfl (by kernel_rfl) (by decide) (fun K hK => ?_)
  refine skip_ (w1 := ?_) (by rfl) rfl ?_ ?_
  rotate_left
  · go_simp
    rfl
  refine hK.out _ _ ?_
  clear hK K
  refine pure_ (i := 20) (N := some 66) (v := ?_) (a' := ?_) #[true, true, true, true, true, true, true, true, true, true, true, true, true, true, true, true, true, true, true, true, true, false, false] rfl rfl (by kernel_rfl) (fun _ _ _ h => h) (Or.inl ⟨by rfl, ?_⟩) ?_ ?_
  rotate_left
  · intro w'
    go_simp
    with_reducible rfl
  rotate_left
  · simp only [Act.put, List.setIfInBounds_toArray, List.set_cons_zero, List.set_cons_succ, i64_w, i32_w]
    rfl
  refine pure_ (i := 21) (N := some 67) (v := ?_) (a' := ?_) #[true, true, true, true, true, true, true, true, true, true, true, true, true, true, true, true, true, true, true, true, true, true, false] rfl rfl (by kernel_rfl) (fun _ _ _ h => h) (Or.inl ⟨by rfl, ?_⟩) ?_ ?_
  rotate_left
  · intro w'
    go_simp
    with_reducible rfl
  rotate_left
  · simp only [Act.put, List.setIfInBounds_toArray, List.set_cons_zero, List.set_cons_succ, i64_w, i32_w]
    rfl
  refine last_ (i := 22) (N := none) #[true, true, true, true, true, true, true, true, true, true, true, true, true, true, true, true, true, true, true, true, true, true, true] rfl rfl (by kernel_rfl) (by decide) (fun K hK => ?_)
  refine skip_ (w1 := ?_) (by rfl) rfl ?_ ?_
  rotate_left
  · go_simp
    rfl
  refine hK.out _ _ ?_
  clear hK K
  refine done_ (by kernel_rfl) ?_
  clear hsum
  go_wp2_with (fail)
  go_ret
  have FS := ((Fr.refl (At gl) w5).setAt 1 (.slice A5 (o.length + 1) c5)).setAt 2 (.int .i64 ((n : Int) + x.length))
  refine ⟨rfl, A2, c2, _, ⟨T5.out.other FS B5.out (by decide) (by decide) L3.out.ge, ?_, L3.out.ge, Kd.R_set (Kd.R_set R5.out B5.out (by intro q hq; simp [Kd.slice, Kd.int, Kd.scalar] at hq; omega) 1 _) (B5.out.set1 _) (by intro q hq; simp [Kd.slice, Kd.int, Kd.scalar] at hq; omega) 2 _⟩, F5.out.trans FS (fun k (hk : k = gl) => .inl (.inl hk))⟩
  rw [Int.natCast_add]
  exact (B5.out.set1 _).set2 _
end


end Go.Proofs.Ythlcognpfangkaa
