/- The walk of the law TapePlays: it returns true (the deeds' cells readable, each integer in its range). -/
import Derived.Test.YthlcognpfangkaaTq
import Derived.Test.YthlcognpfangkaaOp
import Derived.ChangeSlices
namespace Go.Proofs.Ythlcognpfangkaa
open Go.RowKit Go.Proofs.YthlcognpfangkaaW.PrintWords Go.Proofs.YthlcognpfangkaaW.PrintLast Go.Proofs.YthlcognpfangkaaW.PrintMore
set_option linter.unusedVariables false
set_option linter.unusedSimpArgs false

/-- What the walk is told of the deeds. -/
def DeedRow (w : World) (A : Option Addr) (n : Nat) (Wh N : Nat → Int) (Up : Nat → Bool) (X : Nat → Option Addr × Nat × List Int) : Prop :=
  ∀ k, k < n → (∃ ad, A = some ad ∧ w.cell? (ad.add (k * 4)) = some (.int .i64 (Wh k)) ∧ w.cell? (ad.add (k * 4 + 1)) = some (.int .i64 (N k)) ∧ w.cell? (ad.add (k * 4 + 2)) = some (.bool (Up k)) ∧ w.cell? (ad.add (k * 4 + 3)) = some (.slice (X k).1 (X k).2.2.length (X k).2.1)) ∧
    Kd.C (Kd.int .u8) w (X k).1 (X k).2.2.length (X k).2.2 ∧ (X k).2.2.length ≤ 9223372036854775807 ∧ (-9223372036854775808 ≤ Wh k ∧ Wh k ≤ 9223372036854775807) ∧ (-9223372036854775808 ≤ N k ∧ N k ≤ 9223372036854775807)

theorem deed_open {H : Type} {enc : TypeId × Value → H} {w : World} {base : Nat} {held : Bool} {a : Option Addr} {len cap : Nat} {d : DataW H} {pl : List MemPlace} (h : DataW.Trod enc Try.prog w base (fun _ => true) held 89 (.slice a len cap) d pl) :
    ∃ (Wh N : Nat → Int) (Up : Nat → Bool) (X : Nat → Option Addr × Nat × List Int), DeedRow w a len Wh N Up X ∧ len ≤ 9223372036854775807 := by
  obtain ⟨fuel, hf⟩ := h
  rcases open_rows Try.underlying89 Try.underlying94 4 (by kernel_rfl) hf with hcs | ⟨x, l, c, hcs, hl, hm, hi⟩
  · simp [Value.cells] at hcs
    obtain ⟨rfl, rfl, rfl⟩ := hcs
    exact ⟨fun _ => 0, fun _ => 0, fun _ => true, fun _ => (none, 0, []), fun k hk => absurd hk (by omega), by omega⟩
  · simp [Value.cells] at hcs
    obtain ⟨rfl, rfl, rfl⟩ := hcs
    unfold maxLen at hm
    have c4 : 0 < Try.prog.cellsOf 4 := by
      have h : Try.prog.cellsOf 4 = 1 := by kernel_rfl
      omega
    have c3 : 0 < Try.prog.cellsOf 3 := by
      have h : Try.prog.cellsOf 3 = 1 := by kernel_rfl
      omega
    have c47 : 0 < Try.prog.cellsOf 47 := by
      have h : Try.prog.cellsOf 47 = 1 := by kernel_rfl
      omega
    obtain ⟨T, hT⟩ := pick_each (α := Int) (n := len) (p := fun k v => w.cell? (x.add (k * 4)) = some (.int .i64 v) ∧ (Lit.int .i64 v).wf = true) (fun k hk => by
      obtain ⟨q, y, n, h1, h2⟩ := hi k hk 0 _ rfl
      obtain ⟨v, hv, hw⟩ := one_int Try.underlying3 h2
      exact ⟨v, (h1 0 c3 (by decide)).trans hv, hw⟩)
    obtain ⟨N, hN⟩ := pick_each (α := Int) (n := len) (p := fun k v => w.cell? (x.add (k * 4 + 1)) = some (.int .i64 v) ∧ (Lit.int .i64 v).wf = true) (fun k hk => by
      obtain ⟨q, y, n, h1, h2⟩ := hi k hk 1 _ rfl
      obtain ⟨v, hv, hw⟩ := one_int Try.underlying3 h2
      exact ⟨v, (h1 0 c3 (by decide)).trans hv, hw⟩)
    obtain ⟨U, hU⟩ := pick_each (α := Bool) (n := len) (p := fun k v => w.cell? (x.add (k * 4 + 2)) = some (.bool v)) (fun k hk => by
      obtain ⟨q, y, n, h1, h2⟩ := hi k hk 2 _ rfl
      obtain ⟨v, hv⟩ := one_bool Try.underlying4 h2
      exact ⟨v, (h1 0 c4 (by decide)).trans hv⟩)
    obtain ⟨X, hX⟩ := pick_each (α := Option Addr × Nat × List Int) (n := len) (p := fun k v => w.cell? (x.add (k * 4 + 3)) = some (.slice v.1 v.2.2.length v.2.1) ∧ Kd.C (Kd.int .u8) w v.1 v.2.2.length v.2.2 ∧ v.2.2.length ≤ 9223372036854775807) (fun k hk => by
      obtain ⟨q, y, n, h1, h2⟩ := hi k hk 3 _ rfl
      have h3 := h1 0 c47 (by decide)
      rcases Go.ChangeShapes.open_ints Try.underlying47 Try.underlying5 (by kernel_rfl) h2 with ⟨hcs, _⟩ | ⟨xa, l, c, zs, hcs, _, hl, hm, hz, _, hcell, hwz⟩
      · rw [hcs] at h3
        exact ⟨(none, 0, []), h3, ⟨rfl, by simp, fun hn => absurd hn (by simp)⟩, by simp⟩
      · rw [hcs] at h3
        unfold maxLen at hm
        have hrow : IsRow .u8 w (some xa) l c zs := .inr ⟨_, rfl, hl, by unfold maxLen; exact hm, by simpa using hz, hcell, hwz⟩
        obtain ⟨ys, rfl, hr, hc, _⟩ := hrow.reads
        exact ⟨(some xa, c, ys), h3, hr, by show ys.length ≤ _; omega⟩)
    exact ⟨T, N, U, X, fun k hk => ⟨⟨x, rfl, (hT k hk).1, (hN k hk).1, hU k hk, (hX k hk).1⟩, (hX k hk).2.1, (hX k hk).2.2, bounds_i64 (hT k hk).2, bounds_i64 (hN k hk).2⟩, by omega⟩

set_option maxRecDepth 100000 in
theorem plays_no (w : World) (room : Int) (A : Option Addr) (n c : Nat) (h : room < 1 ∨ 1048576 < room) :
    Calls Try.prog 13 #[.int .i64 room, .slice A n c] w fun e w' => e = .returned (.bool true) ∧ Fr No w w' := by
  have H := Aside0.mk h
  by_cases h1 : room < 1
  · have hb : decide (room < 1) = true := decide_eq_true h1
    clear h
    go_enter Try.func13, Try.ntmps13
    go_wp2_with (first | (go_at_call 53; refine (up07 _).mono ?_; rintro e w1 ⟨rfl, hf⟩; have HF := Aside0.mk hf; clear hf) | (go_at_call 54; refine (tnew_no _ room H.out).mono ?_; rintro e w2 ⟨rfl, rfl⟩))
    go_ret
    exact ⟨rfl, HF.out⟩
  · have hb : decide (room < 1) = false := decide_eq_false h1
    have hb2 : decide (1048576 < room) = true := decide_eq_true (by omega)
    clear h
    go_enter Try.func13, Try.ntmps13
    go_wp2_with (first | (go_at_call 53; refine (up07 _).mono ?_; rintro e w1 ⟨rfl, hf⟩; have HF := Aside0.mk hf; clear hf) | (go_at_call 54; refine (tnew_no _ room H.out).mono ?_; rintro e w2 ⟨rfl, rfl⟩))
    go_ret
    exact ⟨rfl, HF.out⟩
set_option maxRecDepth 100000 in
theorem plays_long (w : World) (room : Int) (A : Option Addr) (n c : Nat) (h1 : 1 ≤ room) (h2 : room ≤ 1048576) (hn : 100 < n) (hm : n ≤ 9223372036854775807) :
    Calls Try.prog 13 #[.int .i64 room, .slice A n c] w fun e w' => e = .returned (.bool true) ∧ Fr No w w' := by
  have hb : decide (room < 1) = false := decide_eq_false (by omega)
  have hb2 : decide (1048576 < room) = false := decide_eq_false (by omega)
  have hb3 : decide (100 < n) = true := decide_eq_true hn
  have hb4 : decide (100 < (n : Int)) = true := decide_eq_true (by omega)
  go_enter Try.func13, Try.ntmps13
  go_wp2_with (first | (go_at_call 53; refine (up07 _).mono ?_; rintro e w1 ⟨rfl, hf⟩; have HF := Aside0.mk hf; clear hf) | (go_at_call 54; refine (TA.new HF.out room h1 h2).mono ?_; rintro e w2 ⟨g, rfl, ht⟩; have HG := Aside0.mk ht.fr; clear ht))
  go_ret
  exact ⟨rfl, HG.out⟩

/-- The local variable's block of a deed. -/
def Xb (w : World) (g : Nat) (wh n : Int) (up : Bool) (B : Option Addr) (m c : Nat) : Prop := w.heap[g]? = some (.cells #[.int .i64 wh, .int .i64 n, .bool up, .slice B m c] 94 (0, 0))
theorem Xb.cells {w : World} {g : Nat} {wh n : Int} {up : Bool} {B : Option Addr} {m c : Nat} (h : Xb w g wh n up B m c) : w.cell? ⟨g, 0, none⟩ = some (.int .i64 wh) ∧ w.cell? ⟨g, 1, none⟩ = some (.int .i64 n) ∧ w.cell? ⟨g, 2, none⟩ = some (.bool up) ∧ w.cell? ⟨g, 3, none⟩ = some (.slice B m c) :=
  ⟨(blk_cell h 0).trans rfl, (blk_cell h 1).trans rfl, (blk_cell h 2).trans rfl, (blk_cell h 3).trans rfl⟩

set_option maxHeartbeats 8000000 in
set_option maxRecDepth 100000 in
theorem plays_main (w : World) (room : Int) (A : Option Addr) (n c : Nat) (Wh N : Nat → Int) (Up : Nat → Bool) (X : Nat → Option Addr × Nat × List Int) (hr : DeedRow w A n Wh N Up X) (h1 : 1 ≤ room) (h2 : room ≤ 1048576) (hn : n ≤ 100) :
    Calls Try.prog 13 #[.int .i64 room, .slice A n c] w fun e w' => e = .returned (.bool true) ∧ Fr No w w' := by
  have hb : decide (room < 1) = false := decide_eq_false (by omega)
  have hb2 : decide (1048576 < room) = false := decide_eq_false (by omega)
  have hb3 : decide (100 < n) = false := decide_eq_false (by omega)
  have hb4 : decide (100 < (n : Int)) = false := decide_eq_false (by omega)
  have HR := Aside0.mk hr
  have hu92 := Try.underlying92
  have hu94 := Try.underlying94
  clear hr
  go_enter Try.func13, Try.ntmps13
  go_wp2_with (fail)
  refine (up07 _).mono ?_
  rintro e w1 ⟨rfl, hf⟩
  have F1 := Aside0.mk hf
  clear hf
  go_wp2_with (fail)
  refine (TA.new F1.out room h1 h2).mono ?_
  rintro e w2 ⟨g, rfl, ht⟩
  have T2 := Aside0.mk ht
  clear ht F1
  go_wp2_with (fail)
  have T3 := Aside0.mk (T2.out.no ((Fr.refl No w2).alloc (.cells #[.int .i64 room, .int .i64 0, .int .i64 (-1), .string ⟨#[]⟩, .bool false] 92)))
  have R3 := Aside0.mk (show RL (w2.alloc (.cells #[.int .i64 room, .int .i64 0, .int .i64 (-1), .string ⟨#[]⟩, .bool false] 92)) w2.heap.size room 0 (-1) [] false from blk_new w2 _)
  have G3 := Aside0.mk (show w.heap.size ≤ w2.heap.size from T2.out.fr.size)
  generalize w2.alloc (.cells #[.int .i64 room, .int .i64 0, .int .i64 (-1), .string ⟨#[]⟩, .bool false] 92) = w3 at T3 R3 ⊢
  generalize w2.heap.size = g2 at R3 G3 ⊢
  clear T2 hb hb2 hb3 hb4
  go_loopg [9] n (fun kq v9 w' => ∃ (k s : Nat) (A' : Option Addr) (c' : Nat) (l : List Int) (left : Int) (down : Bool), k + kq = n ∧ v9 = .int .i64 k ∧ Aside0 (TA w w' g A' c' l room s down left) ∧ Aside0 (RL w' g2 room s left l down) ∧ Aside0 (s ≤ l.length ∧ l.length ≤ room ∧ left ≤ 9223372036854775807))
  case atStart => exact ⟨0, 0, none, 0, [], -1, false, by omega, rfl, T3, R3, ⟨by simp; omega⟩⟩
  case round =>
    clear T3 R3
    obtain ⟨k, s, A1, c1, l, left, down, hk, rfl, TT, RR, BB⟩ := hrel
    by_cases hlt : k < n
    · obtain ⟨⟨ad, rfl, q0, q1, q2, q3⟩, hxc, hxl, hwr, hnr⟩ := HR.out k hlt
      have p0 := pw_cell_below TT.out.fr.no q0
      have p1 := pw_cell_below TT.out.fr.no q1
      have p2 := pw_cell_below TT.out.fr.no q2
      have p3 := pw_cell_below TT.out.fr.no q3
      have XC := Aside0.mk hxc
      have XR := Aside0.mk (And.intro hwr hnr)
      generalize Wh k = wh at p0 XR
      generalize N k = nn at p1 XR
      generalize Up k = up at p2
      generalize X k = x at p3 XC hxl
      obtain ⟨B, cx, m⟩ := x
      clear q0 q1 q2 q3 hxc hwr hnr
      rw [add_field _ _ 1 (by omega)] at p1
      rw [add_field _ _ 2 (by omega)] at p2
      rw [add_field _ _ 3 (by omega)] at p3
      dsimp only at p3 XC hxl
      have hix : (0 : Int) ≤ k := by omega
      have hix2 : (k : Int) < n := by omega
      by_cases hm : 500 < m.length
      · have hb5 : decide (500 < m.length) = true := decide_eq_true hm
        have hb6 : decide (500 < (m.length : Int)) = true := decide_eq_true (by omega)
        go_wp2
        go_ret
        exact ⟨rfl, TT.out.fr.alloc _⟩
      have hb5 : decide (500 < m.length) = false := decide_eq_false hm
      have hb6 : decide (500 < (m.length : Int)) = false := decide_eq_false (by omega)
      go_wp2_with (first | ((with_reducible refine gate_dst (N := 77) rfl ?_); refine lit_bytes (wr.alloc (.cells #[.int .i64 wh, .int .i64 nn, .bool up, .slice B m.length cx] 94)).heap.size rfl 77 rfl (fun _ => True) ?hr trivial (Nat.le_refl _) ?_; (case hr => first | (go_simp; done) | (go_simp; rfl)); intro v3 w5 hr5 hg5 _; have O5 := Aside0.mk hr5; have F5 := Aside0.mk (Fr.new hg5); have X5 := Aside0.mk (show Xb w5 wr.heap.size wh nn up B m.length cx from (Fr.new hg5).blk (blk_new wr _) (fun h => h.elim)); obtain ⟨y0, y1, y2, y3⟩ := X5.out.cells; clear hr5 hg5) | ((with_reducible refine gate_builtin (b := .append) (xs := #[.tmp 77, .tmp 79]) rfl ?_); at_builtin; refine app_bytes (wr.alloc (.cells #[.int .i64 wh, .int .i64 nn, .bool up, .slice B m.length cx] 94)).heap.size rfl 77 79 rfl v3 [] m B m.length cx (fun _ => True) rfl rfl O5.out (C_on XC.out (TT.out.fr.on (((Fr.refl No wr).alloc _).on F5.out))) (fun _ _ => trivial) F5.out.size ?hl ?_; (case hl => simp; omega); intro v4 w6 hr6 hg6 _; rw [List.nil_append] at hr6; have F6 := Aside0.mk (F5.out.own O5.out (Nat.le_refl _) hg6); obtain ⟨A4, c4, e4, _, _⟩ := R_out hr6; subst e4; have O6 := Aside0.mk hr6; have X6 := Aside0.mk (show Xb w6 wr.heap.size wh nn up B m.length cx from F6.out.blk (blk_new wr _) (fun h => h.elim)); clear hr6 hg6 y0 y1 y2 y3; obtain ⟨y0, y1, y2, y3⟩ := X6.out.cells))
      have FW := Aside0.mk (((Fr.refl No wr).alloc (.cells #[.int .i64 wh, .int .i64 nn, .bool up, .slice B m.length cx] 94)).on F6.out)
      have T6 := Aside0.mk (TT.out.no FW.out)
      have R6 := Aside0.mk (show RL w6 g2 room s left l down from FW.out.blk RR.out (fun h => h.elim))
      have D6 := Aside0.mk (show ∀ q, (Value.slice A4 m.length c4).ownBlock = some q → (Value.slice A1 l.length c1).ownBlock ≠ some q from fun q hq hq2 => by
        have h8 := Kd.R_base O6.out q hq
        have h9 := Kd.R_lt TT.out.r q hq2
        have := ((Fr.refl No wr).alloc (.cells #[.int .i64 wh, .int .i64 nn, .bool up, .slice B m.length cx] 94)).size
        omega)
      have HBS := Aside0.mk (show w.heap.size ≤ (wr.alloc (.cells #[.int .i64 wh, .int .i64 nn, .bool up, .slice B m.length cx] 94)).heap.size from Nat.le_trans TT.out.fr.size ((Fr.refl No wr).alloc _).size)
      clear F5 X5 O5 F6 TT RR FW p0 p1 p2 p3
      generalize (wr.alloc (.cells #[.int .i64 wh, .int .i64 nn, .bool up, .slice B m.length cx] 94)).heap.size = bs at O6 HBS
      generalize wr.heap.size = gx at X6 y0 y1 y2 y3 ⊢
      refine (pick_calls w6 wh XR.out.1.1 XR.out.1.2).mono ?_
      rintro e w7 ⟨r, hr6, rfl, rfl⟩
      have hBg : ∀ ad, A4 = some ad → 0 < m.length → ad.block ≠ g := fun ad e _ hg => Kd.R_ne O6.out T6.out.t (by decide) (by rw [e, ← hg]; rfl)
      have HBG := Aside0.mk hBg
      clear hBg
      obtain rfl | rfl | rfl | rfl | rfl | rfl : r = 0 ∨ r = 1 ∨ r = 2 ∨ r = 3 ∨ r = 4 ∨ r = 5 := by omega
      · skip
        go_wp2_with (fail)
        refine (TA.app_any T6.out (Kd.R_reads' O6.out).2.2 HBG.out BB.out.2.2 (by omega) h2 BB.out.2.1 (by omega)).mono ?_
        rintro e w8 ⟨rfl, A8, c8, ht, hf, hs⟩
        have gx1 := blk_ne X6.out T6.out.t (by decide)
        have gx2 := blk_ne R6.out T6.out.t (by decide)
        have X8 := Aside0.mk (show Xb w8 gx wh nn up B m.length cx from hf.blk X6.out (fun h => h.elim gx1 (fun h => Kd.R_ne T6.out.r X6.out (by decide) h.symm)))
        have R8 := Aside0.mk (show RL w8 g2 room s left l down from hf.blk R6.out (fun h => h.elim gx2 (fun h => Kd.R_ne T6.out.r R6.out (by decide) h.symm)))
        have O8 := Aside0.mk (Kd.R_mono (hf.R (Kd.R_tight rfl O6.out) (fun q hq h => h.elim (fun hqg => Kd.R_ne O6.out T6.out.t (by decide) (by rw [← hqg]; exact hq)) (fun h => D6.out q hq.symm h))) (ok' := fun _ => True) (fun _ _ => trivial))
        have D9 := Aside0.mk (show ∀ q, (Value.slice A4 m.length c4).ownBlock = some q → (Value.slice A8 (apL (apC down left room l.length m.length) l m).length c8).ownBlock ≠ some q from fun q hq hq2 => by
          rcases hs with hs | ⟨b, hs, hb⟩
          · exact D6.out q hq (hs.symm.trans hq2)
          · have := Kd.R_lt O6.out q hq
            rw [hs] at hq2
            cases hq2
            omega)
        have T8 := Aside0.mk ht
        have cvm := cv (c := cx) (C_on XC.out T8.out.fr)
        clear hf hs ht T6 R6 O6 D6 X6 y0 y1 y2 y3 gx1 gx2
        obtain ⟨y0, y1, y2, y3⟩ := X8.out.cells
        go_wp2_with (fail)
        refine (RL.app_any R8.out BB.out.2.2 (by have := BB.out; omega) (by omega)).mono ?_
        rintro e w9 ⟨rfl, hr9, hf9⟩
        have R9 := Aside0.mk hr9
        have T9 := Aside0.mk (T8.out.ref hf9 R8.out G3.out)
        have O9 := Aside0.mk (hf9.Rtyp O8.out R8.out (by decide))
        have CD := Aside0.mk (apC_le down left room l.length m.length)
        have hS9 := apL_len down left room l m BB.out.2.1
        replace hS9 : s ≤ _ ∧ _ ∧ callL down left ≤ 9223372036854775807 := ⟨Nat.le_trans BB.out.1 hS9.1, hS9.2, callL_le BB.out.2.2⟩
        generalize apC down left room l.length m.length = cd at T9 R9 CD D9 hS9 ⊢
        clear T8 R8 O8 X8 hr9 hf9 cvm
        have S9 := Aside0.mk (show (s) ≤ (apL cd l m).length ∧ ((apL cd l m).length : Int) ≤ room ∧ (callL down left) ≤ 9223372036854775807 from hS9)
        clear hS9
        generalize (s) = s9 at T9 R9 S9
        generalize (callL down left) = lf9 at T9 R9 S9
        generalize (apL cd l m) = l9 at T9 R9 S9 D9
        clear y0 y1 y2 y3 HBG
        go_wp2_with (fail)
        go_loopg [14] m.length (fun jq v14 w' => ∃ (j : Nat) (own : List Int), j + jq = m.length ∧ v14 = .int .i64 j ∧ Aside0 (own.length = m.length) ∧ Aside0 (Kd.R (Kd.int .u8) 5 w' bs (fun _ => True) (.slice A4 m.length c4) own) ∧ Aside0 (TA w w' g A8 c8 l9 room s9 down lf9) ∧ Aside0 (RL w' g2 room s9 lf9 l9 down))
        case atStart => exact ⟨0, m, by omega, rfl, ⟨rfl⟩, O9, T9, R9⟩
        case round =>
          clear T9 R9 O9
          obtain ⟨j, own, hj, rfl, OL, OR, TT, RR⟩ := hrel
          by_cases hjl : j < m.length
          · have o1 := OR.out
            rw [← OL.out] at o1
            obtain ⟨go, cp, eo, hgo, -, cells, hcells⟩ := Kd.R_form o1 (by rw [OL.out]; omega)
            simp only [Value.slice.injEq] at eo
            obtain ⟨rfl, -, rfl⟩ := eo
            have hcl := Kd.R_cell (0 : Int) o1 (j : Int) (by omega) (by rw [OL.out]; omega)
            rw [Int.toNat_natCast] at hcl
            obtain ⟨hc1, hc2⟩ := hcl
            replace hc1 : wr.cell? ⟨go, j, none⟩ = some (.int .u8 (rdOf (0 : Int) own j)) := hc1
            generalize rdOf (0 : Int) own j = vj at hc1
            have hjb : decide ((j : Int) < m.length) = true := decide_eq_true (by omega)
            have hj0 : (0 : Int) ≤ j := by omega
            have hj1 : (j : Int) < m.length := by omega
            go_wp2
            go_roundg (m.length - (j + 1))
            case measure => omega
            case rel =>
              have hp := fun x : Int => Kd.R_put o1 (j : Int) x
              simp only [Int.toNat_natCast, OL.out] at hp
              have hg1 := Kd.R_ne OR.out TT.out.t (by decide)
              have hg2 := Kd.R_ne OR.out RR.out (by decide)
              exact ⟨j + 1, _, by omega, by go_num, ⟨(List.length_set ..).trans OL.out⟩, ⟨(hp _).1⟩, ⟨TT.out.away (hp _).2 hg1 (fun q hq => D9.out q hq) (fun q hq => Nat.le_trans HBS.out (Kd.R_base OR.out q hq))⟩, ⟨blk_grown RR.out (hp _).2 hg2⟩⟩
          · have hjb : decide ((j : Int) < m.length) = false := decide_eq_false (by omega)
            have hjb2 : decide (j < m.length) = false := decide_eq_false hjl
            have q4 := RR.out.cells.2.2.2.2
            have q3 := RR.out.cells.2.2.2.1
            cases down with
            | true =>
              go_wp2_with (fail)
              refine (tread_down _ g _ room s9 lf9 TT.out.t).mono ?_
              rintro e w10 ⟨rfl, rfl⟩
              go_wp2_with (fail)
              refine (code_any _ cd CD.out).mono ?_
              rintro e w11 ⟨rfl, rfl⟩
              have hcc : ((cd : Int) != cd) = false := by simp
              go_wp2_with (fail)
              go_roundg (n - (k + 1))
              case measure => omega
              case rel => exact ⟨k + 1, s9, A8, c8, l9, lf9, true, by omega, by go_num, TT, RR, S9⟩
            | false =>
              go_wp2_with (fail)
              refine (TA.read TT.out (by have := S9.out; omega)).mono ?_
              rintro e w10 ⟨Ax, cx2, rfl, hrx, -, htx, hfx⟩
              have TX := Aside0.mk htx
              have RX := Aside0.mk (show RL w10 g2 room s9 lf9 l9 false from hfx.blk RR.out (fun h => h.elim))
              have cvx := fun n : Nat => cv (W := w10.drewN n) (c := cx2) (show Kd.C (Kd.int .u8) (w10.drewN n) Ax _ _ from hrx)
              clear q3 q4
              have q4 := RX.out.cells.2.2.2.2
              have q3 := RX.out.cells.2.2.2.1
              generalize strOfNums l9 = sx at q3 cvx
              clear hrx htx hfx
              go_wp2_with (fail)
              go_quiet (fail)
              go_wp2_with (fail)
              refine (code_any _ cd CD.out).mono ?_
              rintro e w11 ⟨rfl, rfl⟩
              have hcc : ((cd : Int) != cd) = false := by simp
              go_wp2_with (fail)
              go_roundg (n - (k + 1))
              case measure => omega
              case rel => exact ⟨k + 1, s9, A8, c8, l9, lf9, false, by omega, by go_num, ⟨TX.out.no ((Fr.refl No w10).drewN _)⟩, ⟨RX.out.drewN _⟩, S9⟩
      · skip
        go_wp2_with (fail)
        refine (TA.app_any T6.out (Kd.R_reads' O6.out).2.2 HBG.out BB.out.2.2 (by omega) h2 BB.out.2.1 (by omega)).mono ?_
        rintro e w8 ⟨rfl, A8, c8, ht, hf, hs⟩
        have gx1 := blk_ne X6.out T6.out.t (by decide)
        have gx2 := blk_ne R6.out T6.out.t (by decide)
        have X8 := Aside0.mk (show Xb w8 gx wh nn up B m.length cx from hf.blk X6.out (fun h => h.elim gx1 (fun h => Kd.R_ne T6.out.r X6.out (by decide) h.symm)))
        have R8 := Aside0.mk (show RL w8 g2 room s left l down from hf.blk R6.out (fun h => h.elim gx2 (fun h => Kd.R_ne T6.out.r R6.out (by decide) h.symm)))
        have O8 := Aside0.mk (Kd.R_mono (hf.R (Kd.R_tight rfl O6.out) (fun q hq h => h.elim (fun hqg => Kd.R_ne O6.out T6.out.t (by decide) (by rw [← hqg]; exact hq)) (fun h => D6.out q hq.symm h))) (ok' := fun _ => True) (fun _ _ => trivial))
        have D9 := Aside0.mk (show ∀ q, (Value.slice A4 m.length c4).ownBlock = some q → (Value.slice A8 (apL (apC down left room l.length m.length) l m).length c8).ownBlock ≠ some q from fun q hq hq2 => by
          rcases hs with hs | ⟨b, hs, hb⟩
          · exact D6.out q hq (hs.symm.trans hq2)
          · have := Kd.R_lt O6.out q hq
            rw [hs] at hq2
            cases hq2
            omega)
        have T8 := Aside0.mk ht
        have cvm := cv (c := cx) (C_on XC.out T8.out.fr)
        clear hf hs ht T6 R6 O6 D6 X6 y0 y1 y2 y3 gx1 gx2
        obtain ⟨y0, y1, y2, y3⟩ := X8.out.cells
        go_wp2_with (fail)
        refine (RL.app_any R8.out BB.out.2.2 (by have := BB.out; omega) (by omega)).mono ?_
        rintro e w9 ⟨rfl, hr9, hf9⟩
        have R9 := Aside0.mk hr9
        have T9 := Aside0.mk (T8.out.ref hf9 R8.out G3.out)
        have O9 := Aside0.mk (hf9.Rtyp O8.out R8.out (by decide))
        have CD := Aside0.mk (apC_le down left room l.length m.length)
        have hS9 := apL_len down left room l m BB.out.2.1
        replace hS9 : s ≤ _ ∧ _ ∧ callL down left ≤ 9223372036854775807 := ⟨Nat.le_trans BB.out.1 hS9.1, hS9.2, callL_le BB.out.2.2⟩
        generalize apC down left room l.length m.length = cd at T9 R9 CD D9 hS9 ⊢
        clear T8 R8 O8 X8 hr9 hf9 cvm
        have S9 := Aside0.mk (show (s) ≤ (apL cd l m).length ∧ ((apL cd l m).length : Int) ≤ room ∧ (callL down left) ≤ 9223372036854775807 from hS9)
        clear hS9
        generalize (s) = s9 at T9 R9 S9
        generalize (callL down left) = lf9 at T9 R9 S9
        generalize (apL cd l m) = l9 at T9 R9 S9 D9
        clear y0 y1 y2 y3 HBG
        go_wp2_with (fail)
        go_loopg [14] m.length (fun jq v14 w' => ∃ (j : Nat) (own : List Int), j + jq = m.length ∧ v14 = .int .i64 j ∧ Aside0 (own.length = m.length) ∧ Aside0 (Kd.R (Kd.int .u8) 5 w' bs (fun _ => True) (.slice A4 m.length c4) own) ∧ Aside0 (TA w w' g A8 c8 l9 room s9 down lf9) ∧ Aside0 (RL w' g2 room s9 lf9 l9 down))
        case atStart => exact ⟨0, m, by omega, rfl, ⟨rfl⟩, O9, T9, R9⟩
        case round =>
          clear T9 R9 O9
          obtain ⟨j, own, hj, rfl, OL, OR, TT, RR⟩ := hrel
          by_cases hjl : j < m.length
          · have o1 := OR.out
            rw [← OL.out] at o1
            obtain ⟨go, cp, eo, hgo, -, cells, hcells⟩ := Kd.R_form o1 (by rw [OL.out]; omega)
            simp only [Value.slice.injEq] at eo
            obtain ⟨rfl, -, rfl⟩ := eo
            have hcl := Kd.R_cell (0 : Int) o1 (j : Int) (by omega) (by rw [OL.out]; omega)
            rw [Int.toNat_natCast] at hcl
            obtain ⟨hc1, hc2⟩ := hcl
            replace hc1 : wr.cell? ⟨go, j, none⟩ = some (.int .u8 (rdOf (0 : Int) own j)) := hc1
            generalize rdOf (0 : Int) own j = vj at hc1
            have hjb : decide ((j : Int) < m.length) = true := decide_eq_true (by omega)
            have hj0 : (0 : Int) ≤ j := by omega
            have hj1 : (j : Int) < m.length := by omega
            go_wp2
            go_roundg (m.length - (j + 1))
            case measure => omega
            case rel =>
              have hp := fun x : Int => Kd.R_put o1 (j : Int) x
              simp only [Int.toNat_natCast, OL.out] at hp
              have hg1 := Kd.R_ne OR.out TT.out.t (by decide)
              have hg2 := Kd.R_ne OR.out RR.out (by decide)
              exact ⟨j + 1, _, by omega, by go_num, ⟨(List.length_set ..).trans OL.out⟩, ⟨(hp _).1⟩, ⟨TT.out.away (hp _).2 hg1 (fun q hq => D9.out q hq) (fun q hq => Nat.le_trans HBS.out (Kd.R_base OR.out q hq))⟩, ⟨blk_grown RR.out (hp _).2 hg2⟩⟩
          · have hjb : decide ((j : Int) < m.length) = false := decide_eq_false (by omega)
            have hjb2 : decide (j < m.length) = false := decide_eq_false hjl
            have q4 := RR.out.cells.2.2.2.2
            have q3 := RR.out.cells.2.2.2.1
            cases down with
            | true =>
              go_wp2_with (fail)
              refine (tread_down _ g _ room s9 lf9 TT.out.t).mono ?_
              rintro e w10 ⟨rfl, rfl⟩
              go_wp2_with (fail)
              refine (code_any _ cd CD.out).mono ?_
              rintro e w11 ⟨rfl, rfl⟩
              have hcc : ((cd : Int) != cd) = false := by simp
              go_wp2_with (fail)
              go_roundg (n - (k + 1))
              case measure => omega
              case rel => exact ⟨k + 1, s9, A8, c8, l9, lf9, true, by omega, by go_num, TT, RR, S9⟩
            | false =>
              go_wp2_with (fail)
              refine (TA.read TT.out (by have := S9.out; omega)).mono ?_
              rintro e w10 ⟨Ax, cx2, rfl, hrx, -, htx, hfx⟩
              have TX := Aside0.mk htx
              have RX := Aside0.mk (show RL w10 g2 room s9 lf9 l9 false from hfx.blk RR.out (fun h => h.elim))
              have cvx := fun n : Nat => cv (W := w10.drewN n) (c := cx2) (show Kd.C (Kd.int .u8) (w10.drewN n) Ax _ _ from hrx)
              clear q3 q4
              have q4 := RX.out.cells.2.2.2.2
              have q3 := RX.out.cells.2.2.2.1
              generalize strOfNums l9 = sx at q3 cvx
              clear hrx htx hfx
              go_wp2_with (fail)
              go_quiet (fail)
              go_wp2_with (fail)
              refine (code_any _ cd CD.out).mono ?_
              rintro e w11 ⟨rfl, rfl⟩
              have hcc : ((cd : Int) != cd) = false := by simp
              go_wp2_with (fail)
              go_roundg (n - (k + 1))
              case measure => omega
              case rel => exact ⟨k + 1, s9, A8, c8, l9, lf9, false, by omega, by go_num, ⟨TX.out.no ((Fr.refl No w10).drewN _)⟩, ⟨RX.out.drewN _⟩, S9⟩
      · go_wp2_with (fail)
        refine (TA.sync_any T6.out BB.out.2.2).mono ?_
        rintro e w8 ⟨rfl, ht, hf⟩
        have gx1 := blk_ne X6.out T6.out.t (by decide)
        have X8 := Aside0.mk (show Xb w8 gx wh nn up B m.length cx from hf.blk X6.out gx1)
        have R8 := Aside0.mk (R6.out.far hf T6.out.t)
        have O8 := Aside0.mk (hf.Rtyp O6.out T6.out.t (by decide))
        have D9 := Aside0.mk (show ∀ q, (Value.slice A4 m.length c4).ownBlock = some q → (Value.slice A1 (l).length c1).ownBlock ≠ some q from fun q hq => by rw [own_len A1 c1 _ l.length]; exact D6.out q hq)
        have T8 := Aside0.mk ht
        clear hf ht T6 R6 O6 D6 X6 y0 y1 y2 y3 gx1
        obtain ⟨y0, y1, y2, y3⟩ := X8.out.cells
        go_wp2_with (fail)
        refine (RL.sync_any R8.out BB.out.2.2).mono ?_
        rintro e w9 ⟨rfl, hr9, hf9⟩
        have R9 := Aside0.mk hr9
        have T9 := Aside0.mk (T8.out.ref hf9 R8.out G3.out)
        have O9 := Aside0.mk (hf9.Rtyp O8.out R8.out (by decide))
        have CD := Aside0.mk (callC_le down left)
        have hS9 : (if callC down left = 0 then l.length else s) ≤ l.length ∧ (l.length : Int) ≤ room ∧ callL down left ≤ 9223372036854775807 := ⟨by split; exact Nat.le_refl _; exact BB.out.1, BB.out.2.1, callL_le BB.out.2.2⟩
        generalize callC down left = cd at T9 R9 CD hS9 ⊢
        clear T8 R8 O8 X8 hr9 hf9
        have S9 := Aside0.mk (show (if cd = 0 then l.length else s) ≤ (l).length ∧ ((l).length : Int) ≤ room ∧ (callL down left) ≤ 9223372036854775807 from hS9)
        clear hS9
        generalize (if cd = 0 then l.length else s) = s9 at T9 R9 S9
        generalize (callL down left) = lf9 at T9 R9 S9
        generalize (l) = l9 at T9 R9 S9 D9
        clear y0 y1 y2 y3 HBG
        go_wp2_with (fail)
        go_loopg [14] m.length (fun jq v14 w' => ∃ (j : Nat) (own : List Int), j + jq = m.length ∧ v14 = .int .i64 j ∧ Aside0 (own.length = m.length) ∧ Aside0 (Kd.R (Kd.int .u8) 5 w' bs (fun _ => True) (.slice A4 m.length c4) own) ∧ Aside0 (TA w w' g A1 c1 l9 room s9 down lf9) ∧ Aside0 (RL w' g2 room s9 lf9 l9 down))
        case atStart => exact ⟨0, m, by omega, rfl, ⟨rfl⟩, O9, T9, R9⟩
        case round =>
          clear T9 R9 O9
          obtain ⟨j, own, hj, rfl, OL, OR, TT, RR⟩ := hrel
          by_cases hjl : j < m.length
          · have o1 := OR.out
            rw [← OL.out] at o1
            obtain ⟨go, cp, eo, hgo, -, cells, hcells⟩ := Kd.R_form o1 (by rw [OL.out]; omega)
            simp only [Value.slice.injEq] at eo
            obtain ⟨rfl, -, rfl⟩ := eo
            have hcl := Kd.R_cell (0 : Int) o1 (j : Int) (by omega) (by rw [OL.out]; omega)
            rw [Int.toNat_natCast] at hcl
            obtain ⟨hc1, hc2⟩ := hcl
            replace hc1 : wr.cell? ⟨go, j, none⟩ = some (.int .u8 (rdOf (0 : Int) own j)) := hc1
            generalize rdOf (0 : Int) own j = vj at hc1
            have hjb : decide ((j : Int) < m.length) = true := decide_eq_true (by omega)
            have hj0 : (0 : Int) ≤ j := by omega
            have hj1 : (j : Int) < m.length := by omega
            go_wp2
            go_roundg (m.length - (j + 1))
            case measure => omega
            case rel =>
              have hp := fun x : Int => Kd.R_put o1 (j : Int) x
              simp only [Int.toNat_natCast, OL.out] at hp
              have hg1 := Kd.R_ne OR.out TT.out.t (by decide)
              have hg2 := Kd.R_ne OR.out RR.out (by decide)
              exact ⟨j + 1, _, by omega, by go_num, ⟨(List.length_set ..).trans OL.out⟩, ⟨(hp _).1⟩, ⟨TT.out.away (hp _).2 hg1 (fun q hq => D9.out q hq) (fun q hq => Nat.le_trans HBS.out (Kd.R_base OR.out q hq))⟩, ⟨blk_grown RR.out (hp _).2 hg2⟩⟩
          · have hjb : decide ((j : Int) < m.length) = false := decide_eq_false (by omega)
            have hjb2 : decide (j < m.length) = false := decide_eq_false hjl
            have q4 := RR.out.cells.2.2.2.2
            have q3 := RR.out.cells.2.2.2.1
            cases down with
            | true =>
              go_wp2_with (fail)
              refine (tread_down _ g _ room s9 lf9 TT.out.t).mono ?_
              rintro e w10 ⟨rfl, rfl⟩
              go_wp2_with (fail)
              refine (code_any _ cd CD.out).mono ?_
              rintro e w11 ⟨rfl, rfl⟩
              have hcc : ((cd : Int) != cd) = false := by simp
              go_wp2_with (fail)
              go_roundg (n - (k + 1))
              case measure => omega
              case rel => exact ⟨k + 1, s9, A1, c1, l9, lf9, true, by omega, by go_num, TT, RR, S9⟩
            | false =>
              go_wp2_with (fail)
              refine (TA.read TT.out (by have := S9.out; omega)).mono ?_
              rintro e w10 ⟨Ax, cx2, rfl, hrx, -, htx, hfx⟩
              have TX := Aside0.mk htx
              have RX := Aside0.mk (show RL w10 g2 room s9 lf9 l9 false from hfx.blk RR.out (fun h => h.elim))
              have cvx := fun n : Nat => cv (W := w10.drewN n) (c := cx2) (show Kd.C (Kd.int .u8) (w10.drewN n) Ax _ _ from hrx)
              clear q3 q4
              have q4 := RX.out.cells.2.2.2.2
              have q3 := RX.out.cells.2.2.2.1
              generalize strOfNums l9 = sx at q3 cvx
              clear hrx htx hfx
              go_wp2_with (fail)
              go_quiet (fail)
              go_wp2_with (fail)
              refine (code_any _ cd CD.out).mono ?_
              rintro e w11 ⟨rfl, rfl⟩
              have hcc : ((cd : Int) != cd) = false := by simp
              go_wp2_with (fail)
              go_roundg (n - (k + 1))
              case measure => omega
              case rel => exact ⟨k + 1, s9, A1, c1, l9, lf9, false, by omega, by go_num, ⟨TX.out.no ((Fr.refl No w10).drewN _)⟩, ⟨RX.out.drewN _⟩, S9⟩
      · go_wp2_with (fail)
        refine (TA.cut_any T6.out nn).mono ?_
        rintro e w8 ⟨rfl, ht, hf⟩
        have gx1 := blk_ne X6.out T6.out.t (by decide)
        have X8 := Aside0.mk (show Xb w8 gx wh nn up B m.length cx from hf.blk X6.out gx1)
        have R8 := Aside0.mk (R6.out.far hf T6.out.t)
        have O8 := Aside0.mk (hf.Rtyp O6.out T6.out.t (by decide))
        have D9 := Aside0.mk (show ∀ q, (Value.slice A4 m.length c4).ownBlock = some q → (Value.slice A1 (cutT down nn l).length c1).ownBlock ≠ some q from fun q hq => by rw [own_len A1 c1 _ l.length]; exact D6.out q hq)
        have T8 := Aside0.mk ht
        clear hf ht T6 R6 O6 D6 X6 y0 y1 y2 y3 gx1
        obtain ⟨y0, y1, y2, y3⟩ := X8.out.cells
        go_wp2_with (fail)
        refine (RL.cut_any R8.out nn).mono ?_
        rintro e w9 ⟨rfl, hr9, hf9⟩
        have R9 := Aside0.mk hr9
        have T9 := Aside0.mk (T8.out.ref hf9 R8.out G3.out)
        have O9 := Aside0.mk (hf9.Rtyp O8.out R8.out (by decide))
        have CD := Aside0.mk (cutC_le down nn l.length)
        have hS9 := cut_len down nn l s BB.out.1
        replace hS9 : cutS down nn l.length s ≤ (cutT down nn l).length ∧ ((cutT down nn l).length : Int) ≤ room ∧ left ≤ 9223372036854775807 := ⟨hS9.1, by have := hS9.2; have := BB.out; omega, BB.out.2.2⟩
        generalize cutC down nn l.length = cd at CD ⊢
        clear T8 R8 O8 X8 hr9 hf9
        have S9 := Aside0.mk (show (cutS down nn l.length s) ≤ (cutT down nn l).length ∧ ((cutT down nn l).length : Int) ≤ room ∧ (left) ≤ 9223372036854775807 from hS9)
        clear hS9
        generalize (cutS down nn l.length s) = s9 at T9 R9 S9
        generalize (left) = lf9 at T9 R9 S9
        generalize (cutT down nn l) = l9 at T9 R9 S9 D9
        clear y0 y1 y2 y3 HBG
        go_wp2_with (fail)
        go_loopg [14] m.length (fun jq v14 w' => ∃ (j : Nat) (own : List Int), j + jq = m.length ∧ v14 = .int .i64 j ∧ Aside0 (own.length = m.length) ∧ Aside0 (Kd.R (Kd.int .u8) 5 w' bs (fun _ => True) (.slice A4 m.length c4) own) ∧ Aside0 (TA w w' g A1 c1 l9 room s9 down lf9) ∧ Aside0 (RL w' g2 room s9 lf9 l9 down))
        case atStart => exact ⟨0, m, by omega, rfl, ⟨rfl⟩, O9, T9, R9⟩
        case round =>
          clear T9 R9 O9
          obtain ⟨j, own, hj, rfl, OL, OR, TT, RR⟩ := hrel
          by_cases hjl : j < m.length
          · have o1 := OR.out
            rw [← OL.out] at o1
            obtain ⟨go, cp, eo, hgo, -, cells, hcells⟩ := Kd.R_form o1 (by rw [OL.out]; omega)
            simp only [Value.slice.injEq] at eo
            obtain ⟨rfl, -, rfl⟩ := eo
            have hcl := Kd.R_cell (0 : Int) o1 (j : Int) (by omega) (by rw [OL.out]; omega)
            rw [Int.toNat_natCast] at hcl
            obtain ⟨hc1, hc2⟩ := hcl
            replace hc1 : wr.cell? ⟨go, j, none⟩ = some (.int .u8 (rdOf (0 : Int) own j)) := hc1
            generalize rdOf (0 : Int) own j = vj at hc1
            have hjb : decide ((j : Int) < m.length) = true := decide_eq_true (by omega)
            have hj0 : (0 : Int) ≤ j := by omega
            have hj1 : (j : Int) < m.length := by omega
            go_wp2
            go_roundg (m.length - (j + 1))
            case measure => omega
            case rel =>
              have hp := fun x : Int => Kd.R_put o1 (j : Int) x
              simp only [Int.toNat_natCast, OL.out] at hp
              have hg1 := Kd.R_ne OR.out TT.out.t (by decide)
              have hg2 := Kd.R_ne OR.out RR.out (by decide)
              exact ⟨j + 1, _, by omega, by go_num, ⟨(List.length_set ..).trans OL.out⟩, ⟨(hp _).1⟩, ⟨TT.out.away (hp _).2 hg1 (fun q hq => D9.out q hq) (fun q hq => Nat.le_trans HBS.out (Kd.R_base OR.out q hq))⟩, ⟨blk_grown RR.out (hp _).2 hg2⟩⟩
          · have hjb : decide ((j : Int) < m.length) = false := decide_eq_false (by omega)
            have hjb2 : decide (j < m.length) = false := decide_eq_false hjl
            have q4 := RR.out.cells.2.2.2.2
            have q3 := RR.out.cells.2.2.2.1
            cases down with
            | true =>
              go_wp2_with (fail)
              refine (tread_down _ g _ room s9 lf9 TT.out.t).mono ?_
              rintro e w10 ⟨rfl, rfl⟩
              go_wp2_with (fail)
              refine (code_any _ cd CD.out).mono ?_
              rintro e w11 ⟨rfl, rfl⟩
              have hcc : ((cd : Int) != cd) = false := by simp
              go_wp2_with (fail)
              go_roundg (n - (k + 1))
              case measure => omega
              case rel => exact ⟨k + 1, s9, A1, c1, l9, lf9, true, by omega, by go_num, TT, RR, S9⟩
            | false =>
              go_wp2_with (fail)
              refine (TA.read TT.out (by have := S9.out; omega)).mono ?_
              rintro e w10 ⟨Ax, cx2, rfl, hrx, -, htx, hfx⟩
              have TX := Aside0.mk htx
              have RX := Aside0.mk (show RL w10 g2 room s9 lf9 l9 false from hfx.blk RR.out (fun h => h.elim))
              have cvx := fun n : Nat => cv (W := w10.drewN n) (c := cx2) (show Kd.C (Kd.int .u8) (w10.drewN n) Ax _ _ from hrx)
              clear q3 q4
              have q4 := RX.out.cells.2.2.2.2
              have q3 := RX.out.cells.2.2.2.1
              generalize strOfNums l9 = sx at q3 cvx
              clear hrx htx hfx
              go_wp2_with (fail)
              go_quiet (fail)
              go_wp2_with (fail)
              refine (code_any _ cd CD.out).mono ?_
              rintro e w11 ⟨rfl, rfl⟩
              have hcc : ((cd : Int) != cd) = false := by simp
              go_wp2_with (fail)
              go_roundg (n - (k + 1))
              case measure => omega
              case rel => exact ⟨k + 1, s9, A1, c1, l9, lf9, false, by omega, by go_num, ⟨TX.out.no ((Fr.refl No w10).drewN _)⟩, ⟨RX.out.drewN _⟩, S9⟩
      · go_wp2_with (fail)
        refine (TA.fail T6.out nn).mono ?_
        rintro e w8 ⟨rfl, ht, hf⟩
        have gx1 := blk_ne X6.out T6.out.t (by decide)
        have X8 := Aside0.mk (show Xb w8 gx wh nn up B m.length cx from hf.blk X6.out gx1)
        have R8 := Aside0.mk (R6.out.far hf T6.out.t)
        have O8 := Aside0.mk (hf.Rtyp O6.out T6.out.t (by decide))
        have D9 := Aside0.mk (show ∀ q, (Value.slice A4 m.length c4).ownBlock = some q → (Value.slice A1 (l).length c1).ownBlock ≠ some q from fun q hq => by rw [own_len A1 c1 _ l.length]; exact D6.out q hq)
        have T8 := Aside0.mk ht
        clear hf ht T6 R6 O6 D6 X6 y0 y1 y2 y3 gx1
        obtain ⟨y0, y1, y2, y3⟩ := X8.out.cells
        obtain ⟨r0, r1, r2, r3, r4⟩ := R8.out.cells
        obtain ⟨f0, f1, f2, f3, f4⟩ := R8.out.free
        have gx2 := blk_ne X8.out R8.out (by decide)
        by_cases hneg : nn < 0
        · have hnb : decide (nn < 0) = true := decide_eq_true hneg
          have ef : failL nn = -1 := by unfold failL; rw [if_pos hneg]
          have hf9 := ((Fr.refl (At g2) w8).setAt 2 (.int .i64 nn)).setAt 2 (.int .i64 (-1))
          have hr9 : RL _ g2 room s (-1) l down := (R8.out.set2 nn).set2 (-1)
          have T9 := Aside0.mk (T8.out.ref hf9 R8.out G3.out)
          rw [ef] at T9
          have R9 := Aside0.mk hr9
          have O9 := Aside0.mk (hf9.Rtyp O8.out R8.out (by decide))
          have hS9 : s ≤ l.length ∧ (l.length : Int) ≤ room ∧ -1 ≤ 9223372036854775807 := ⟨BB.out.1, BB.out.2.1, by omega⟩
          clear hr9 hf9 ef
          go_wp2_with (fail)
          generalize World.setCell _ _ _ = w9 at T9 R9 O9 ⊢
          clear r0 r1 r2 r3 r4 f0 f1 f2 f3 f4 gx2 T8 R8 O8 X8
          have hpk : ∃ lm : Int, Aside0 (TA w w9 g A1 c1 l room s down lm) ∧ Aside0 (RL w9 g2 room s lm l down) ∧ (s ≤ l.length ∧ (l.length : Int) ≤ room ∧ lm ≤ 9223372036854775807) := ⟨-1, T9, R9, hS9⟩
          clear T9 R9 hS9
          obtain ⟨lm, T9, R9, hS9⟩ := hpk
          have S9 := Aside0.mk (show (s) ≤ (l).length ∧ ((l).length : Int) ≤ room ∧ (lm) ≤ 9223372036854775807 from hS9)
          clear hS9
          generalize (s) = s9 at T9 R9 S9
          generalize (lm) = lf9 at T9 R9 S9
          generalize (l) = l9 at T9 R9 S9 D9
          clear y0 y1 y2 y3 HBG
          go_wp2_with (fail)
          go_loopg [14] m.length (fun jq v14 w' => ∃ (j : Nat) (own : List Int), j + jq = m.length ∧ v14 = .int .i64 j ∧ Aside0 (own.length = m.length) ∧ Aside0 (Kd.R (Kd.int .u8) 5 w' bs (fun _ => True) (.slice A4 m.length c4) own) ∧ Aside0 (TA w w' g A1 c1 l9 room s9 down lf9) ∧ Aside0 (RL w' g2 room s9 lf9 l9 down))
          case atStart => exact ⟨0, m, by omega, rfl, ⟨rfl⟩, O9, T9, R9⟩
          case round =>
            clear T9 R9 O9
            obtain ⟨j, own, hj, rfl, OL, OR, TT, RR⟩ := hrel
            by_cases hjl : j < m.length
            · have o1 := OR.out
              rw [← OL.out] at o1
              obtain ⟨go, cp, eo, hgo, -, cells, hcells⟩ := Kd.R_form o1 (by rw [OL.out]; omega)
              simp only [Value.slice.injEq] at eo
              obtain ⟨rfl, -, rfl⟩ := eo
              have hcl := Kd.R_cell (0 : Int) o1 (j : Int) (by omega) (by rw [OL.out]; omega)
              rw [Int.toNat_natCast] at hcl
              obtain ⟨hc1, hc2⟩ := hcl
              replace hc1 : wr.cell? ⟨go, j, none⟩ = some (.int .u8 (rdOf (0 : Int) own j)) := hc1
              generalize rdOf (0 : Int) own j = vj at hc1
              have hjb : decide ((j : Int) < m.length) = true := decide_eq_true (by omega)
              have hj0 : (0 : Int) ≤ j := by omega
              have hj1 : (j : Int) < m.length := by omega
              go_wp2
              go_roundg (m.length - (j + 1))
              case measure => omega
              case rel =>
                have hp := fun x : Int => Kd.R_put o1 (j : Int) x
                simp only [Int.toNat_natCast, OL.out] at hp
                have hg1 := Kd.R_ne OR.out TT.out.t (by decide)
                have hg2 := Kd.R_ne OR.out RR.out (by decide)
                exact ⟨j + 1, _, by omega, by go_num, ⟨(List.length_set ..).trans OL.out⟩, ⟨(hp _).1⟩, ⟨TT.out.away (hp _).2 hg1 (fun q hq => D9.out q hq) (fun q hq => Nat.le_trans HBS.out (Kd.R_base OR.out q hq))⟩, ⟨blk_grown RR.out (hp _).2 hg2⟩⟩
            · have hjb : decide ((j : Int) < m.length) = false := decide_eq_false (by omega)
              have hjb2 : decide (j < m.length) = false := decide_eq_false hjl
              have q4 := RR.out.cells.2.2.2.2
              have q3 := RR.out.cells.2.2.2.1
              cases down with
              | true =>
                go_wp2_with (fail)
                refine (tread_down _ g _ room s9 lf9 TT.out.t).mono ?_
                rintro e w10 ⟨rfl, rfl⟩
                go_wp2_with (fail)
                refine (code_nil _).mono ?_
                rintro e w11 ⟨rfl, rfl⟩
                have hcc : ((0 : Int) != 0) = false := by simp
                go_wp2_with (fail)
                go_roundg (n - (k + 1))
                case measure => omega
                case rel => exact ⟨k + 1, s9, A1, c1, l9, lf9, true, by omega, by go_num, TT, RR, S9⟩
              | false =>
                go_wp2_with (fail)
                refine (TA.read TT.out (by have := S9.out; omega)).mono ?_
                rintro e w10 ⟨Ax, cx2, rfl, hrx, -, htx, hfx⟩
                have TX := Aside0.mk htx
                have RX := Aside0.mk (show RL w10 g2 room s9 lf9 l9 false from hfx.blk RR.out (fun h => h.elim))
                have cvx := fun n : Nat => cv (W := w10.drewN n) (c := cx2) (show Kd.C (Kd.int .u8) (w10.drewN n) Ax _ _ from hrx)
                clear q3 q4
                have q4 := RX.out.cells.2.2.2.2
                have q3 := RX.out.cells.2.2.2.1
                generalize strOfNums l9 = sx at q3 cvx
                clear hrx htx hfx
                go_wp2_with (fail)
                go_quiet (fail)
                go_wp2_with (fail)
                refine (code_nil _).mono ?_
                rintro e w11 ⟨rfl, rfl⟩
                have hcc : ((0 : Int) != 0) = false := by simp
                go_wp2_with (fail)
                go_roundg (n - (k + 1))
                case measure => omega
                case rel => exact ⟨k + 1, s9, A1, c1, l9, lf9, false, by omega, by go_num, ⟨TX.out.no ((Fr.refl No w10).drewN _)⟩, ⟨RX.out.drewN _⟩, S9⟩
        · have hnb : decide (nn < 0) = false := decide_eq_false hneg
          have ef : failL nn = nn := by unfold failL; rw [if_neg hneg]
          have hf9 := (Fr.refl (At g2) w8).setAt 2 (.int .i64 nn)
          have hr9 : RL _ g2 room s nn l down := R8.out.set2 nn
          have T9 := Aside0.mk (T8.out.ref hf9 R8.out G3.out)
          rw [ef] at T9
          have R9 := Aside0.mk hr9
          have O9 := Aside0.mk (hf9.Rtyp O8.out R8.out (by decide))
          have hS9 : s ≤ l.length ∧ (l.length : Int) ≤ room ∧ nn ≤ 9223372036854775807 := ⟨BB.out.1, BB.out.2.1, XR.out.2.2⟩
          clear hr9 hf9 ef
          go_wp2_with (fail)
          generalize World.setCell _ _ _ = w9 at T9 R9 O9 ⊢
          clear r0 r1 r2 r3 r4 f0 f1 f2 f3 f4 gx2 T8 R8 O8 X8
          have S9 := Aside0.mk (show (s) ≤ (l).length ∧ ((l).length : Int) ≤ room ∧ (nn) ≤ 9223372036854775807 from hS9)
          clear hS9
          generalize (s) = s9 at T9 R9 S9
          generalize (nn) = lf9 at T9 R9 S9
          generalize (l) = l9 at T9 R9 S9 D9
          clear y0 y1 y2 y3 HBG
          go_wp2_with (fail)
          go_loopg [14] m.length (fun jq v14 w' => ∃ (j : Nat) (own : List Int), j + jq = m.length ∧ v14 = .int .i64 j ∧ Aside0 (own.length = m.length) ∧ Aside0 (Kd.R (Kd.int .u8) 5 w' bs (fun _ => True) (.slice A4 m.length c4) own) ∧ Aside0 (TA w w' g A1 c1 l9 room s9 down lf9) ∧ Aside0 (RL w' g2 room s9 lf9 l9 down))
          case atStart => exact ⟨0, m, by omega, rfl, ⟨rfl⟩, O9, T9, R9⟩
          case round =>
            clear T9 R9 O9
            obtain ⟨j, own, hj, rfl, OL, OR, TT, RR⟩ := hrel
            by_cases hjl : j < m.length
            · have o1 := OR.out
              rw [← OL.out] at o1
              obtain ⟨go, cp, eo, hgo, -, cells, hcells⟩ := Kd.R_form o1 (by rw [OL.out]; omega)
              simp only [Value.slice.injEq] at eo
              obtain ⟨rfl, -, rfl⟩ := eo
              have hcl := Kd.R_cell (0 : Int) o1 (j : Int) (by omega) (by rw [OL.out]; omega)
              rw [Int.toNat_natCast] at hcl
              obtain ⟨hc1, hc2⟩ := hcl
              replace hc1 : wr.cell? ⟨go, j, none⟩ = some (.int .u8 (rdOf (0 : Int) own j)) := hc1
              generalize rdOf (0 : Int) own j = vj at hc1
              have hjb : decide ((j : Int) < m.length) = true := decide_eq_true (by omega)
              have hj0 : (0 : Int) ≤ j := by omega
              have hj1 : (j : Int) < m.length := by omega
              go_wp2
              go_roundg (m.length - (j + 1))
              case measure => omega
              case rel =>
                have hp := fun x : Int => Kd.R_put o1 (j : Int) x
                simp only [Int.toNat_natCast, OL.out] at hp
                have hg1 := Kd.R_ne OR.out TT.out.t (by decide)
                have hg2 := Kd.R_ne OR.out RR.out (by decide)
                exact ⟨j + 1, _, by omega, by go_num, ⟨(List.length_set ..).trans OL.out⟩, ⟨(hp _).1⟩, ⟨TT.out.away (hp _).2 hg1 (fun q hq => D9.out q hq) (fun q hq => Nat.le_trans HBS.out (Kd.R_base OR.out q hq))⟩, ⟨blk_grown RR.out (hp _).2 hg2⟩⟩
            · have hjb : decide ((j : Int) < m.length) = false := decide_eq_false (by omega)
              have hjb2 : decide (j < m.length) = false := decide_eq_false hjl
              have q4 := RR.out.cells.2.2.2.2
              have q3 := RR.out.cells.2.2.2.1
              cases down with
              | true =>
                go_wp2_with (fail)
                refine (tread_down _ g _ room s9 lf9 TT.out.t).mono ?_
                rintro e w10 ⟨rfl, rfl⟩
                go_wp2_with (fail)
                refine (code_nil _).mono ?_
                rintro e w11 ⟨rfl, rfl⟩
                have hcc : ((0 : Int) != 0) = false := by simp
                go_wp2_with (fail)
                go_roundg (n - (k + 1))
                case measure => omega
                case rel => exact ⟨k + 1, s9, A1, c1, l9, lf9, true, by omega, by go_num, TT, RR, S9⟩
              | false =>
                go_wp2_with (fail)
                refine (TA.read TT.out (by have := S9.out; omega)).mono ?_
                rintro e w10 ⟨Ax, cx2, rfl, hrx, -, htx, hfx⟩
                have TX := Aside0.mk htx
                have RX := Aside0.mk (show RL w10 g2 room s9 lf9 l9 false from hfx.blk RR.out (fun h => h.elim))
                have cvx := fun n : Nat => cv (W := w10.drewN n) (c := cx2) (show Kd.C (Kd.int .u8) (w10.drewN n) Ax _ _ from hrx)
                clear q3 q4
                have q4 := RX.out.cells.2.2.2.2
                have q3 := RX.out.cells.2.2.2.1
                generalize strOfNums l9 = sx at q3 cvx
                clear hrx htx hfx
                go_wp2_with (fail)
                go_quiet (fail)
                go_wp2_with (fail)
                refine (code_nil _).mono ?_
                rintro e w11 ⟨rfl, rfl⟩
                have hcc : ((0 : Int) != 0) = false := by simp
                go_wp2_with (fail)
                go_roundg (n - (k + 1))
                case measure => omega
                case rel => exact ⟨k + 1, s9, A1, c1, l9, lf9, false, by omega, by go_num, ⟨TX.out.no ((Fr.refl No w10).drewN _)⟩, ⟨RX.out.drewN _⟩, S9⟩
      · go_wp2_with (fail)
        refine (TA.crash_any T6.out BB.out.1 (by have := BB.out; omega) nn).mono ?_
        rintro e w8 ⟨rfl, ht, hf⟩
        have gx1 := blk_ne X6.out T6.out.t (by decide)
        have X8 := Aside0.mk (show Xb w8 gx wh nn up B m.length cx from hf.blk X6.out gx1)
        have R8 := Aside0.mk (R6.out.far hf T6.out.t)
        have O8 := Aside0.mk (hf.Rtyp O6.out T6.out.t (by decide))
        have D9 := Aside0.mk (show ∀ q, (Value.slice A4 m.length c4).ownBlock = some q → (Value.slice A1 (if down = true then l else l.take (crashN l.length s nn)).length c1).ownBlock ≠ some q from fun q hq => by rw [own_len A1 c1 _ l.length]; exact D6.out q hq)
        have T8 := Aside0.mk ht
        clear hf ht T6 R6 O6 D6 X6 y0 y1 y2 y3 gx1
        obtain ⟨y0, y1, y2, y3⟩ := X8.out.cells
        go_wp2_with (fail)
        refine (RL.crash_any R8.out BB.out.1 (by have := BB.out; omega) nn).mono ?_
        rintro e w9 ⟨rfl, hr9, hf9⟩
        have R9 := Aside0.mk hr9
        have T9 := Aside0.mk (T8.out.ref hf9 R8.out G3.out)
        have O9 := Aside0.mk (hf9.Rtyp O8.out R8.out (by decide))
        have hS9 := crash_len down nn l s BB.out.1
        replace hS9 : (if down = true then s else crashN l.length s nn) ≤ (if down = true then l else l.take (crashN l.length s nn)).length ∧ ((if down = true then l else l.take (crashN l.length s nn)).length : Int) ≤ room ∧ (if down = true then left else -1) ≤ 9223372036854775807 := ⟨hS9.1, by have := hS9.2; have := BB.out; omega, by split; exact BB.out.2.2; omega⟩
        generalize (if down = true then s else crashN l.length s nn) = s8 at T9 R9 hS9
        generalize (if down = true then left else -1) = lf8 at T9 R9 hS9
        generalize (if down = true then l else l.take (crashN l.length s nn)) = l8 at T9 R9 hS9 D9
        have X9 := Aside0.mk (show Xb w9 gx wh nn up B m.length cx from hf9.blk X8.out (blk_ne X8.out R8.out (by decide)))
        clear y0 y1 y2 y3 T8 R8 O8 X8 hr9 hf9
        obtain ⟨y0, y1, y2, y3⟩ := X9.out.cells
        cases up with
        | false =>
          go_wp2_with (fail)
          clear X9
          have S9 := Aside0.mk (show (s8) ≤ (l8).length ∧ ((l8).length : Int) ≤ room ∧ (lf8) ≤ 9223372036854775807 from hS9)
          clear hS9
          generalize (s8) = s9 at T9 R9 S9
          generalize (lf8) = lf9 at T9 R9 S9
          generalize (l8) = l9 at T9 R9 S9 D9
          clear y0 y1 y2 y3 HBG
          go_wp2_with (fail)
          go_loopg [14] m.length (fun jq v14 w' => ∃ (j : Nat) (own : List Int), j + jq = m.length ∧ v14 = .int .i64 j ∧ Aside0 (own.length = m.length) ∧ Aside0 (Kd.R (Kd.int .u8) 5 w' bs (fun _ => True) (.slice A4 m.length c4) own) ∧ Aside0 (TA w w' g A1 c1 l9 room s9 true lf9) ∧ Aside0 (RL w' g2 room s9 lf9 l9 true))
          case atStart => exact ⟨0, m, by omega, rfl, ⟨rfl⟩, O9, T9, R9⟩
          case round =>
            clear T9 R9 O9
            obtain ⟨j, own, hj, rfl, OL, OR, TT, RR⟩ := hrel
            by_cases hjl : j < m.length
            · have o1 := OR.out
              rw [← OL.out] at o1
              obtain ⟨go, cp, eo, hgo, -, cells, hcells⟩ := Kd.R_form o1 (by rw [OL.out]; omega)
              simp only [Value.slice.injEq] at eo
              obtain ⟨rfl, -, rfl⟩ := eo
              have hcl := Kd.R_cell (0 : Int) o1 (j : Int) (by omega) (by rw [OL.out]; omega)
              rw [Int.toNat_natCast] at hcl
              obtain ⟨hc1, hc2⟩ := hcl
              replace hc1 : wr.cell? ⟨go, j, none⟩ = some (.int .u8 (rdOf (0 : Int) own j)) := hc1
              generalize rdOf (0 : Int) own j = vj at hc1
              have hjb : decide ((j : Int) < m.length) = true := decide_eq_true (by omega)
              have hj0 : (0 : Int) ≤ j := by omega
              have hj1 : (j : Int) < m.length := by omega
              go_wp2
              go_roundg (m.length - (j + 1))
              case measure => omega
              case rel =>
                have hp := fun x : Int => Kd.R_put o1 (j : Int) x
                simp only [Int.toNat_natCast, OL.out] at hp
                have hg1 := Kd.R_ne OR.out TT.out.t (by decide)
                have hg2 := Kd.R_ne OR.out RR.out (by decide)
                exact ⟨j + 1, _, by omega, by go_num, ⟨(List.length_set ..).trans OL.out⟩, ⟨(hp _).1⟩, ⟨TT.out.away (hp _).2 hg1 (fun q hq => D9.out q hq) (fun q hq => Nat.le_trans HBS.out (Kd.R_base OR.out q hq))⟩, ⟨blk_grown RR.out (hp _).2 hg2⟩⟩
            · have hjb : decide ((j : Int) < m.length) = false := decide_eq_false (by omega)
              have hjb2 : decide (j < m.length) = false := decide_eq_false hjl
              have q4 := RR.out.cells.2.2.2.2
              have q3 := RR.out.cells.2.2.2.1
              go_wp2_with (fail)
              refine (tread_down _ g _ room s9 lf9 TT.out.t).mono ?_
              rintro e w10 ⟨rfl, rfl⟩
              go_wp2_with (fail)
              refine (code_nil _).mono ?_
              rintro e w11 ⟨rfl, rfl⟩
              have hcc : ((0 : Int) != 0) = false := by simp
              go_wp2_with (fail)
              go_roundg (n - (k + 1))
              case measure => omega
              case rel => exact ⟨k + 1, s9, A1, c1, l9, lf9, true, by omega, by go_num, TT, RR, S9⟩
        | true =>
          go_wp2_with (fail)
          refine (TA.up T9.out).mono ?_
          rintro e w10 ⟨rfl, ht, hf⟩
          have R10 := Aside0.mk (R9.out.far hf T9.out.t)
          have O10 := Aside0.mk (hf.Rtyp O9.out T9.out.t (by decide))
          obtain ⟨r0, r1, r2, r3, r4⟩ := R10.out.cells
          obtain ⟨f0, f1, f2, f3, f4⟩ := R10.out.free
          have hf9 := (Fr.refl (At g2) w10).setAt 4 (.bool false)
          clear T9 R9 O9
          have hr9 : RL _ g2 room s8 lf8 l8 false := R10.out.set4 false
          have T9 := Aside0.mk (ht.ref hf9 R10.out G3.out)
          have R9 := Aside0.mk hr9
          have O9 := Aside0.mk (hf9.Rtyp O10.out R10.out (by decide))
          clear hr9 hf9 hf ht
          go_wp2_with (fail)
          generalize World.setCell _ _ _ = w9 at T9 R9 O9 ⊢
          clear r0 r1 r2 r3 r4 f0 f1 f2 f3 f4 R10 O10 X9
          have S9 := Aside0.mk (show (s8) ≤ (l8).length ∧ ((l8).length : Int) ≤ room ∧ (lf8) ≤ 9223372036854775807 from hS9)
          clear hS9
          generalize (s8) = s9 at T9 R9 S9
          generalize (lf8) = lf9 at T9 R9 S9
          generalize (l8) = l9 at T9 R9 S9 D9
          clear y0 y1 y2 y3 HBG
          go_wp2_with (fail)
          go_loopg [14] m.length (fun jq v14 w' => ∃ (j : Nat) (own : List Int), j + jq = m.length ∧ v14 = .int .i64 j ∧ Aside0 (own.length = m.length) ∧ Aside0 (Kd.R (Kd.int .u8) 5 w' bs (fun _ => True) (.slice A4 m.length c4) own) ∧ Aside0 (TA w w' g A1 c1 l9 room s9 false lf9) ∧ Aside0 (RL w' g2 room s9 lf9 l9 false))
          case atStart => exact ⟨0, m, by omega, rfl, ⟨rfl⟩, O9, T9, R9⟩
          case round =>
            clear T9 R9 O9
            obtain ⟨j, own, hj, rfl, OL, OR, TT, RR⟩ := hrel
            by_cases hjl : j < m.length
            · have o1 := OR.out
              rw [← OL.out] at o1
              obtain ⟨go, cp, eo, hgo, -, cells, hcells⟩ := Kd.R_form o1 (by rw [OL.out]; omega)
              simp only [Value.slice.injEq] at eo
              obtain ⟨rfl, -, rfl⟩ := eo
              have hcl := Kd.R_cell (0 : Int) o1 (j : Int) (by omega) (by rw [OL.out]; omega)
              rw [Int.toNat_natCast] at hcl
              obtain ⟨hc1, hc2⟩ := hcl
              replace hc1 : wr.cell? ⟨go, j, none⟩ = some (.int .u8 (rdOf (0 : Int) own j)) := hc1
              generalize rdOf (0 : Int) own j = vj at hc1
              have hjb : decide ((j : Int) < m.length) = true := decide_eq_true (by omega)
              have hj0 : (0 : Int) ≤ j := by omega
              have hj1 : (j : Int) < m.length := by omega
              go_wp2
              go_roundg (m.length - (j + 1))
              case measure => omega
              case rel =>
                have hp := fun x : Int => Kd.R_put o1 (j : Int) x
                simp only [Int.toNat_natCast, OL.out] at hp
                have hg1 := Kd.R_ne OR.out TT.out.t (by decide)
                have hg2 := Kd.R_ne OR.out RR.out (by decide)
                exact ⟨j + 1, _, by omega, by go_num, ⟨(List.length_set ..).trans OL.out⟩, ⟨(hp _).1⟩, ⟨TT.out.away (hp _).2 hg1 (fun q hq => D9.out q hq) (fun q hq => Nat.le_trans HBS.out (Kd.R_base OR.out q hq))⟩, ⟨blk_grown RR.out (hp _).2 hg2⟩⟩
            · have hjb : decide ((j : Int) < m.length) = false := decide_eq_false (by omega)
              have hjb2 : decide (j < m.length) = false := decide_eq_false hjl
              have q4 := RR.out.cells.2.2.2.2
              have q3 := RR.out.cells.2.2.2.1
              go_wp2_with (fail)
              refine (TA.read TT.out (by have := S9.out; omega)).mono ?_
              rintro e w10 ⟨Ax, cx2, rfl, hrx, -, htx, hfx⟩
              have TX := Aside0.mk htx
              have RX := Aside0.mk (show RL w10 g2 room s9 lf9 l9 false from hfx.blk RR.out (fun h => h.elim))
              have cvx := fun n : Nat => cv (W := w10.drewN n) (c := cx2) (show Kd.C (Kd.int .u8) (w10.drewN n) Ax _ _ from hrx)
              clear q3 q4
              have q4 := RX.out.cells.2.2.2.2
              have q3 := RX.out.cells.2.2.2.1
              generalize strOfNums l9 = sx at q3 cvx
              clear hrx htx hfx
              go_wp2_with (fail)
              go_quiet (fail)
              go_wp2_with (fail)
              refine (code_nil _).mono ?_
              rintro e w11 ⟨rfl, rfl⟩
              have hcc : ((0 : Int) != 0) = false := by simp
              go_wp2_with (fail)
              go_roundg (n - (k + 1))
              case measure => omega
              case rel => exact ⟨k + 1, s9, A1, c1, l9, lf9, false, by omega, by go_num, ⟨TX.out.no ((Fr.refl No w10).drewN _)⟩, ⟨RX.out.drewN _⟩, S9⟩
    · have hlt2 : decide ((k : Int) < n) = false := decide_eq_false (by omega)
      have hlt3 : decide (k < n) = false := decide_eq_false hlt
      go_wp2
      go_ret
      exact ⟨rfl, TT.out.fr⟩


theorem tapePlays_walk (room : Int) (a1 : Option Addr) (len1 cap1 : Nat) (Wh N : Nat → Int) (Up : Nat → Bool) (X : Nat → Option Addr × Nat × List Int) (w : World) (w0 : (Lit.int .i64 room).wf = true) (w1 : DeedRow w a1 len1 Wh N Up X ∧ len1 ≤ 9223372036854775807) :
    Calls Try.prog 13 #[.int .i64 room, .slice a1 len1 cap1] w fun e w' => e = .returned (.bool true) ∧ Below w.heap.size w w' := by
  refine Calls.mono (R := fun e w' => e = .returned (.bool true) ∧ Fr No w w') ?_ (fun e w' h => ⟨h.1, h.2.no⟩)
  by_cases h : room < 1 ∨ 1048576 < room
  · exact plays_no w room a1 len1 cap1 h
  by_cases hn : 100 < len1
  · exact plays_long w room a1 len1 cap1 (by omega) (by omega) hn w1.2
  · exact plays_main w room a1 len1 cap1 Wh N Up X w1.1 (by omega) (by omega) (by omega)

end Go.Proofs.Ythlcognpfangkaa
