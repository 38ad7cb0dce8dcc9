/- The walk of the law WalKeeps: it returns true (the deeds' cells readable, each integer in its range). -/
import Derived.Test.YthlcognpfangkaaLd
namespace Go.Proofs.Ythlcognpfangkaa
open Go.RowKit Go.Proofs.YthlcognpfangkaaW.PrintWords Go.Proofs.YthlcognpfangkaaW.PrintLast Go.Proofs.YthlcognpfangkaaW.PrintMore
set_option linter.unusedVariables false
set_option linter.unusedSimpArgs false

section
variable {w0 w : World} {gl g c : Nat} {A : Option Addr} {l : List Int} {room left : Int} {v : Value} {o : List (List Int)}
/-- What came in is read as it was, whatever the tape does. -/
theorem LG.hbk (h : LG w0 w gl g A c l room left v o) {B : Option Addr} {n : Nat} {b : List Int} (hC : Kd.C (Kd.int .u8) w0 B n b) : ∀ W, Fr (TS g (.slice A l.length c)) w W → Kd.C (Kd.int .u8) W B n b :=
  fun W hW => C_on hC (h.la.ta.fr.trans hW (fun k hk => hk.elim (fun e => .inr (by rw [e]; exact h.la.ta.ge)) (fun e => .inr (Kd.R_base h.la.ta.r k e))))
theorem LG.fail (h : LG w0 w gl g A c l room left v o) (n : Int) (hn : n ≤ 9223372036854775807) :
    Calls Try.prog 65 #[.pointer (some ⟨g, 0, none⟩), .int .i64 n] w fun e w' => e = .returned (.tuple #[]) ∧ LG w0 w' gl g A c l room (failL n) v o ∧ Fr (LS gl g (.slice A l.length c) v) w w' :=
  (TA.fail h.la.ta n).mono fun e w' ⟨he, ht, hf⟩ => ⟨he, ⟨h.la.to_at ht hf, h.r1, h.r2, by unfold failL; split <;> omega, h.ok, h.sz, h.by_⟩, hf.mono (fun k hk => .inr (.inl hk))⟩
end
theorem keepAt9 {w W : World} {g t b : Nat} {cells : Array Value} {ok : Nat → Prop} {u : Value} {ys : List ByteArray} (hu : Kd.string.R 9 w b ok u ys) (hf : Fr (At g) w W) (hb : w.heap[g]? = some (.cells cells t (0, 0))) (ht : 9 ≠ t) : Kd.string.R 9 W b ok u ys :=
  Kd.R_mono (hf.R (Kd.R_tight2 rfl hu) (fun k hk (e : k = g) => Kd.R_ne hu hb ht (by rw [← e]; exact hk.1))) (fun k hk => hk.2)
theorem crashN_self (n : Nat) (keep : Int) : crashN n n keep = n := by
  unfold crashN
  split
  · omega
  · split <;> omega

set_option maxRecDepth 100000 in
theorem keeps_long (w : World) (keep : Int) (A : Option Addr) (n c : Nat) (hn : 30 < n) (hm : n ≤ 9223372036854775807) :
    Calls Try.prog 15 #[.slice A n c, .int .i64 keep] w fun e w' => e = .returned (.bool true) ∧ Fr No w w' := by
  have hb : decide (30 < n) = true := decide_eq_true hn
  have hb2 : decide (30 < (n : Int)) = true := decide_eq_true (by omega)
  go_enter Try.func15, Try.ntmps15
  go_wp2_with (fail)
  refine (up08 _).mono ?_
  rintro e w1 ⟨rfl, hf⟩
  have F1 := Aside0.mk hf
  clear hf
  go_wp2_with (fail)
  refine (TA.new F1.out 100000 (by omega) (by omega)).mono ?_
  rintro e w2 ⟨g, rfl, ht⟩
  have F2 := Aside0.mk ht.fr
  clear ht F1
  go_wp2
  go_ret
  exact ⟨rfl, F2.out⟩

set_option maxHeartbeats 8000000 in
set_option maxRecDepth 100000 in
theorem keeps_main (w : World) (keep : Int) (A : Option Addr) (n c : Nat) (Wh N : Nat → Int) (X : Nat → Option Addr × Nat × List Int) (hr : DeedRow3 w A n Wh N X) (hn : n ≤ 30) :
    Calls Try.prog 15 #[.slice A n c, .int .i64 keep] w fun e w' => e = .returned (.bool true) ∧ Fr No w w' := by
  have hb : decide (30 < n) = false := decide_eq_false (by omega)
  have hb2 : decide (30 < (n : Int)) = false := decide_eq_false (by omega)
  have HR := Aside0.mk hr
  clear hr
  go_enter Try.func15, Try.ntmps15
  go_wp2_with (fail)
  refine (up08 _).mono ?_
  rintro e w1 ⟨rfl, hf⟩
  have F1 := Aside0.mk hf
  clear hf
  go_wp2_with (fail)
  refine (TA.new F1.out 100000 (by omega) (by omega)).mono ?_
  rintro e w2 ⟨g, rfl, ht⟩
  have T2 := Aside0.mk ht
  clear ht F1
  go_wp2_with (fail)
  refine (open_LG T2.out (fun x hx => by cases hx) (by simp) (by omega) (by omega)).mono ?_
  rintro e w3 ⟨gl, v, rfl, hl, hgl, hf⟩
  rw [RS_nil] at hl
  have L3 := Aside0.mk (show LG w w3 gl g none 0 [] 100000 (-1) v [] from hl)
  clear hl hgl hf T2
  go_wp2_with (fail)
  go_loopg [10, 11] n (fun kq v10 v11 w' => ∃ (k : Nat) (A' : Option Addr) (c' : Nat) (o : List (List Int)) (left : Int) (v : Value), k + kq = n ∧ v11 = .int .i64 k ∧ Aside0 (LG w w' gl g A' c' (flatR o) 100000 left v o) ∧ Aside0 (Kd.string.R 9 w' w.heap.size (fun _ => True) v10 (o.map strOfNums)))
  case atStart => exact ⟨0, none, 0, [], -1, v, by omega, rfl, L3, ⟨Kd.R_nil _ _ _ _ _⟩⟩
  case round =>
    clear L3
    obtain ⟨k, A1, c1, o, left, v1, hk, rfl, LL, SS⟩ := hrel
    by_cases hlt : k < n
    · obtain ⟨⟨ad, rfl, q0, q1, q2⟩, hxc, hwr, hnr⟩ := HR.out k hlt
      have p0 := pw_cell_below LL.out.la.ta.fr.no q0
      have p1 := pw_cell_below LL.out.la.ta.fr.no q1
      have XC := Aside0.mk hxc
      have XR := Aside0.mk (And.intro hwr hnr)
      generalize Wh k = wh at p0 XR
      generalize N k = nn at p1 XR
      generalize X k = x at q2 XC
      obtain ⟨B, cx, m⟩ := x
      rw [add_field _ _ 1 (by omega)] at p1
      rw [add_field _ _ 2 (by omega)] at q2
      dsimp only at q2 XC
      have p2 := pw_cell_below LL.out.la.ta.fr.no q2
      have Q2 := Aside0.mk q2
      clear q0 q1 q2 hxc hwr hnr
      have hix : (0 : Int) ≤ k := by omega
      have hix2 : (k : Int) < n := by omega
      by_cases hm : 1000 < m.length
      · have hb5 : decide (1000 < m.length) = true := decide_eq_true hm
        have hb6 : decide (1000 < (m.length : Int)) = true := decide_eq_true (by omega)
        go_wp2
        go_ret
        exact ⟨rfl, LL.out.la.ta.fr⟩
      have hb5 : decide (1000 < m.length) = false := decide_eq_false hm
      have hb6 : decide (1000 < (m.length : Int)) = false := decide_eq_false (by omega)
      go_wp2_with (fail)
      refine (pick08 wr wh 3 (.inl rfl) XR.out.1.1 XR.out.1.2).mono ?_
      rintro e w7 ⟨r, hr3, rfl, rfl⟩
      obtain rfl | rfl | rfl : r = 0 ∨ r = 1 ∨ r = 2 := by omega
      · go_wp2_with (fail)
        refine (LG.fail LL.out nn XR.out.2.2).mono ?_
        rintro e w8 ⟨rfl, hl8, hf8⟩
        have SS8 := Aside0.mk (LL.out.keep9 SS.out hf8)
        clear p0 p1 p2 LL SS hf8
        have LL := Aside0.mk hl8
        have SS := SS8
        clear hl8 SS8
        have p2 := pw_cell_below LL.out.la.ta.fr.no Q2.out
        have HB := Aside0.mk (LL.out.hbk XC.out.1)
        go_wp2_with (fail)
        refine (LG.app LL.out HB.out XC.out.2.1 XC.out.2.2.1).mono ?_
        rintro e w9 ⟨rfl, A9, c9, v9, hl9, hf9⟩
        have S9 := Aside0.mk (LL.out.keep9 SS.out hf9)
        have CD := Aside0.mk (lapC_le (failL nn) 100000 (flatR o).length m)
        generalize lapF (failL nn) 100000 (flatR o).length m = lf at hl9
        generalize lapC (failL nn) 100000 (flatR o).length m = cd at hl9 CD ⊢
        by_cases hcd : cd = 0
        · subst hcd
          have L9 := Aside0.mk (show LG w w9 gl g A9 c9 (flatR (o ++ [m])) 100000 lf v9 (o ++ [m]) from by rw [flatR_app]; exact hl9)
          rw [errOf_0]
          have y2 := pw_cell_below L9.out.la.ta.fr.no Q2.out
          have cvm := cv (c := cx) (C_on XC.out.1 L9.out.la.ta.fr)
          have HO9 := Aside0.mk L9.out.len
          clear hl9 hf9 LL SS HB p2
          go_wp2_with (((with_reducible refine gate_builtin (b := .append) (xs := #[.tmp 82, .tmp 89]) rfl ?_); at_builtin; refine app_str w.heap.size rfl 82 89 rfl _ (o.map strOfNums) (strOfNums m) rfl rfl S9.out L9.out.la.ta.fr.size ?aL ?_; (case aL => rw [List.length_map]; have := HO9.out; rw [List.length_append, List.length_singleton] at this; omega); intro v11 w11 hr11 hg11; have S11 := Aside0.mk hr11; have L11 := Aside0.mk (L9.out.away9 S9.out (Nat.le_refl _) hg11); clear hr11 hg11))
          go_roundg (n - (k + 1))
          case measure => omega
          case rel => exact ⟨k + 1, A9, c9, o ++ [m], lf, v9, by omega, by go_num, L11, ⟨by rw [List.map_append]; exact S11.out⟩⟩
        · rw [errOf_pos hcd]
          have L9 := Aside0.mk (show LG w w9 gl g A9 c9 (flatR o) 100000 lf v9 o from by unfold lapL lapO at hl9; rw [if_neg hcd, if_neg hcd] at hl9; exact hl9)
          clear hl9 hf9 LL SS HB p2
          go_wp2_with (fail)
          go_roundg (n - (k + 1))
          case measure => omega
          case rel => exact ⟨k + 1, A9, c9, o, lf, v9, by omega, by go_num, L9, S9⟩
      · clear p0 p1
        have HB := Aside0.mk (LL.out.hbk XC.out.1)
        go_wp2_with (fail)
        refine (LG.app LL.out HB.out XC.out.2.1 XC.out.2.2.1).mono ?_
        rintro e w9 ⟨rfl, A9, c9, v9, hl9, hf9⟩
        have S9 := Aside0.mk (LL.out.keep9 SS.out hf9)
        have CD := Aside0.mk (lapC_le left 100000 (flatR o).length m)
        generalize lapF left 100000 (flatR o).length m = lf at hl9
        generalize lapC left 100000 (flatR o).length m = cd at hl9 CD ⊢
        by_cases hcd : cd = 0
        · subst hcd
          have L9 := Aside0.mk (show LG w w9 gl g A9 c9 (flatR (o ++ [m])) 100000 lf v9 (o ++ [m]) from by rw [flatR_app]; exact hl9)
          rw [errOf_0]
          have y2 := pw_cell_below L9.out.la.ta.fr.no Q2.out
          have cvm := cv (c := cx) (C_on XC.out.1 L9.out.la.ta.fr)
          have HO9 := Aside0.mk L9.out.len
          clear hl9 hf9 LL SS HB p2
          go_wp2_with (((with_reducible refine gate_builtin (b := .append) (xs := #[.tmp 82, .tmp 89]) rfl ?_); at_builtin; refine app_str w.heap.size rfl 82 89 rfl _ (o.map strOfNums) (strOfNums m) rfl rfl S9.out L9.out.la.ta.fr.size ?aL ?_; (case aL => rw [List.length_map]; have := HO9.out; rw [List.length_append, List.length_singleton] at this; omega); intro v11 w11 hr11 hg11; have S11 := Aside0.mk hr11; have L11 := Aside0.mk (L9.out.away9 S9.out (Nat.le_refl _) hg11); clear hr11 hg11))
          go_roundg (n - (k + 1))
          case measure => omega
          case rel => exact ⟨k + 1, A9, c9, o ++ [m], lf, v9, by omega, by go_num, L11, ⟨by rw [List.map_append]; exact S11.out⟩⟩
        · rw [errOf_pos hcd]
          have L9 := Aside0.mk (show LG w w9 gl g A9 c9 (flatR o) 100000 lf v9 o from by unfold lapL lapO at hl9; rw [if_neg hcd, if_neg hcd] at hl9; exact hl9)
          clear hl9 hf9 LL SS HB p2
          go_wp2_with (fail)
          go_roundg (n - (k + 1))
          case measure => omega
          case rel => exact ⟨k + 1, A9, c9, o, lf, v9, by omega, by go_num, L9, S9⟩
      · clear p0 p1
        have HB := Aside0.mk (LL.out.hbk XC.out.1)
        go_wp2_with (fail)
        refine (LG.app LL.out HB.out XC.out.2.1 XC.out.2.2.1).mono ?_
        rintro e w9 ⟨rfl, A9, c9, v9, hl9, hf9⟩
        have S9 := Aside0.mk (LL.out.keep9 SS.out hf9)
        have CD := Aside0.mk (lapC_le left 100000 (flatR o).length m)
        generalize lapF left 100000 (flatR o).length m = lf at hl9
        generalize lapC left 100000 (flatR o).length m = cd at hl9 CD ⊢
        by_cases hcd : cd = 0
        · subst hcd
          have L9 := Aside0.mk (show LG w w9 gl g A9 c9 (flatR (o ++ [m])) 100000 lf v9 (o ++ [m]) from by rw [flatR_app]; exact hl9)
          rw [errOf_0]
          have y2 := pw_cell_below L9.out.la.ta.fr.no Q2.out
          have cvm := cv (c := cx) (C_on XC.out.1 L9.out.la.ta.fr)
          have HO9 := Aside0.mk L9.out.len
          clear hl9 hf9 LL SS HB p2
          go_wp2_with (((with_reducible refine gate_builtin (b := .append) (xs := #[.tmp 82, .tmp 89]) rfl ?_); at_builtin; refine app_str w.heap.size rfl 82 89 rfl _ (o.map strOfNums) (strOfNums m) rfl rfl S9.out L9.out.la.ta.fr.size ?aL ?_; (case aL => rw [List.length_map]; have := HO9.out; rw [List.length_append, List.length_singleton] at this; omega); intro v11 w11 hr11 hg11; have S11 := Aside0.mk hr11; have L11 := Aside0.mk (L9.out.away9 S9.out (Nat.le_refl _) hg11); clear hr11 hg11))
          go_roundg (n - (k + 1))
          case measure => omega
          case rel => exact ⟨k + 1, A9, c9, o ++ [m], lf, v9, by omega, by go_num, L11, ⟨by rw [List.map_append]; exact S11.out⟩⟩
        · rw [errOf_pos hcd]
          have L9 := Aside0.mk (show LG w w9 gl g A9 c9 (flatR o) 100000 lf v9 o from by unfold lapL lapO at hl9; rw [if_neg hcd, if_neg hcd] at hl9; exact hl9)
          clear hl9 hf9 LL SS HB p2
          go_wp2_with (fail)
          go_roundg (n - (k + 1))
          case measure => omega
          case rel => exact ⟨k + 1, A9, c9, o, lf, v9, by omega, by go_num, L9, S9⟩
    · have hlt2 : decide ((k : Int) < n) = false := decide_eq_false (by omega)
      have hlt3 : decide (k < n) = false := decide_eq_false hlt
      clear HR
      have hlen := LL.out.len
      go_wp2_with (fail)
      refine (TA.crash LL.out.la.ta (Nat.le_refl _) (by omega) keep).mono ?_
      rw [crashN_self, List.take_length]
      rintro e w8 ⟨rfl, ht8, hf8⟩
      have S8 := Aside0.mk (keepAt9 SS.out hf8 LL.out.la.ta.t (by decide))
      have T8 := Aside0.mk ht8
      have BY := Aside0.mk LL.out.by_
      have R1 := Aside0.mk LL.out.r1
      have RF := Aside0.mk (show RS (flatR o) 0 = (o, (flatR o).length) from RS_flat o [] LL.out.ok)
      clear ht8 hf8 LL SS hlen
      go_wp2_with (fail)
      refine (open_LG T8.out BY.out R1.out (by omega) (by omega)).mono ?_
      rw [RF.out, List.take_length]
      rintro e w9 ⟨gl9, v9, rfl, hl9, hgl9, hf9⟩
      have L9 := Aside0.mk hl9
      have S9 := Aside0.mk (keepAt9 S8.out hf9 T8.out.t (by decide))
      obtain ⟨A10, c10, e10⟩ := Kd.R_slice S9.out
      rw [List.length_map] at e10
      subst e10
      obtain ⟨A11, c11, e11⟩ := Kd.R_slice L9.out.la.r
      subst e11
      have R9 := Aside0.mk (Kd.R_reads' L9.out.la.r).2.2
      have HO9 := Aside0.mk L9.out.len
      clear hl9 hf9 T8 S8 BY R1 RF hgl9
      go_wp2_with (first
        | (go_at_call 74; refine (all_calls _ gl9 g A11 c11 _ _ L9.out.la.lb R9.out L9.out.recs).mono ?_; rintro e w11 ⟨v11, rfl, hr11, hf11⟩; have F11 := Aside0.mk (L9.out.la.ta.fr.on hf11); have S11 := Aside0.mk (Kd.R_reads' (hf11.Rlow S9.out (fun _ h => h.elim))).2.2; obtain ⟨A12, c12, e12⟩ := Kd.R_slice hr11; subst e12; have P11 := Aside0.mk (Kd.R_reads' hr11).2.2; rw [List.length_map] at S11; clear hr11 hf11)
        | (go_at_call 70; refine (alike_calls _ A12 c12 A10 c10 o P11.out S11.out (by have := HO9.out; omega)).mono ?_; rintro e w12 ⟨rfl, hd⟩; have F12 := Aside0.mk (F11.out.drawn hd); clear hd))
      go_ret
      exact ⟨rfl, F12.out⟩

theorem walKeeps_walk (a0 : Option Addr) (len0 cap0 : Nat) (Wh N : Nat → Int) (X : Nat → Option Addr × Nat × List Int) (keep : Int) (w : World) (w0 : DeedRow3 w a0 len0 Wh N X ∧ len0 ≤ 9223372036854775807) (w1 : (Lit.int .i64 keep).wf = true) :
    Calls Try.prog 15 #[.slice a0 len0 cap0, .int .i64 keep] w fun e w' => e = .returned (.bool true) ∧ Below w.heap.size w w' := by
  refine Calls.mono (R := fun e w' => e = .returned (.bool true) ∧ Fr No w w') ?_ (fun e w' h => ⟨h.1, h.2.no⟩)
  by_cases hn : 30 < len0
  · exact keeps_long w keep a0 len0 cap0 hn w0.2
  · exact keeps_main w keep a0 len0 cap0 Wh N X w0.1 (by omega)

end Go.Proofs.Ythlcognpfangkaa
