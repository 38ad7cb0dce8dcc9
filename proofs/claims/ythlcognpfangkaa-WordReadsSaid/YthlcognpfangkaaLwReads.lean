/- The walk of the law WordReads: it returns true (the arguments readable, each byte a byte, the lengths within the reach). -/
import Derived.Test.YthlcognpfangkaaSp
import Derived.Test.YthlcognpfangkaaOp
namespace Go.Proofs.Ythlcognpfangkaa
open Go.RowKit Go.Proofs.YthlcognpfangkaaW.PrintWords Go.Proofs.YthlcognpfangkaaW.PrintLast Go.Proofs.YthlcognpfangkaaW.PrintMore
set_option linter.unusedVariables false
set_option linter.unusedSimpArgs false

/-- What the walk is told of the asks: each one's three cells. -/
def AskRow (w : World) (A : Option Addr) (n : Nat) (T : Nat → Bool) (Wd Ms : Nat → Int) : Prop :=
  ∀ k, k < n → ∃ ad, A = some ad ∧ w.cell? (ad.add (k * 3)) = some (.bool (T k)) ∧ w.cell? (ad.add (k * 3 + 1)) = some (.int .i64 (Wd k)) ∧ w.cell? (ad.add (k * 3 + 2)) = some (.int .i64 (Ms k))

theorem Rb.drew {w : World} {g : Nat} {A : Option Addr} {n c : Nat} {a b : Int} (h : Rb w g A n c a b) : Rb w.drew g A n c a b := h
theorem Mb.drew {w : World} {g : Nat} {A : Option Addr} {n c : Nat} {a b : Int} (h : Mb w g A n c a b) : Mb w.drew g A n c a b := h

theorem reads_early (w : World) (A0 : Option Addr) (c0 : Nat) (b : List Int) (A1 : Option Addr) (n1 c1 : Nat) (hl : b.length ≤ 140737488351232) (hl1 : n1 ≤ 9223372036854775807) (h : 3000 < b.length ∨ 100 < n1) :
    Calls Try.prog 6 #[.slice A0 b.length c0, .slice A1 n1 c1] w fun e w' => e = .returned (.bool true) ∧ Fr No w w' := by
  by_cases hb : 3000 < b.length
  · have h1 : decide (3000 < b.length) = true := decide_eq_true hb
    have h1i : decide (3000 < (b.length : Int)) = true := decide_eq_true (by omega)
    clear h
    go_enter Try.func6, Try.ntmps6
    go_wp2_with (go_at_call 30; refine (up01 _).mono ?_; rintro e w1 ⟨rfl, hf⟩; have HF := Aside0.mk hf; clear hf)
    go_ret
    exact ⟨rfl, HF.out⟩
  · have h1 : decide (3000 < b.length) = false := decide_eq_false hb
    have h2 : decide (100 < n1) = true := decide_eq_true (by omega)
    have h1i : decide (3000 < (b.length : Int)) = false := decide_eq_false (by omega)
    have h2i : decide (100 < (n1 : Int)) = true := decide_eq_true (by omega)
    clear h
    go_enter Try.func6, Try.ntmps6
    go_wp2_with (go_at_call 30; refine (up01 _).mono ?_; rintro e w1 ⟨rfl, hf⟩; have HF := Aside0.mk hf; clear hf)
    go_ret
    exact ⟨rfl, HF.out⟩

set_option maxHeartbeats 8000000 in
set_option maxRecDepth 100000 in
theorem reads_main (w : World) (A0 : Option Addr) (c0 : Nat) (b : List Int) (A1 : Option Addr) (n1 c1 : Nat) (T : Nat → Bool) (Wd Ms : Nat → Int) (hr0 : Kd.C (Kd.int .u8) w A0 b.length b) (hc0 : b.length ≤ c0) (hby : ∀ x ∈ b, 0 ≤ x ∧ x ≤ 255) (hr1 : AskRow w A1 n1 T Wd Ms)
    (hb : b.length ≤ 3000) (hn : n1 ≤ 100) :
    Calls Try.prog 6 #[.slice A0 b.length c0, .slice A1 n1 c1] w fun e w' => e = .returned (.bool true) ∧ Fr No w w' := by
  have h1 : decide (3000 < b.length) = false := decide_eq_false (by omega)
  have h2 : decide (100 < n1) = false := decide_eq_false (by omega)
  have h1i : decide (3000 < (b.length : Int)) = false := decide_eq_false (by omega)
  have h2i : decide (100 < (n1 : Int)) = false := decide_eq_false (by omega)
  have HR0 := Aside0.mk hr0
  have HC0 := Aside0.mk hc0
  have HBY := Aside0.mk hby
  have HR1 := Aside0.mk hr1
  have hu65 := Try.underlying65
  clear hr0 hc0 hby hr1
  go_enter Try.func6, Try.ntmps6
  go_wp2_with (fail)
  refine (up01 _).mono ?_
  rintro e w1 ⟨rfl, hf⟩
  have F1 := Aside0.mk hf
  clear hf
  go_wp2_with (fail)
  refine (read_calls _ A0 b.length c0).mono ?_
  rintro e w2 ⟨g, rfl, hg, hr, hf⟩
  have F2 := Aside0.mk (F1.out.on hf)
  have G2 := Aside0.mk (show w.heap.size ≤ g from by rw [hg]; exact F1.out.size)
  have RB2 := Aside0.mk hr
  clear hg hr hf
  go_wp2_with (fail)
  clear h1 h2 h1i h2i
  have F3 := Aside0.mk (F2.out.alloc (.cells #[.slice A0 b.length c0, .int .i64 0, .int .i64 (-1)] 65))
  have RB3 := Aside0.mk (show Rb (w2.alloc (.cells #[.slice A0 b.length c0, .int .i64 0, .int .i64 (-1)] 65)) g A0 b.length c0 0 (-1) from blk_alloc RB2.out _)
  have MB3 := Aside0.mk (show Mb (w2.alloc (.cells #[.slice A0 b.length c0, .int .i64 0, .int .i64 (-1)] 65)) w2.heap.size A0 b.length c0 0 (-1) from blk_new w2 _)
  have G3 := Aside0.mk (show w.heap.size ≤ w2.heap.size from F2.out.size)
  generalize w2.alloc (.cells #[.slice A0 b.length c0, .int .i64 0, .int .i64 (-1)] 65) = w3 at F3 RB3 MB3 ⊢
  generalize w2.heap.size = gm at MB3 G3 ⊢
  clear F2 RB2 F1
  go_loopg [8] n1 (fun kq v8 w' => ∃ (k a : Nat) (bd : Int), k + kq = n1 ∧ v8 = .int .i64 k ∧ Aside0 (Rb w' g A0 b.length c0 a bd) ∧ Aside0 (Mb w' gm A0 b.length c0 a bd) ∧ Aside0 (okS b a bd) ∧ Aside0 (Fr No w w'))
  case atStart => exact ⟨0, 0, -1, by omega, rfl, ⟨RB3.out⟩, ⟨MB3.out⟩, ⟨by unfold okS; omega⟩, ⟨F3.out⟩⟩
  case round =>
    clear RB3 MB3 F3
    obtain ⟨k, a, bd, hk, rfl, RB, MB, OK, HF⟩ := hrel
    by_cases hlt : k < n1
    · obtain ⟨ad, rfl, q0, q1, q2⟩ := HR1.out k hlt
      have p0 := pw_cell_below HF.out.no q0
      have p1 := pw_cell_below HF.out.no q1
      have p2 := pw_cell_below HF.out.no q2
      have GN := Aside0.mk (blk_ne RB.out MB.out (by decide))
      rw [add_field _ _ 1 (by omega)] at q1
      rw [add_field _ _ 2 (by omega)] at q2
      clear p1 p2
      have hix : (0 : Int) ≤ k := by omega
      have hix2 : (k : Int) < n1 := by omega
      cases hT : T k with
      | true =>
        rw [hT] at p0
        have hok := textS_ok (Ms k) OK.out
        have hct := fun (W : World) (h1 : Below w.heap.size w W) (h2 : Rb W g A0 b.length c0 a bd) => text_any w W g A0 c0 b a bd (Ms k) h1 G2.out HR0.out HC0.out HBY.out (by omega) h2 OK.out
        have hcm := fun (W : World) (h1 : Below w.heap.size w W) (h2 : Mb W gm A0 b.length c0 a bd) => mtext_any w W gm A0 c0 b a bd (Ms k) h1 G3.out HR0.out HC0.out HBY.out (by omega) h2 OK.out
        generalize textS b a bd (Ms k) = ts at hok hct hcm
        obtain ⟨sl, sa, sb⟩ := ts
        have CT := Aside0.mk hct
        have CM := Aside0.mk hcm
        have OK2 := Aside0.mk (show okS b sa sb from hok)
        have Q2 := Aside0.mk q2
        clear hT q0 q1 q2 hct hcm hok
        go_wp2
        clear p0

        refine start_ (n := 17) (S := fun w' => w'.cell? ⟨(ad.add (k * 3)).block, (ad.add (k * 3)).off + 2, none⟩ = some (.int .i64 (Ms k))) (ds := []) #[false, false, false, false, false, false, false, false, false, false, false, false, false, false, false, false, false] (by kernel_rfl) rfl rfl (pw_cell_below HF.out.drew.no Q2.out) (fun hHeld => ?_)
        refine pure_ (i := 0) (N := some 37) (v := ?_) (a' := ?_) #[true, false, false, false, false, false, false, false, false, false, false, false, false, false, false, false, false] rfl rfl (by kernel_rfl) (fun _ _ _ h => h) (Or.inl ⟨by rfl, ?_⟩) ?_ ?_
        rotate_left
        · intro w'
          go_simp
          with_reducible rfl
        rotate_left
        · simp only [Act.put, List.setIfInBounds_toArray, List.set_cons_zero, List.set_cons_succ, i64_w, i32_w]
          rfl
        refine pure_ (i := 1) (N := some 38) (v := ?_) (a' := ?_) #[true, true, false, false, false, false, false, false, false, false, false, false, false, false, false, false, false] rfl rfl (by kernel_rfl) (fun _ _ _ h => h) (Or.inl ⟨by rfl, ?_⟩) ?_ ?_
        rotate_left
        · intro w'
          go_simp
          with_reducible rfl
        rotate_left
        · simp only [Act.put, List.setIfInBounds_toArray, List.set_cons_zero, List.set_cons_succ, i64_w, i32_w]
          rfl
        refine pure_ (i := 2) (N := some 39) (v := ?_) (a' := ?_) #[true, true, true, false, false, false, false, false, false, false, false, false, false, false, false, false, false] rfl rfl (by kernel_rfl) (fun _ _ _ h => h) (Or.inl ⟨by rfl, ?_⟩) ?_ ?_
        rotate_left
        · intro w'
          go_simp
          with_reducible rfl
        rotate_left
        · simp only [Act.put, List.setIfInBounds_toArray, List.set_cons_zero, List.set_cons_succ, i64_w, i32_w]
          rfl
        refine pure_ (i := 3) (N := some 40) (v := ?_) (a' := ?_) #[true, true, true, true, false, false, false, false, false, false, false, false, false, false, false, false, false] rfl rfl (by kernel_rfl) (fun _ _ _ h => h) (Or.inl ⟨by rfl, ?_⟩) ?_ ?_
        rotate_left
        · intro w'
          go_simp
          with_reducible rfl
        rotate_left
        · simp only [Act.put, List.setIfInBounds_toArray, List.set_cons_zero, List.set_cons_succ, i64_w, i32_w]
          rfl
        refine pure_ (i := 4) (N := some 41) (v := ?_) (a' := ?_) #[true, true, true, true, true, false, false, false, false, false, false, false, false, false, false, false, false] rfl rfl (by kernel_rfl) (fun _ _ _ h => h) (Or.inl ⟨by rfl, ?_⟩) ?_ ?_
        rotate_left
        · intro w'
          go_simp
          with_reducible rfl
        rotate_left
        · simp only [Act.put, List.setIfInBounds_toArray, List.set_cons_zero, List.set_cons_succ, i64_w, i32_w]
          rfl
        refine pure_ (i := 8) (N := some 45) (v := ?_) (a' := ?_) #[true, true, true, true, true, false, false, false, true, false, false, false, false, false, false, false, false] rfl rfl (by kernel_rfl) (fun _ _ _ h => h) (Or.inl ⟨by rfl, ?_⟩) ?_ ?_
        rotate_left
        · intro w'
          go_simp
          with_reducible rfl
        rotate_left
        · simp only [Act.put, List.setIfInBounds_toArray, List.set_cons_zero, List.set_cons_succ, i64_w, i32_w]
          rfl
        refine pure_ (i := 9) (N := some 46) (v := ?_) (a' := ?_) #[true, true, true, true, true, false, false, false, true, true, false, false, false, false, false, false, false] rfl rfl (by kernel_rfl) (fun _ _ _ h => h) (Or.inl ⟨by rfl, ?_⟩) ?_ ?_
        rotate_left
        · intro w'
          go_simp
          with_reducible rfl
        rotate_left
        · simp only [Act.put, List.setIfInBounds_toArray, List.set_cons_zero, List.set_cons_succ, i64_w, i32_w]
          rfl
        refine pure_ (i := 10) (N := some 47) (v := ?_) (a' := ?_) #[true, true, true, true, true, false, false, false, true, true, true, false, false, false, false, false, false] rfl rfl (by kernel_rfl) (fun _ _ _ h => h) (Or.inl ⟨by rfl, ?_⟩) ?_ ?_
        rotate_left
        · intro w'
          go_simp
          with_reducible rfl
        rotate_left
        · simp only [Act.put, List.setIfInBounds_toArray, List.set_cons_zero, List.set_cons_succ, i64_w, i32_w]
          rfl
        refine pure_ (i := 11) (N := some 48) (v := ?_) (a' := ?_) #[true, true, true, true, true, false, false, false, true, true, true, true, false, false, false, false, false] rfl rfl (by kernel_rfl) (fun _ _ _ h => h) (Or.inl ⟨by rfl, ?_⟩) ?_ ?_
        rotate_left
        · intro w'
          go_simp
          with_reducible rfl
        rotate_left
        · simp only [Act.put, List.setIfInBounds_toArray, List.set_cons_zero, List.set_cons_succ, i64_w, i32_w]
          rfl
        refine pure_ (i := 12) (N := some 49) (v := ?_) (a' := ?_) #[true, true, true, true, true, false, false, false, true, true, true, true, true, false, false, false, false] rfl rfl (by kernel_rfl) (fun _ _ _ h => h) (Or.inl ⟨by rfl, ?_⟩) ?_ ?_
        rotate_left
        · intro w'
          go_simp
          with_reducible rfl
        rotate_left
        · simp only [Act.put, List.setIfInBounds_toArray, List.set_cons_zero, List.set_cons_succ, i64_w, i32_w]
          rfl
        refine take_ (i := 5) (N := some 42) (v := ?_) (a' := ?_) #[true, true, true, true, true, true, false, false, true, true, true, true, true, false, false, false, false] rfl rfl (by kernel_rfl) (fun _ _ _ h => h) (Or.inl ⟨by rfl, ?_⟩) hHeld ?_ ?_
        rotate_left
        · intro w' s0
          go_simp
          with_reducible rfl
        rotate_left
        · simp only [Act.put, List.setIfInBounds_toArray, List.set_cons_zero, List.set_cons_succ, i64_w, i32_w]
          rfl
        refine take_ (i := 13) (N := some 50) (v := ?_) (a' := ?_) #[true, true, true, true, true, true, false, false, true, true, true, true, true, true, false, false, false] rfl rfl (by kernel_rfl) (fun _ _ _ h => h) (Or.inl ⟨by rfl, ?_⟩) hHeld ?_ ?_
        rotate_left
        · intro w' s0
          go_simp
          with_reducible rfl
        rotate_left
        · simp only [Act.put, List.setIfInBounds_toArray, List.set_cons_zero, List.set_cons_succ, i64_w, i32_w]
          rfl
        refine one_ (i := 6) (N := some 43) #[true, true, true, true, true, true, true, false, true, true, true, true, true, true, false, false, false] rfl rfl (by kernel_rfl) (by decide) (fun K hK => ?_)
        refine goes_ Try.func38 (by kernel_rfl) rfl #[.pointer (some ⟨g, 0, none⟩), .int .i64 (Ms k)] (by rfl) rfl rfl (by simp only [List.map_toArray, List.map_cons, List.map_nil]; rfl) ?_
        with_reducible refine (CT.out _ HF.out.drew.no RB.out.drew).mono ?_
        rintro e w4 ⟨v4, rfl, hr4, hb4, hf4⟩
        refine ⟨_, rfl, ?_⟩
        have F4 := Aside0.mk (HF.out.drew.trans hf4 (fun i (hi : i = g) => .inr (by have := G2.out; omega)))
        have RB4 := Aside0.mk hb4
        have MB4 := Aside0.mk (show Mb w4 gm A0 b.length c0 a bd from hf4.blk MB.out.drew (fun (h : gm = g) => GN.out h.symm))
        obtain ⟨A4, c4, e4, _, hrd4⟩ := R_out hr4
        replace e4 : v4 = .slice A4 sl.length c4 := e4
        subst e4
        have O4 := Aside0.mk hr4
        have cv4 : (convert 47 9 (.slice A4 sl.length c4)).run Try.prog w4 = .ok (.string (strOfNums sl)) w4 := cv (c := c4) hrd4
        clear hr4 hb4 hf4 hrd4
        refine hK.out _ _ (pw_cell_below F4.out.no Q2.out) (fun hHeld => ?_)
        clear hK K
        refine norm_ (a' := ?_) ?_ ?_
        rotate_left
        · show Act.put _ (some 43) _ = _
          simp only [Act.put, List.setIfInBounds_toArray, List.set_cons_zero, List.set_cons_succ, i64_w, i32_w]
          rfl
        refine join_ (σ := Value) 1 #[true, true, true, true, true, true, true, true, true, true, true, true, true, true, true, true, false] (fun s_ => [(44, .string (strOfNums sl)), (51, s_), (52, .string (strOfNums sl))]) (fun s_ w' => Rb w' g A0 b.length c0 sa sb ∧ Mb w' gm A0 b.length c0 sa sb ∧ Fr No w w') ?_ ?_
        rotate_left
        · intro hCont
          refine two_ (i := 7) (j := 14) (Ni := some 44) (Nj := some 51) #[true, true, true, true, true, true, true, true, true, true, true, true, true, true, false, false, false] #[true, true, true, true, true, true, true, false, true, true, true, true, true, true, true, false, false] rfl rfl rfl rfl (by kernel_rfl) (by decide) (by decide) (fun K hK => ?_) (fun K hK => ?_)
          · skip
            refine value_ (w1 := ?_) (v := ?_) (by rfl) rfl ?_ ?_
            rotate_left 2
            · go_simp
              constructor
              · rfl
              · rfl
            refine hK.out _ _ (hHeld) (fun hHeld => ?_)
            clear hK K
            refine norm_ (a' := ?_) ?_ ?_
            rotate_left
            · show Act.put _ (some 44) _ = _
              simp only [Act.put, List.setIfInBounds_toArray, List.set_cons_zero, List.set_cons_succ, i64_w, i32_w]
              rfl
            refine one_ (i := 14) (N := some 51) #[true, true, true, true, true, true, true, true, true, true, true, true, true, true, true, false, false] rfl rfl (by kernel_rfl) (by decide) (fun K hK => ?_)
            refine goes_ Try.func39 (by kernel_rfl) rfl #[.pointer (some ⟨gm, 0, none⟩), .int .i64 (Ms k)] (by rfl) rfl rfl (by simp only [List.map_toArray, List.map_cons, List.map_nil]; rfl) ?_
            with_reducible refine (CM.out _ F4.out.no MB4.out).mono ?_
            rintro e w5 ⟨v5, rfl, hr5, hb5, hf5⟩
            refine ⟨_, rfl, ?_⟩
            have F5 := Aside0.mk (F4.out.trans hf5 (fun i (hi : i = gm) => .inr (by have := G3.out; omega)))
            have MB5 := Aside0.mk hb5
            have RB5 := Aside0.mk (show Rb w5 g A0 b.length c0 sa sb from hf5.blk RB4.out GN.out)
            obtain ⟨A5, c5, e5, _, hrd5⟩ := R_out hr5
            replace e5 : v5 = .slice A5 sl.length c5 := e5
            subst e5
            have cv5 : (convert 47 9 (.slice A5 sl.length c5)).run Try.prog w5 = .ok (.string (strOfNums sl)) w5 := cv (c := c5) hrd5
            have cv6 : (convert 47 9 (.slice A4 sl.length c4)).run Try.prog w5 = .ok (.string (strOfNums sl)) w5 := cv (c := c4) (Kd.R_reads' (hf5.Rtyp O4.out MB4.out (by decide))).2.2
            clear hr5 hb5 hf5 hrd5
            refine hK.out _ _ (pw_cell_below F5.out.no Q2.out) (fun hHeld => ?_)
            clear hK K
            refine norm_ (a' := ?_) ?_ ?_
            rotate_left
            · show Act.put _ (some 51) _ = _
              simp only [Act.put, List.setIfInBounds_toArray, List.set_cons_zero, List.set_cons_succ, i64_w, i32_w]
              rfl
            refine one_ (i := 15) (N := some 52) #[true, true, true, true, true, true, true, true, true, true, true, true, true, true, true, true, false] rfl rfl (by kernel_rfl) (by decide) (fun K hK => ?_)
            refine value_ (w1 := ?_) (v := ?_) (by rfl) rfl ?_ ?_
            rotate_left 2
            · go_simp
              constructor
              · rfl
              · rfl
            refine hK.out _ _ (hHeld) (fun hHeld => ?_)
            clear hK K
            refine norm_ (a' := ?_) ?_ ?_
            rotate_left
            · show Act.put _ (some 52) _ = _
              simp only [Act.put, List.setIfInBounds_toArray, List.set_cons_zero, List.set_cons_succ, i64_w, i32_w]
              rfl
            exact norm_ (by simp only [putAll, Act.put, List.setIfInBounds_toArray, List.set_cons_zero, List.set_cons_succ]) (hCont (.slice A5 sl.length c5) _ ⟨RB5.out, MB5.out, F5.out⟩)
          · skip
            refine goes_ Try.func39 (by kernel_rfl) rfl #[.pointer (some ⟨gm, 0, none⟩), .int .i64 (Ms k)] (by rfl) rfl rfl (by simp only [List.map_toArray, List.map_cons, List.map_nil]; rfl) ?_
            with_reducible refine (CM.out _ F4.out.no MB4.out).mono ?_
            rintro e w5 ⟨v5, rfl, hr5, hb5, hf5⟩
            refine ⟨_, rfl, ?_⟩
            have F5 := Aside0.mk (F4.out.trans hf5 (fun i (hi : i = gm) => .inr (by have := G3.out; omega)))
            have MB5 := Aside0.mk hb5
            have RB5 := Aside0.mk (show Rb w5 g A0 b.length c0 sa sb from hf5.blk RB4.out GN.out)
            obtain ⟨A5, c5, e5, _, hrd5⟩ := R_out hr5
            replace e5 : v5 = .slice A5 sl.length c5 := e5
            subst e5
            have cv5 : (convert 47 9 (.slice A5 sl.length c5)).run Try.prog w5 = .ok (.string (strOfNums sl)) w5 := cv (c := c5) hrd5
            have cv6 : (convert 47 9 (.slice A4 sl.length c4)).run Try.prog w5 = .ok (.string (strOfNums sl)) w5 := cv (c := c4) (Kd.R_reads' (hf5.Rtyp O4.out MB4.out (by decide))).2.2
            clear hr5 hb5 hf5 hrd5
            refine hK.out _ _ (pw_cell_below F5.out.no Q2.out) (fun hHeld => ?_)
            clear hK K
            refine norm_ (a' := ?_) ?_ ?_
            rotate_left
            · show Act.put _ (some 51) _ = _
              simp only [Act.put, List.setIfInBounds_toArray, List.set_cons_zero, List.set_cons_succ, i64_w, i32_w]
              rfl
            refine two_ (i := 7) (j := 15) (Ni := some 44) (Nj := some 52) #[true, true, true, true, true, true, true, true, true, true, true, true, true, true, true, false, false] #[true, true, true, true, true, true, true, false, true, true, true, true, true, true, true, true, false] rfl rfl rfl rfl (by kernel_rfl) (by decide) (by decide) (fun K hK => ?_) (fun K hK => ?_)
            · skip
              refine value_ (w1 := ?_) (v := ?_) (by rfl) rfl ?_ ?_
              rotate_left 2
              · go_simp
                constructor
                · rfl
                · rfl
              refine hK.out _ _ (hHeld) (fun hHeld => ?_)
              clear hK K
              refine norm_ (a' := ?_) ?_ ?_
              rotate_left
              · show Act.put _ (some 44) _ = _
                simp only [Act.put, List.setIfInBounds_toArray, List.set_cons_zero, List.set_cons_succ, i64_w, i32_w]
                rfl
              refine one_ (i := 15) (N := some 52) #[true, true, true, true, true, true, true, true, true, true, true, true, true, true, true, true, false] rfl rfl (by kernel_rfl) (by decide) (fun K hK => ?_)
              refine value_ (w1 := ?_) (v := ?_) (by rfl) rfl ?_ ?_
              rotate_left 2
              · go_simp
                constructor
                · rfl
                · rfl
              refine hK.out _ _ (hHeld) (fun hHeld => ?_)
              clear hK K
              refine norm_ (a' := ?_) ?_ ?_
              rotate_left
              · show Act.put _ (some 52) _ = _
                simp only [Act.put, List.setIfInBounds_toArray, List.set_cons_zero, List.set_cons_succ, i64_w, i32_w]
                rfl
              exact norm_ (by simp only [putAll, Act.put, List.setIfInBounds_toArray, List.set_cons_zero, List.set_cons_succ]) (hCont (.slice A5 sl.length c5) _ ⟨RB5.out, MB5.out, F5.out⟩)
            · skip
              refine value_ (w1 := ?_) (v := ?_) (by rfl) rfl ?_ ?_
              rotate_left 2
              · go_simp
                constructor
                · rfl
                · rfl
              refine hK.out _ _ (hHeld) (fun hHeld => ?_)
              clear hK K
              refine norm_ (a' := ?_) ?_ ?_
              rotate_left
              · show Act.put _ (some 52) _ = _
                simp only [Act.put, List.setIfInBounds_toArray, List.set_cons_zero, List.set_cons_succ, i64_w, i32_w]
                rfl
              refine one_ (i := 7) (N := some 44) #[true, true, true, true, true, true, true, true, true, true, true, true, true, true, true, true, false] rfl rfl (by kernel_rfl) (by decide) (fun K hK => ?_)
              refine value_ (w1 := ?_) (v := ?_) (by rfl) rfl ?_ ?_
              rotate_left 2
              · go_simp
                constructor
                · rfl
                · rfl
              refine hK.out _ _ (hHeld) (fun hHeld => ?_)
              clear hK K
              refine norm_ (a' := ?_) ?_ ?_
              rotate_left
              · show Act.put _ (some 44) _ = _
                simp only [Act.put, List.setIfInBounds_toArray, List.set_cons_zero, List.set_cons_succ, i64_w, i32_w]
                rfl
              exact norm_ (by simp only [putAll, Act.put, List.setIfInBounds_toArray, List.set_cons_zero, List.set_cons_succ]) (hCont (.slice A5 sl.length c5) _ ⟨RB5.out, MB5.out, F5.out⟩)
        rintro s51 w6 ⟨hrb6, hmb6, hf6⟩
        have RB6 := Aside0.mk hrb6
        have MB6 := Aside0.mk hmb6
        have F6 := Aside0.mk hf6
        have hHeld := pw_cell_below hf6.no Q2.out
        clear hrb6 hmb6 hf6
        refine norm_ (a' := ?_) ?_ ?_
        rotate_left
        · simp only [putAll, Act.put, List.setIfInBounds_toArray, List.set_cons_zero, List.set_cons_succ]
          rfl
        refine pure_ (i := 16) (N := some 53) (v := ?_) (a' := ?_) #[true, true, true, true, true, true, true, true, true, true, true, true, true, true, true, true, true] rfl rfl (by kernel_rfl) (fun _ _ _ h => h) (Or.inl ⟨by rfl, ?_⟩) ?_ ?_
        rotate_left
        · intro w'
          go_simp
          with_reducible rfl
        rotate_left
        · simp only [Act.put, List.setIfInBounds_toArray, List.set_cons_zero, List.set_cons_succ, i64_w, i32_w]
          rfl
        refine done_ (by kernel_rfl) ?_
        obtain ⟨m0, m1, m2, _, _⟩ := MB6.out.cells
        have ha1 := OK2.out.1
        have hs0 : IntKind.i64.wrap ((b.length : Int) - sa) = b.length - sa := IntWalk.i64_in _ (by omega)
        have hs1 : (((b.length : Int) - sa) != (b.length - sa)) = false := by simp
        have hs2 : (sb != sb) = false := by simp
        go_wp2
        go_quiet (first | (go_at_call 42; exact Calls.quiet_of ((left_calls _ g A0 b.length c0 sa sb (RB6.out.drewN _) (by omega) (by omega) (by omega)).mono fun e w' ⟨he, hd⟩ => ⟨he, hd.out⟩)) | (go_at_call 43; exact Calls.quiet_of_same ((bad_calls _ g A0 b.length c0 sa sb (RB6.out.drewN _)).mono fun e w' ⟨he, hw⟩ => ⟨he, hw.symm⟩)))
        clear m0 m1 m2 hs0 hs1 hs2
        go_wp2
        go_roundg (n1 - (k + 1))
        case measure => omega
        case rel => exact ⟨k + 1, sa, sb, by omega, by go_num, ⟨RB6.out.drewN _⟩, ⟨MB6.out.drewN _⟩, OK2, ⟨F6.out.drewN _⟩⟩
      | false =>
        rw [hT] at p0
        have hok := wordS_ok (Wd k) OK.out
        have hct := fun (W : World) (h1 : Below w.heap.size w W) (h2 : Rb W g A0 b.length c0 a bd) => word_any w W g A0 c0 b a bd (Wd k) h1 G2.out HR0.out HC0.out HBY.out (by omega) h2 OK.out
        have hcm := fun (W : World) (h1 : Below w.heap.size w W) (h2 : Mb W gm A0 b.length c0 a bd) => mword_any w W gm A0 c0 b a bd (Wd k) h1 G3.out HR0.out HC0.out HBY.out (by omega) h2 OK.out
        generalize wordS b a bd (Wd k) = ts at hok hct hcm
        obtain ⟨wv, sa, sb⟩ := ts
        have CT := Aside0.mk hct
        have CM := Aside0.mk hcm
        have OK2 := Aside0.mk (show okS b sa sb from hok)
        have Q1 := Aside0.mk q1
        clear hT q0 q1 q2 hct hcm hok
        go_wp2
        clear p0
        refine start_ (n := 15) (S := fun w' => w'.cell? ⟨(ad.add (k * 3)).block, (ad.add (k * 3)).off + 1, none⟩ = some (.int .i64 (Wd k))) (ds := []) #[false, false, false, false, false, false, false, false, false, false, false, false, false, false, false] (by kernel_rfl) rfl rfl (pw_cell_below HF.out.drew.no Q1.out) (fun hHeld => ?_)
        refine pure_ (i := 0) (N := some 54) (v := ?_) (a' := ?_) #[true, false, false, false, false, false, false, false, false, false, false, false, false, false, false] rfl rfl (by kernel_rfl) (fun _ _ _ h => h) (Or.inl ⟨by rfl, ?_⟩) ?_ ?_
        rotate_left
        · intro w'
          go_simp
          with_reducible rfl
        rotate_left
        · simp only [Act.put, List.setIfInBounds_toArray, List.set_cons_zero, List.set_cons_succ, i64_w, i32_w]
          rfl
        refine pure_ (i := 1) (N := some 55) (v := ?_) (a' := ?_) #[true, true, false, false, false, false, false, false, false, false, false, false, false, false, false] rfl rfl (by kernel_rfl) (fun _ _ _ h => h) (Or.inl ⟨by rfl, ?_⟩) ?_ ?_
        rotate_left
        · intro w'
          go_simp
          with_reducible rfl
        rotate_left
        · simp only [Act.put, List.setIfInBounds_toArray, List.set_cons_zero, List.set_cons_succ, i64_w, i32_w]
          rfl
        refine pure_ (i := 2) (N := some 56) (v := ?_) (a' := ?_) #[true, true, true, false, false, false, false, false, false, false, false, false, false, false, false] rfl rfl (by kernel_rfl) (fun _ _ _ h => h) (Or.inl ⟨by rfl, ?_⟩) ?_ ?_
        rotate_left
        · intro w'
          go_simp
          with_reducible rfl
        rotate_left
        · simp only [Act.put, List.setIfInBounds_toArray, List.set_cons_zero, List.set_cons_succ, i64_w, i32_w]
          rfl
        refine pure_ (i := 3) (N := some 57) (v := ?_) (a' := ?_) #[true, true, true, true, false, false, false, false, false, false, false, false, false, false, false] rfl rfl (by kernel_rfl) (fun _ _ _ h => h) (Or.inl ⟨by rfl, ?_⟩) ?_ ?_
        rotate_left
        · intro w'
          go_simp
          with_reducible rfl
        rotate_left
        · simp only [Act.put, List.setIfInBounds_toArray, List.set_cons_zero, List.set_cons_succ, i64_w, i32_w]
          rfl
        refine pure_ (i := 4) (N := some 58) (v := ?_) (a' := ?_) #[true, true, true, true, true, false, false, false, false, false, false, false, false, false, false] rfl rfl (by kernel_rfl) (fun _ _ _ h => h) (Or.inl ⟨by rfl, ?_⟩) ?_ ?_
        rotate_left
        · intro w'
          go_simp
          with_reducible rfl
        rotate_left
        · simp only [Act.put, List.setIfInBounds_toArray, List.set_cons_zero, List.set_cons_succ, i64_w, i32_w]
          rfl
        refine pure_ (i := 7) (N := some 61) (v := ?_) (a' := ?_) #[true, true, true, true, true, false, false, true, false, false, false, false, false, false, false] rfl rfl (by kernel_rfl) (fun _ _ _ h => h) (Or.inl ⟨by rfl, ?_⟩) ?_ ?_
        rotate_left
        · intro w'
          go_simp
          with_reducible rfl
        rotate_left
        · simp only [Act.put, List.setIfInBounds_toArray, List.set_cons_zero, List.set_cons_succ, i64_w, i32_w]
          rfl
        refine pure_ (i := 8) (N := some 62) (v := ?_) (a' := ?_) #[true, true, true, true, true, false, false, true, true, false, false, false, false, false, false] rfl rfl (by kernel_rfl) (fun _ _ _ h => h) (Or.inl ⟨by rfl, ?_⟩) ?_ ?_
        rotate_left
        · intro w'
          go_simp
          with_reducible rfl
        rotate_left
        · simp only [Act.put, List.setIfInBounds_toArray, List.set_cons_zero, List.set_cons_succ, i64_w, i32_w]
          rfl
        refine pure_ (i := 9) (N := some 63) (v := ?_) (a' := ?_) #[true, true, true, true, true, false, false, true, true, true, false, false, false, false, false] rfl rfl (by kernel_rfl) (fun _ _ _ h => h) (Or.inl ⟨by rfl, ?_⟩) ?_ ?_
        rotate_left
        · intro w'
          go_simp
          with_reducible rfl
        rotate_left
        · simp only [Act.put, List.setIfInBounds_toArray, List.set_cons_zero, List.set_cons_succ, i64_w, i32_w]
          rfl
        refine pure_ (i := 10) (N := some 64) (v := ?_) (a' := ?_) #[true, true, true, true, true, false, false, true, true, true, true, false, false, false, false] rfl rfl (by kernel_rfl) (fun _ _ _ h => h) (Or.inl ⟨by rfl, ?_⟩) ?_ ?_
        rotate_left
        · intro w'
          go_simp
          with_reducible rfl
        rotate_left
        · simp only [Act.put, List.setIfInBounds_toArray, List.set_cons_zero, List.set_cons_succ, i64_w, i32_w]
          rfl
        refine pure_ (i := 11) (N := some 65) (v := ?_) (a' := ?_) #[true, true, true, true, true, false, false, true, true, true, true, true, false, false, false] rfl rfl (by kernel_rfl) (fun _ _ _ h => h) (Or.inl ⟨by rfl, ?_⟩) ?_ ?_
        rotate_left
        · intro w'
          go_simp
          with_reducible rfl
        rotate_left
        · simp only [Act.put, List.setIfInBounds_toArray, List.set_cons_zero, List.set_cons_succ, i64_w, i32_w]
          rfl
        refine take_ (i := 5) (N := some 59) (v := ?_) (a' := ?_) #[true, true, true, true, true, true, false, true, true, true, true, true, false, false, false] rfl rfl (by kernel_rfl) (fun _ _ _ h => h) (Or.inl ⟨by rfl, ?_⟩) hHeld ?_ ?_
        rotate_left
        · intro w' s0
          go_simp
          with_reducible rfl
        rotate_left
        · simp only [Act.put, List.setIfInBounds_toArray, List.set_cons_zero, List.set_cons_succ, i64_w, i32_w]
          rfl
        refine take_ (i := 12) (N := some 66) (v := ?_) (a' := ?_) #[true, true, true, true, true, true, false, true, true, true, true, true, true, false, false] rfl rfl (by kernel_rfl) (fun _ _ _ h => h) (Or.inl ⟨by rfl, ?_⟩) hHeld ?_ ?_
        rotate_left
        · intro w' s0
          go_simp
          with_reducible rfl
        rotate_left
        · simp only [Act.put, List.setIfInBounds_toArray, List.set_cons_zero, List.set_cons_succ, i64_w, i32_w]
          rfl
        refine one_ (i := 6) (N := some 60) #[true, true, true, true, true, true, true, true, true, true, true, true, true, false, false] rfl rfl (by kernel_rfl) (by decide) (fun K hK => ?_)
        refine goes_ Try.func40 (by kernel_rfl) rfl #[.pointer (some ⟨g, 0, none⟩), .int .i64 (Wd k)] (by rfl) rfl rfl (by simp only [List.map_toArray, List.map_cons, List.map_nil]; rfl) ?_
        with_reducible refine (CT.out _ HF.out.drew.no RB.out.drew).mono ?_
        rintro e w4 ⟨rfl, hb4, hf4⟩
        refine ⟨_, rfl, ?_⟩
        have F4 := Aside0.mk (HF.out.drew.trans hf4 (fun i (hi : i = g) => .inr (by have := G2.out; omega)))
        have RB4 := Aside0.mk hb4
        have MB4 := Aside0.mk (show Mb w4 gm A0 b.length c0 a bd from hf4.blk MB.out.drew (fun (h : gm = g) => GN.out h.symm))
        clear hb4 hf4
        refine hK.out _ _ (pw_cell_below F4.out.no Q1.out) (fun hHeld => ?_)
        clear hK K
        refine norm_ (a' := ?_) ?_ ?_
        rotate_left
        · show Act.put _ (some 60) _ = _
          simp only [Act.put, List.setIfInBounds_toArray, List.set_cons_zero, List.set_cons_succ, i64_w, i32_w]
          rfl
        refine one_ (i := 13) (N := some 67) #[true, true, true, true, true, true, true, true, true, true, true, true, true, true, false] rfl rfl (by kernel_rfl) (by decide) (fun K hK => ?_)
        refine goes_ Try.func41 (by kernel_rfl) rfl #[.pointer (some ⟨gm, 0, none⟩), .int .i64 (Wd k)] (by rfl) rfl rfl (by simp only [List.map_toArray, List.map_cons, List.map_nil]; rfl) ?_
        with_reducible refine (CM.out _ F4.out.no MB4.out).mono ?_
        rintro e w6 ⟨rfl, hb5, hf5⟩
        refine ⟨_, rfl, ?_⟩
        have F6 := Aside0.mk (F4.out.trans hf5 (fun i (hi : i = gm) => .inr (by have := G3.out; omega)))
        have MB6 := Aside0.mk hb5
        have RB6 := Aside0.mk (show Rb w6 g A0 b.length c0 sa sb from hf5.blk RB4.out GN.out)
        clear hb5 hf5
        refine hK.out _ _ (pw_cell_below F6.out.no Q1.out) (fun hHeld => ?_)
        clear hK K
        refine norm_ (a' := ?_) ?_ ?_
        rotate_left
        · show Act.put _ (some 67) _ = _
          simp only [Act.put, List.setIfInBounds_toArray, List.set_cons_zero, List.set_cons_succ, i64_w, i32_w]
          rfl
        refine pure_ (i := 14) (N := some 68) (v := ?_) (a' := ?_) #[true, true, true, true, true, true, true, true, true, true, true, true, true, true, true] rfl rfl (by kernel_rfl) (fun _ _ _ h => h) (Or.inl ⟨by rfl, ?_⟩) ?_ ?_
        rotate_left
        · intro w'
          go_simp
          with_reducible rfl
        rotate_left
        · simp only [Act.put, List.setIfInBounds_toArray, List.set_cons_zero, List.set_cons_succ, i64_w, i32_w]
          rfl
        refine done_ (by kernel_rfl) ?_
        obtain ⟨m0, m1, m2, _, _⟩ := MB6.out.cells
        have ha1 := OK2.out.1
        have hs0 : IntKind.i64.wrap ((b.length : Int) - sa) = b.length - sa := IntWalk.i64_in _ (by omega)
        have hs1 : (((b.length : Int) - sa) != (b.length - sa)) = false := by simp
        have hs2 : (sb != sb) = false := by simp
        go_wp2
        go_quiet (first | (go_at_call 42; exact Calls.quiet_of ((left_calls _ g A0 b.length c0 sa sb (RB6.out.drewN _) (by omega) (by omega) (by omega)).mono fun e w' ⟨he, hd⟩ => ⟨he, hd.out⟩)) | (go_at_call 43; exact Calls.quiet_of_same ((bad_calls _ g A0 b.length c0 sa sb (RB6.out.drewN _)).mono fun e w' ⟨he, hw⟩ => ⟨he, hw.symm⟩)))
        clear m0 m1 m2 hs0 hs1 hs2
        go_wp2
        go_roundg (n1 - (k + 1))
        case measure => omega
        case rel => exact ⟨k + 1, sa, sb, by omega, by go_num, ⟨RB6.out.drewN _⟩, ⟨MB6.out.drewN _⟩, OK2, ⟨F6.out.drewN _⟩⟩
    · go_wp2_with (fail)
      go_ret
      exact ⟨rfl, HF.out⟩

theorem ask_open {H : Type} {enc : TypeId × Value → H} {w : World} {base : Nat} {spare : Nat → Bool} {held : Bool} {a : Option Addr} {len cap : Nat} {d : DataW H} {pl : List MemPlace} (h : DataW.Trod enc Try.prog w base spare held 60 (.slice a len cap) d pl) :
    ∃ (T : Nat → Bool) (X Y : Nat → Int), AskRow w a len T X Y ∧ len ≤ 9223372036854775807 := by
  obtain ⟨fuel, hf⟩ := h
  rcases open_rows Try.underlying60 Try.underlying67 3 (by kernel_rfl) hf with hcs | ⟨x, l, c, hcs, hl, hm, hi⟩
  · simp [Value.cells] at hcs
    obtain ⟨rfl, rfl, rfl⟩ := hcs
    exact ⟨fun _ => true, fun _ => 0, fun _ => 0, fun k hk => absurd hk (by omega), by omega⟩
  · simp [Value.cells] at hcs
    obtain ⟨rfl, rfl, rfl⟩ := hcs
    unfold maxLen at hm
    have c4 : 0 < Try.prog.cellsOf 4 := by
      have h : Try.prog.cellsOf 4 = 1 := by kernel_rfl
      omega
    have c3 : 0 < Try.prog.cellsOf 3 := by
      have h : Try.prog.cellsOf 3 = 1 := by kernel_rfl
      omega
    obtain ⟨T, hT⟩ := pick_each (α := Bool) (n := len) (p := fun k v => w.cell? (x.add (k * 3)) = some (.bool v)) (fun k hk => by
      obtain ⟨q, y, n, h1, h2⟩ := hi k hk 0 _ rfl
      obtain ⟨v, hv⟩ := one_bool Try.underlying4 h2
      exact ⟨v, (h1 0 c4 (by decide)).trans hv⟩)
    obtain ⟨X, hX⟩ := pick_each (α := Int) (n := len) (p := fun k v => w.cell? (x.add (k * 3 + 1)) = some (.int .i64 v)) (fun k hk => by
      obtain ⟨q, y, n, h1, h2⟩ := hi k hk 1 _ rfl
      obtain ⟨v, hv, _⟩ := one_int Try.underlying3 h2
      exact ⟨v, (h1 0 c3 (by decide)).trans hv⟩)
    obtain ⟨Y, hY⟩ := pick_each (α := Int) (n := len) (p := fun k v => w.cell? (x.add (k * 3 + 2)) = some (.int .i64 v)) (fun k hk => by
      obtain ⟨q, y, n, h1, h2⟩ := hi k hk 2 _ rfl
      obtain ⟨v, hv, _⟩ := one_int Try.underlying3 h2
      exact ⟨v, (h1 0 c3 (by decide)).trans hv⟩)
    exact ⟨T, X, Y, fun k hk => ⟨x, rfl, hT k hk, hX k hk, hY k hk⟩, by omega⟩

theorem wordReads_walk (a0 : Option Addr) (len0 cap0 : Nat) (z0 : List Int) (a1 : Option Addr) (n1 c1 : Nat) (T : Nat → Bool) (X Y : Nat → Int) (w : World) (w0 : IsRow .u8 w a0 len0 cap0 z0) (y0 : len0 * 1 ≤ 140737488351232) (w1 : AskRow w a1 n1 T X Y ∧ n1 ≤ 9223372036854775807) :
    Calls Try.prog 6 #[.slice a0 len0 cap0, .slice a1 n1 c1] w fun e w' => e = .returned (.bool true) ∧ Below w.heap.size w w' := by
  obtain ⟨b, rfl, hr0, hc0, hw0⟩ := w0.reads
  have hb : ∀ x ∈ b, 0 ≤ x ∧ x ≤ 255 := fun x hx => by have := bounds_u8 (hw0 x hx); omega
  refine Calls.mono (R := fun e w' => e = .returned (.bool true) ∧ Fr No w w') ?_ (fun e w' h => ⟨h.1, h.2.no⟩)
  by_cases h : 3000 < b.length ∨ 100 < n1
  · exact reads_early w a0 cap0 b a1 n1 c1 (by omega) w1.2 h
  · exact reads_main w a0 cap0 b a1 n1 c1 T X Y hr0 hc0 hb w1.1 (by omega) (by omega)

end Go.Proofs.Ythlcognpfangkaa
