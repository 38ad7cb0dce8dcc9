/- The walk of the law HeapPlays: it returns true (the deeds readable, each integer in its range). -/
import Derived.Test.YthlcognpfangkaaIe
namespace Go.Proofs.Ythlcognpfangkaa
open Go.RowKit Go.Proofs.YthlcognpfangkaaW.PrintWords Go.Proofs.YthlcognpfangkaaW.PrintLast Go.Proofs.YthlcognpfangkaaW.PrintMore
set_option linter.unusedVariables false
set_option linter.unusedSimpArgs false

set_option maxRecDepth 100000 in
theorem hplays_early (w : World) (A : Option Addr) (c n : Nat) (h : 200 < n) (hm : n ≤ 9223372036854775807) : Calls Try.prog 3 #[.slice A n c] w fun e w' => e = .returned (.bool true) ∧ Fr No w w' := by
  have hb : decide (200 < n) = true := decide_eq_true h
  have hb2 : decide (200 < (n : Int)) = true := decide_eq_true (by omega)
  go_enter Try.func3, Try.ntmps3
  go_wp2_with (fail)
  refine (up09 _).mono ?_
  rintro e w1 ⟨rfl, hf⟩
  have F1 := Aside0.mk hf
  clear hf
  go_wp2_with (fail)
  refine (pnew w1 F1.out).mono ?_
  rintro e w2 ⟨g, rfl, h2⟩
  have F2 := Aside0.mk h2.fr
  clear h2
  go_wp2
  go_ret
  exact ⟨rfl, F2.out⟩

set_option maxHeartbeats 8000000 in
set_option maxRecDepth 100000 in
theorem hplays_main (w : World) (A : Option Addr) (c n : Nat) (Wh Ky : Nat → Int) (N : Nat → ByteArray) (hd : DeedRowI w A n Wh Ky N) (hn : n ≤ 200) : Calls Try.prog 3 #[.slice A n c] w fun e w' => e = .returned (.bool true) ∧ Fr No w w' := by
  have hb : decide (200 < n) = false := decide_eq_false (by omega)
  have hb2 : decide (200 < (n : Int)) = false := decide_eq_false (by omega)
  have HD := Aside0.mk hd
  have hu27 := Try.underlying27
  clear hd
  go_enter Try.func3, Try.ntmps3
  go_wp2_with (fail)
  refine (up09 _).mono ?_
  rintro e w1 ⟨rfl, hf⟩
  have F1 := Aside0.mk hf
  clear hf
  go_wp2_with (fail)
  refine (pnew w1 F1.out).mono ?_
  rintro e w2 ⟨g, rfl, h2⟩
  have H2 := Aside0.mk h2
  clear h2
  go_wp2_with (fail)
  clear hb hb2
  go_loopg [5, 6] n (fun kq v5 v6 w' => ∃ (k : Nat) (A' : Option Addr) (c' : Nat) (l : List ((Int × ByteArray) × Int)) (t : Int) (want : List (Int × ByteArray)), k + kq = n ∧ v6 = .int .i64 k ∧ Aside0 (HP w w' g A' c' l t) ∧ Aside0 (HeapL kP tP z3 l) ∧ Aside0 (PW want l t) ∧ Aside0 (0 ≤ t ∧ t ≤ k ∧ want.length ≤ k) ∧ Aside0 (Kd.R EI 27 w' w.heap.size (fun _ => True) v5 want))
  case atStart => exact ⟨0, none, 0, [], 0, [], by omega, rfl, H2, ⟨HeapL.nil⟩, ⟨PW.nil⟩, ⟨by simp⟩, ⟨Kd.R_nil _ _ _ _ _⟩⟩
  case round =>
    clear H2
    obtain ⟨k, A', c', l, t, want, hk, rfl, HH, HL, WW, TT, RR⟩ := hrel
    by_cases hlt : k < n
    · obtain ⟨⟨ad, rfl, q0, q1, q2⟩, hWh⟩ := HD.out k hlt
      obtain ⟨A5, c5, e5, hc5, hr5⟩ := Kd.R_reads RR.out
      subst e5
      have hb : decide ((k : Int) < n) = true := decide_eq_true (by omega)
      have hb2 : decide (k < n) = true := decide_eq_true hlt
      have HLT := Aside0.mk hlt
      have HC5 := Aside0.mk hc5
      have HR5 := Aside0.mk hr5
      have HW := Aside0.mk hWh
      have Q0 := Aside0.mk q0
      rw [add_field _ _ 1 (by omega)] at q1
      rw [add_field _ _ 2 (by omega)] at q2
      have Q12 := Aside0.mk (And.intro q1 q2)
      clear q0 q1 q2 hlt hc5 hr5 hWh
      go_wp2_with (fail)
      refine (first_calls wr A5 c5 want HR5.out (by have := TT.out; have := HLT.out; omega)).mono ?_
      rintro e w2 ⟨b, rfl, hfb, hd2⟩
      have FB := Aside0.mk hfb
      have F2 := Aside0.mk ((Fr.refl No wr).drawn hd2)
      have H2 := Aside0.mk (HH.out.no F2.out)
      have R2 := Aside0.mk (R27_keep RR.out (K27.no F2.out))
      have p0 := pw_cell_below H2.out.fr.no Q0.out
      have hix : (0 : Int) ≤ k := by omega
      have hix2 : (k : Int) < n := by have := HLT.out; omega
      clear hfb hd2 hb hb2 HH RR HR5
      go_wp2_with (fail)
      refine (pick09 w2 (Wh k) HW.out.1 HW.out.2).mono ?_
      rintro e w3 ⟨r, hr3, rfl, rfl⟩
      clear p0
      have p1 := pw_cell_below H2.out.fr.no Q12.out.1
      have p2 := pw_cell_below H2.out.fr.no Q12.out.2
      obtain rfl | rfl | rfl : r = 0 ∨ r = 1 ∨ r = 2 := by omega
      · clear hr3
        go_wp2_with (fail)
        refine (HP.push H2.out (Ky k) (N k) HL.out TT.out.1 (by have := TT.out; have := HLT.out; omega) (by have := TT.out; have := HLT.out; have := WW.out.len; omega)).mono ?_
        rintro e w3 ⟨rfl, A3, c3, l3, h3, hh3, hp3, hk3⟩
        have H3 := Aside0.mk h3
        have HL3 := Aside0.mk hh3
        have W3 := Aside0.mk (WW.out.push (Ky k, N k) hp3)
        have R3 := Aside0.mk (R27_keep R2.out hk3)
        clear h3 hh3 hp3 hk3 p1 p2 H2 R2 FB F2
        have p1 := pw_cell_below H3.out.fr.no Q12.out.1
        have p2 := pw_cell_below H3.out.fr.no Q12.out.2
        have P1 := Aside0.mk p1
        have P2 := Aside0.mk p2
        obtain ⟨_, _, hc3⟩ := Kd.R_reads' R3.out
        have RC3 := Aside0.mk hc3
        have LEN := Aside0.mk (show want.length ≤ 200 by have := TT.out; have := HLT.out; omega)
        have FC := Aside0.mk (Fr.refl No w3).drew
        clear hc3
        go_wp2_with (fail)
        refine start_ (n := 11) (S := fun w' => w'.cell? ⟨(ad.add (k * 3)).block, (ad.add (k * 3)).off + 1, none⟩ = some (.int .i64 (Ky k)) ∧ w'.cell? ⟨(ad.add (k * 3)).block, (ad.add (k * 3)).off + 2, none⟩ = some (.string (N k))) (ds := []) #[false, false, false, false, false, false, false, false, false, false, false] (by kernel_rfl) rfl rfl ⟨p1, p2⟩ (fun hHeld => ?_)
        refine pure_ (i := 1) (N := some 66) (v := ?_) (a' := ?_) #[false, true, false, false, false, false, false, false, false, false, false] rfl rfl (by kernel_rfl) (fun _ _ _ h => h) (Or.inl ⟨by rfl, ?_⟩) ?_ ?_
        rotate_left
        · intro w'
          go_simp
          with_reducible rfl
        rotate_left
        · simp only [Act.put, List.setIfInBounds_toArray, List.set_cons_zero, List.set_cons_succ, i64_w, i32_w]
          rfl
        refine pure_ (i := 3) (N := some 68) (v := ?_) (a' := ?_) #[false, true, false, true, false, false, false, false, false, false, false] rfl rfl (by kernel_rfl) (fun _ _ _ h => h) (Or.inl ⟨by rfl, ?_⟩) ?_ ?_
        rotate_left
        · intro w'
          go_simp
          with_reducible rfl
        rotate_left
        · simp only [Act.put, List.setIfInBounds_toArray, List.set_cons_zero, List.set_cons_succ, i64_w, i32_w]
          rfl
        refine pure_ (i := 4) (N := some 69) (v := ?_) (a' := ?_) #[false, true, false, true, true, false, false, false, false, false, false] rfl rfl (by kernel_rfl) (fun _ _ _ h => h) (Or.inl ⟨by rfl, ?_⟩) ?_ ?_
        rotate_left
        · intro w'
          go_simp
          with_reducible rfl
        rotate_left
        · simp only [Act.put, List.setIfInBounds_toArray, List.set_cons_zero, List.set_cons_succ, i64_w, i32_w]
          rfl
        refine pure_ (i := 5) (N := some 70) (v := ?_) (a' := ?_) #[false, true, false, true, true, true, false, false, false, false, false] rfl rfl (by kernel_rfl) (fun _ _ _ h => h) (Or.inl ⟨by rfl, ?_⟩) ?_ ?_
        rotate_left
        · intro w'
          go_simp
          with_reducible rfl
        rotate_left
        · simp only [Act.put, List.setIfInBounds_toArray, List.set_cons_zero, List.set_cons_succ, i64_w, i32_w]
          rfl
        refine pure_ (i := 6) (N := some 71) (v := ?_) (a' := ?_) #[false, true, false, true, true, true, true, false, false, false, false] rfl rfl (by kernel_rfl) (fun _ _ _ h => h) (Or.inl ⟨by rfl, ?_⟩) ?_ ?_
        rotate_left
        · intro w'
          go_simp
          with_reducible rfl
        rotate_left
        · simp only [Act.put, List.setIfInBounds_toArray, List.set_cons_zero, List.set_cons_succ, i64_w, i32_w]
          rfl
        refine take_ (i := 7) (N := some 72) (v := ?_) (a' := ?_) #[false, true, false, true, true, true, true, true, false, false, false] rfl rfl (by kernel_rfl) (fun _ _ _ h => h) (Or.inl ⟨by rfl, ?_⟩) hHeld ?_ ?_
        rotate_left
        · rintro w' ⟨s0, s1⟩
          go_simp
          with_reducible rfl
        rotate_left
        · simp only [Act.put, List.setIfInBounds_toArray, List.set_cons_zero, List.set_cons_succ, i64_w, i32_w]
          rfl
        refine join_ (σ := Value × Value × Nat) 2 #[true, true, true, true, true, true, true, true, true, false, false] (fun s_ => [(65, s_.1), (67, s_.2.1), (73, .slice (some ⟨s_.2.2, 0, none⟩) 1 1)]) (fun s_ w' => Kd.R EI 27 w' w3.heap.size (fun _ => True) s_.2.1 want ∧ XI w' s_.2.2 (Ky k) (N k) ∧ Fr No w3 w') ?_ ?_
        rotate_left
        · intro hCont
          refine two_ (i := 0) (j := 8) (Ni := some 65) (Nj := some 73) #[true, true, false, true, true, true, true, true, false, false, false] #[false, true, false, true, true, true, true, true, true, false, false] rfl rfl rfl rfl (by kernel_rfl) (by decide) (by decide) (fun K hK => ?_) (fun K hK => ?_)
          · skip
            refine lit_ei_step w3.heap.size (by rfl) 65 rfl ?hr FC.out.size ?_
            (case hr => first | (go_simp; done) | (go_simp; rfl))
            intro v0 wa hr0 hg0 ho0
            have R0 := Aside0.mk hr0
            have FC := Aside0.mk (FC.out.grown hg0 (fun k hk => by cases hk))
            clear hr0 hg0 ho0
            refine hK.out _ _ ⟨pw_cell_below FC.out.no P1.out, pw_cell_below FC.out.no P2.out⟩ (fun hHeld => ?_)
            clear hK K
            refine norm_ (a' := ?_) ?_ ?_
            rotate_left
            · show Act.put _ (some 65) _ = _
              simp only [Act.put, List.setIfInBounds_toArray, List.set_cons_zero, List.set_cons_succ, i64_w, i32_w]
              rfl
            refine two_ (i := 2) (j := 8) (Ni := some 67) (Nj := some 73) #[true, true, true, true, true, true, true, true, false, false, false] #[true, true, false, true, true, true, true, true, true, false, false] rfl rfl rfl rfl (by kernel_rfl) (by decide) (by decide) (fun K hK => ?_) (fun K hK => ?_)
            · skip
              refine app_ei_step w3.heap.size (by rfl) 65 66 (by rfl) v0 [] want A5 want.length c5 (by rfl) (by rfl) R0.out (Kd.C_below RC3.out FC.out.no) FC.out.size ?hl ?_
              (case hl => have := LEN.out; simp; omega)
              intro v2 wb hr2 hg2
              rw [List.nil_append] at hr2
              have R6 := Aside0.mk hr2
              have FC := Aside0.mk (FC.out.own R0.out (Nat.le_refl _) hg2)
              clear hr2 hg2
              refine hK.out _ _ ⟨pw_cell_below FC.out.no P1.out, pw_cell_below FC.out.no P2.out⟩ (fun hHeld => ?_)
              clear hK K
              refine norm_ (a' := ?_) ?_ ?_
              rotate_left
              · show Act.put _ (some 67) _ = _
                simp only [Act.put, List.setIfInBounds_toArray, List.set_cons_zero, List.set_cons_succ, i64_w, i32_w]
                rfl
              refine one_ (i := 8) (N := some 73) #[true, true, true, true, true, true, true, true, true, false, false] rfl rfl (by kernel_rfl) (by decide) (fun K hK => ?_)
              refine value_ (w1 := ?_) (v := ?_) (by rfl) rfl ?_ ?_
              rotate_left 2
              · go_simp
                constructor
                · rfl
                · rfl
              have R6 := Aside0.mk (Kd.R_alloc R6.out (.cells #[.int .i64 (Ky k), .string (N k)] 27))
              have XC := Aside0.mk (XI.new wb (Ky k) (N k))
              have FC := Aside0.mk (FC.out.alloc (.cells #[.int .i64 (Ky k), .string (N k)] 27))
              refine hK.out _ _ ⟨pw_cell_below FC.out.no P1.out, pw_cell_below FC.out.no P2.out⟩ (fun hHeld => ?_)
              clear hK K
              refine norm_ (a' := ?_) ?_ ?_
              rotate_left
              · show Act.put _ (some 73) _ = _
                simp only [Act.put, List.setIfInBounds_toArray, List.set_cons_zero, List.set_cons_succ, i64_w, i32_w]
                rfl
              exact norm_ (by simp only [putAll, Act.put, List.setIfInBounds_toArray, List.set_cons_zero, List.set_cons_succ]) (hCont (v0, v2, wb.heap.size) _ ⟨R6.out, XC.out, FC.out⟩)
            · skip
              refine value_ (w1 := ?_) (v := ?_) (by rfl) rfl ?_ ?_
              rotate_left 2
              · go_simp
                constructor
                · rfl
                · rfl
              have NE := Aside0.mk (show some wa.heap.size ≠ v0.ownBlock from fun h => by have := Kd.R_lt R0.out _ h.symm; omega)
              have R0 := Aside0.mk (Kd.R_alloc R0.out (.cells #[.int .i64 (Ky k), .string (N k)] 27))
              have XC := Aside0.mk (XI.new wa (Ky k) (N k))
              have FC := Aside0.mk (FC.out.alloc (.cells #[.int .i64 (Ky k), .string (N k)] 27))
              refine hK.out _ _ ⟨pw_cell_below FC.out.no P1.out, pw_cell_below FC.out.no P2.out⟩ (fun hHeld => ?_)
              clear hK K
              refine norm_ (a' := ?_) ?_ ?_
              rotate_left
              · show Act.put _ (some 73) _ = _
                simp only [Act.put, List.setIfInBounds_toArray, List.set_cons_zero, List.set_cons_succ, i64_w, i32_w]
                rfl
              refine one_ (i := 2) (N := some 67) #[true, true, true, true, true, true, true, true, true, false, false] rfl rfl (by kernel_rfl) (by decide) (fun K hK => ?_)
              refine app_ei_step w3.heap.size (by rfl) 65 66 (by rfl) v0 [] want A5 want.length c5 (by rfl) (by rfl) R0.out (Kd.C_below RC3.out FC.out.no) FC.out.size ?hl ?_
              (case hl => have := LEN.out; simp; omega)
              intro v2 wb hr2 hg2
              rw [List.nil_append] at hr2
              have R6 := Aside0.mk hr2
              have XC := Aside0.mk (show XI wb wa.heap.size (Ky k) (N k) from blk_grown XC.out hg2 NE.out)
              have FC := Aside0.mk (FC.out.own R0.out (Nat.le_refl _) hg2)
              clear hr2 hg2
              refine hK.out _ _ ⟨pw_cell_below FC.out.no P1.out, pw_cell_below FC.out.no P2.out⟩ (fun hHeld => ?_)
              clear hK K
              refine norm_ (a' := ?_) ?_ ?_
              rotate_left
              · show Act.put _ (some 67) _ = _
                simp only [Act.put, List.setIfInBounds_toArray, List.set_cons_zero, List.set_cons_succ, i64_w, i32_w]
                rfl
              exact norm_ (by simp only [putAll, Act.put, List.setIfInBounds_toArray, List.set_cons_zero, List.set_cons_succ]) (hCont (v0, v2, wa.heap.size) _ ⟨R6.out, XC.out, FC.out⟩)
          · skip
            refine value_ (w1 := ?_) (v := ?_) (by rfl) rfl ?_ ?_
            rotate_left 2
            · go_simp
              constructor
              · rfl
              · rfl
            have XC := Aside0.mk (XI.new w3.drew (Ky k) (N k))
            have FC := Aside0.mk (FC.out.alloc (.cells #[.int .i64 (Ky k), .string (N k)] 27))
            refine hK.out _ _ ⟨pw_cell_below FC.out.no P1.out, pw_cell_below FC.out.no P2.out⟩ (fun hHeld => ?_)
            clear hK K
            refine norm_ (a' := ?_) ?_ ?_
            rotate_left
            · show Act.put _ (some 73) _ = _
              simp only [Act.put, List.setIfInBounds_toArray, List.set_cons_zero, List.set_cons_succ, i64_w, i32_w]
              rfl
            refine one_ (i := 0) (N := some 65) #[true, true, false, true, true, true, true, true, true, false, false] rfl rfl (by kernel_rfl) (by decide) (fun K hK => ?_)
            refine lit_ei_step w3.heap.size (by rfl) 65 rfl ?hr FC.out.size ?_
            (case hr => first | (go_simp; done) | (go_simp; rfl))
            intro v0 wa hr0 hg0 ho0
            have R0 := Aside0.mk hr0
            have FC := Aside0.mk (FC.out.grown hg0 (fun k hk => by cases hk))
            have NE := Aside0.mk (show some w3.heap.size ≠ v0.ownBlock from by obtain ⟨b, e, hb⟩ := ho0; rw [e]; intro h; have h2 : w3.heap.size < b := Nat.lt_of_lt_of_le (blk_lt XC.out) hb; simp only [Option.some.injEq] at h; omega)
            have XC := Aside0.mk (XC.out.no (Fr.new hg0))
            clear hr0 hg0 ho0
            refine hK.out _ _ ⟨pw_cell_below FC.out.no P1.out, pw_cell_below FC.out.no P2.out⟩ (fun hHeld => ?_)
            clear hK K
            refine norm_ (a' := ?_) ?_ ?_
            rotate_left
            · show Act.put _ (some 65) _ = _
              simp only [Act.put, List.setIfInBounds_toArray, List.set_cons_zero, List.set_cons_succ, i64_w, i32_w]
              rfl
            refine one_ (i := 2) (N := some 67) #[true, true, true, true, true, true, true, true, true, false, false] rfl rfl (by kernel_rfl) (by decide) (fun K hK => ?_)
            refine app_ei_step w3.heap.size (by rfl) 65 66 (by rfl) v0 [] want A5 want.length c5 (by rfl) (by rfl) R0.out (Kd.C_below RC3.out FC.out.no) FC.out.size ?hl ?_
            (case hl => have := LEN.out; simp; omega)
            intro v2 wb hr2 hg2
            rw [List.nil_append] at hr2
            have R6 := Aside0.mk hr2
            have XC := Aside0.mk (show XI wb w3.heap.size (Ky k) (N k) from blk_grown XC.out hg2 NE.out)
            have FC := Aside0.mk (FC.out.own R0.out (Nat.le_refl _) hg2)
            clear hr2 hg2
            refine hK.out _ _ ⟨pw_cell_below FC.out.no P1.out, pw_cell_below FC.out.no P2.out⟩ (fun hHeld => ?_)
            clear hK K
            refine norm_ (a' := ?_) ?_ ?_
            rotate_left
            · show Act.put _ (some 67) _ = _
              simp only [Act.put, List.setIfInBounds_toArray, List.set_cons_zero, List.set_cons_succ, i64_w, i32_w]
              rfl
            exact norm_ (by simp only [putAll, Act.put, List.setIfInBounds_toArray, List.set_cons_zero, List.set_cons_succ]) (hCont (v0, v2, w3.heap.size) _ ⟨R6.out, XC.out, FC.out⟩)
        rintro ⟨v0, v2, gx⟩ w4 ⟨hr4, hx4, hf4⟩
        have R4 := Aside0.mk (show Kd.R EI 27 w4 w3.heap.size (fun _ => True) v2 want from hr4)
        have X4 := Aside0.mk (show XI w4 gx (Ky k) (N k) from hx4)
        have F4 := Aside0.mk hf4
        have hHeld := And.intro (pw_cell_below hf4.no P1.out) (pw_cell_below hf4.no P2.out)
        clear hr4 hx4 hf4
        refine norm_ (a' := ?_) ?_ ?_
        rotate_left
        · simp only [putAll, Act.put, List.setIfInBounds_toArray, List.set_cons_zero, List.set_cons_succ]
          rfl
        refine one_ (i := 9) (N := some 74) #[true, true, true, true, true, true, true, true, true, true, false] rfl rfl (by kernel_rfl) (by decide) (fun K hK => ?_)
        refine app_ei_step w3.heap.size (by rfl) 67 73 (by rfl) v2 want [(Ky k, N k)] (some ⟨gx, 0, none⟩) 1 1 (by rfl) (by rfl) R4.out X4.out.row F4.out.size ?hl ?_
        (case hl => have := LEN.out; omega)
        intro v5 w5 hr5 hg5
        obtain ⟨A7, c7, e7⟩ := Kd.R_slice hr5
        have LEN2 := Aside0.mk (show (want ++ [(Ky k, N k)]).length ≤ k + 1 by have := TT.out; simp; omega)
        generalize want ++ [(Ky k, N k)] = want2 at hr5 W3 e7 LEN2
        subst e7
        have R5 := Aside0.mk (Kd.R_lower hr5 H3.out.fr.size)
        have F5 := Aside0.mk (F4.out.own R4.out (Nat.le_refl _) hg5)
        clear hr5 hg5
        refine hK.out _ _ ⟨pw_cell_below F5.out.no P1.out, pw_cell_below F5.out.no P2.out⟩ (fun hHeld => ?_)
        clear hK K
        refine norm_ (a' := ?_) ?_ ?_
        rotate_left
        · show Act.put _ (some 74) _ = _
          simp only [Act.put, List.setIfInBounds_toArray, List.set_cons_zero, List.set_cons_succ, i64_w, i32_w]
          rfl
        refine pure_ (i := 10) (N := some 5) (v := ?_) (a' := ?_) #[true, true, true, true, true, true, true, true, true, true, true] rfl rfl (by kernel_rfl) (fun _ _ _ h => h) (Or.inl ⟨by rfl, ?_⟩) ?_ ?_
        rotate_left
        · intro w'
          go_simp
          with_reducible rfl
        rotate_left
        · simp only [Act.put, List.setIfInBounds_toArray, List.set_cons_zero, List.set_cons_succ, i64_w, i32_w]
          rfl
        refine done_ (by kernel_rfl) ?_
        have H6 := Aside0.mk (H3.out.no F5.out)
        clear H3 R3 F4 R4 X4 FC RC3 p1 p2
        go_wp2_with (fail)
        refine (HP.len H6.out).mono ?_
        rw [W3.out.len]
        rintro e w6 ⟨rfl, rfl⟩
        have hs : ((want2.length : Int) != (want2.length : Int)) = false := by simp
        go_wp2_with (fail)
        clear hs
        go_roundg (n - (k + 1))
        case measure => have := HLT.out; omega
        case rel => exact ⟨k + 1, A3, c3, l3, t + 1, want2, by have := HLT.out; omega, by go_num, H6, HL3, W3, ⟨by have := TT.out; have := LEN2.out; omega⟩, R5⟩
      · clear hr3
        by_cases hz : want.length = 0
        · have hb1 := FB.out.none hz
          subst hb1
          have hc1 : decide ((0 : Int) ≤ -1) = false := rfl
          have HZ := Aside0.mk hz
          clear FB hz
          go_wp2_with (fail)
          refine (HP.pop_no H2.out (WW.out.len.trans HZ.out)).mono ?_
          rintro e w3 ⟨rfl, hf⟩
          have H3 := Aside0.mk (H2.out.no hf)
          have R3 := Aside0.mk (R27_keep R2.out (K27.no hf))
          clear hf p1 p2 H2 R2 F2
          go_wp2_with (fail)
          have H4 := Aside0.mk (H3.out.no ((Fr.refl No w3).alloc (.cells #[.int .i64 0, .string ⟨#[]⟩] 27)))
          have R4 := Aside0.mk (R27_keep R3.out (K27.no ((Fr.refl No w3).alloc (.cells #[.int .i64 0, .string ⟨#[]⟩] 27))))
          go_roundg (n - (k + 1))
          case measure => have := HLT.out; omega
          case rel => exact ⟨k + 1, A', c', l, t, want, by have := HLT.out; omega, by go_num, H4, HL, WW, ⟨by have := TT.out; omega⟩, R4⟩
        · obtain ⟨j, rfl, hj, hfj⟩ := FB.out.some (by omega)
          clear FB
          go_wp2_with (fail)
          refine (HP.pop (want.length - 1) H2.out HL.out (by rw [WW.out.len]; omega) (by have := TT.out; have := HLT.out; omega)).mono ?_
          rintro e w3 ⟨rfl, l3, h3, hh3, hp3, hk3⟩
          obtain ⟨_, he, hw3⟩ := WW.out.pop HL.out hfj hp3
          rw [he]
          have HJ := Aside0.mk hj
          have HL3 := Aside0.mk hh3
          have W3 := Aside0.mk hw3
          have R3 := R27_keep R2.out hk3
          have F4 := Aside0.mk ((Fr.refl No w3).alloc (.cells #[.int .i64 (want.getD j zI).1, .string (want.getD j zI).2] 27))
          have H4 := Aside0.mk (h3.no F4.out)
          have X4 := Aside0.mk (XI.new w3 (want.getD j zI).1 (want.getD j zI).2)
          have R4 := Aside0.mk (R27_keep R3 (K27.no F4.out))
          have C4 := (Kd.R_reads' R4.out).2.2
          obtain ⟨ad5, e5, y0, y1⟩ := EI_get C4 j hj
          generalize (want.getD j zI).1 = xk at F4 H4 X4 R4 C4 y0 y1 ⊢
          generalize (want.getD j zI).2 = xs at F4 H4 X4 R4 C4 y0 y1 ⊢
          have C4 := Aside0.mk C4
          have hc1 : decide ((0 : Int) ≤ (j : Int)) = true := decide_eq_true (by omega)
          have Y := Aside0.mk (And.intro y0 y1)
          clear h3 hh3 hp3 hk3 hw3 he hfj p1 p2 H2 R2 F2 R3 hj hz y0 y1
          go_wp2_with (fail)
          generalize w3.alloc (.cells #[.int .i64 xk, .string xs] 27) = w4 at F4 H4 X4 R4 C4 Y ⊢
          generalize w3.heap.size = gx at X4 ⊢
          subst e5
          obtain ⟨y0, y1⟩ := Y.out
          obtain ⟨x0, x1⟩ := X4.out.cells
          rw [add_field _ _ 1 (by omega)] at y1
          have i0 : (0 : Int) ≤ j := by omega
          have i1 : (j : Int) < want.length := by have := HJ.out; omega
          go_quiet (fail)
          clear x0 x1 y0 y1 Y X4 F4 i0 i1 hc1
          have FQ := (Fr.refl No w4).drewN nq
          have H5 := Aside0.mk (H4.out.no FQ)
          have T1 := Aside0.mk (show Kd.C EI (w4.drewN nq) (some ad5) j (want.take j) from by
            have h := Kd.C_take (Kd.C_below C4.out FQ.no) (m := j) (by have := HJ.out; omega)
            rw [show (want.take j).length = j from by rw [List.length_take]; have := HJ.out; omega] at h
            exact h)
          have T2 := Aside0.mk (show Kd.C EI (w4.drewN nq) (if c5 = j + 1 then some ad5 else (some ad5).map (·.add ((j + 1) * 2))) (want.length - (j + 1)) (want.drop (j + 1)) from by
            have h := Kd.C_drop (Kd.C_below C4.out FQ.no) (m := j + 1) (c := c5) (by have := HJ.out; omega) HC5.out
            rw [List.length_drop] at h
            exact h)
          obtain ⟨i27, hi, hz0, hz1, hz2⟩ := info_parts info27
          have hsl1 := cut_to (P := Try.prog) 29 27 .i64 Try.underlying29 hi (some ad5) want.length c5 (j : Int) (by omega) (by have := HJ.out; omega) HC5.out
          have hsl2 := cut_from (P := Try.prog) 29 27 .i64 Try.underlying29 hi 2 hz1 (some ad5) want.length c5 ((j : Int) + 1) (by omega) (by have := HJ.out; omega)
          rw [show ((j : Int) + 1).toNat = j + 1 by omega] at hsl2
          rw [Int.toNat_natCast] at hsl1
          have hs0 : IntKind.i64.wrap ((j : Int) + 1) = j + 1 := IntWalk.i64_in _ (by have := HJ.out; have := TT.out; have := HLT.out; omega)
          generalize (if c5 = j + 1 then some ad5 else (some ad5).map (·.add ((j + 1) * 2))) = A6 at T2 hsl2
          generalize (some ad5) = A5 at T1 hsl1 hsl2 ⊢
          have LEN := Aside0.mk (show want.length ≤ 200 by have := TT.out; have := HLT.out; omega)
          clear FQ hi hz0 hz1 hz2 R4 C4 H4
          generalize w4.drewN nq = w5 at H5 T1 T2 ⊢
          go_wp2_with (fail)
          have FC := Aside0.mk (Fr.refl No w5).drew
          refine start_ (n := 11) (S := fun w' => True) (ds := []) #[false, false, false, false, false, false, false, false, false, false, false] (by kernel_rfl) rfl rfl trivial (fun hHeld => ?_)
          refine pure_ (i := 1) (N := some 98) (v := ?_) (a' := ?_) #[false, true, false, false, false, false, false, false, false, false, false] rfl rfl (by kernel_rfl) (fun _ _ _ h => h) (Or.inl ⟨by rfl, ?_⟩) ?_ ?_
          rotate_left
          · intro w'
            go_simp
            with_reducible rfl
          rotate_left
          · simp only [Act.put, List.setIfInBounds_toArray, List.set_cons_zero, List.set_cons_succ, i64_w, i32_w]
            rfl
          refine pure_ (i := 2) (N := some 99) (v := ?_) (a' := ?_) #[false, true, true, false, false, false, false, false, false, false, false] rfl rfl (by kernel_rfl) (fun _ _ _ h => h) (Or.inl ⟨by rfl, ?_⟩) ?_ ?_
          rotate_left
          · intro w'
            go_simp
            with_reducible rfl
          rotate_left
          · simp only [Act.put, List.setIfInBounds_toArray, List.set_cons_zero, List.set_cons_succ, i64_w, i32_w]
            rfl
          refine pure_ (i := 3) (N := some 100) (v := ?_) (a' := ?_) #[false, true, true, true, false, false, false, false, false, false, false] rfl rfl (by kernel_rfl) (fun _ _ _ h => h) (Or.inl ⟨by rfl, ?_⟩) ?_ ?_
          rotate_left
          · intro w'
            go_simp
            with_reducible rfl
          rotate_left
          · simp only [Act.put, List.setIfInBounds_toArray, List.set_cons_zero, List.set_cons_succ, i64_w, i32_w]
            rfl
          refine pure_ (i := 5) (N := some 102) (v := ?_) (a' := ?_) #[false, true, true, true, false, true, false, false, false, false, false] rfl rfl (by kernel_rfl) (fun _ _ _ h => h) (Or.inl ⟨by rfl, ?_⟩) ?_ ?_
          rotate_left
          · intro w'
            go_simp
            with_reducible rfl
          rotate_left
          · simp only [Act.put, List.setIfInBounds_toArray, List.set_cons_zero, List.set_cons_succ, i64_w, i32_w]
            rfl
          refine pure_ (i := 6) (N := some 103) (v := ?_) (a' := ?_) #[false, true, true, true, false, true, true, false, false, false, false] rfl rfl (by kernel_rfl) (fun _ _ _ h => h) (Or.inl ⟨by rfl, ?_⟩) ?_ ?_
          rotate_left
          · intro w'
            go_simp
            with_reducible rfl
          rotate_left
          · simp only [Act.put, List.setIfInBounds_toArray, List.set_cons_zero, List.set_cons_succ, i64_w, i32_w]
            rfl
          refine pure_ (i := 7) (N := some 104) (v := ?_) (a' := ?_) #[false, true, true, true, false, true, true, true, false, false, false] rfl rfl (by kernel_rfl) (fun _ _ _ h => h) (Or.inl ⟨by rfl, ?_⟩) ?_ ?_
          rotate_left
          · intro w'
            go_simp
            with_reducible rfl
          rotate_left
          · simp only [Act.put, List.setIfInBounds_toArray, List.set_cons_zero, List.set_cons_succ, i64_w, i32_w]
            rfl
          refine pure_ (i := 8) (N := some 105) (v := ?_) (a' := ?_) #[false, true, true, true, false, true, true, true, true, false, false] rfl rfl (by kernel_rfl) (fun _ _ _ h => h) (Or.inl ⟨by rfl, ?_⟩) ?_ ?_
          rotate_left
          · intro w'
            go_simp
            with_reducible rfl
          rotate_left
          · simp only [Act.put, List.setIfInBounds_toArray, List.set_cons_zero, List.set_cons_succ, i64_w, i32_w]
            rfl
          refine one_ (i := 0) (N := some 97) #[true, true, true, true, false, true, true, true, true, false, false] rfl rfl (by kernel_rfl) (by decide) (fun K hK => ?_)
          refine lit_ei_step w5.heap.size (by rfl) 97 rfl ?hr FC.out.size ?_
          (case hr => first | (go_simp; done) | (go_simp; rfl))
          intro v0 wa hr0 hg0 ho0
          have R0 := Aside0.mk hr0
          have FC := Aside0.mk (FC.out.grown hg0 (fun k hk => by cases hk))
          clear hr0 hg0 ho0
          refine hK.out _ _ trivial (fun hHeld => ?_)
          clear hK K
          refine norm_ (a' := ?_) ?_ ?_
          rotate_left
          · show Act.put _ (some 97) _ = _
            simp only [Act.put, List.setIfInBounds_toArray, List.set_cons_zero, List.set_cons_succ, i64_w, i32_w]
            rfl
          refine one_ (i := 4) (N := some 101) #[true, true, true, true, true, true, true, true, true, false, false] rfl rfl (by kernel_rfl) (by decide) (fun K hK => ?_)
          refine app_ei_step w5.heap.size (by rfl) 97 100 (by rfl) v0 [] (want.take j) A5 j c5 (by rfl) (by rfl) R0.out (Kd.C_below T1.out FC.out.no) FC.out.size ?hl ?_
          (case hl => have := LEN.out; simp; omega)
          intro v2 wb hr2 hg2
          rw [List.nil_append] at hr2
          have R6 := Aside0.mk hr2
          have FC := Aside0.mk (FC.out.own R0.out (Nat.le_refl _) hg2)
          clear hr2 hg2
          refine hK.out _ _ trivial (fun hHeld => ?_)
          clear hK K
          refine norm_ (a' := ?_) ?_ ?_
          rotate_left
          · show Act.put _ (some 101) _ = _
            simp only [Act.put, List.setIfInBounds_toArray, List.set_cons_zero, List.set_cons_succ, i64_w, i32_w]
            rfl
          refine one_ (i := 9) (N := some 106) #[true, true, true, true, true, true, true, true, true, true, false] rfl rfl (by kernel_rfl) (by decide) (fun K hK => ?_)
          refine app_ei_step w5.heap.size (by rfl) 101 105 (by rfl) v2 (want.take j) (want.drop (j + 1)) A6 (want.length - (j + 1)) (c5 - (j + 1)) (by rfl) (by rfl) R6.out (Kd.C_below T2.out FC.out.no) FC.out.size ?hl ?_
          (case hl => have := LEN.out; rw [List.length_take]; omega)
          intro v7 w7 hr7 hg7
          obtain ⟨A7, c7, e7⟩ := Kd.R_slice hr7
          have LEN2 := Aside0.mk (show (want.take j ++ want.drop (j + 1)).length ≤ k + 1 by have := TT.out; simp only [List.length_append, List.length_take, List.length_drop]; omega)
          generalize want.take j ++ want.drop (j + 1) = want2 at hr7 W3 e7 LEN2
          subst e7
          have R7 := Aside0.mk (Kd.R_lower hr7 H5.out.fr.size)
          have F7 := Aside0.mk (FC.out.own R6.out (Nat.le_refl _) hg7)
          clear hr7 hg7
          refine hK.out _ _ trivial (fun hHeld => ?_)
          clear hK K
          refine norm_ (a' := ?_) ?_ ?_
          rotate_left
          · show Act.put _ (some 106) _ = _
            simp only [Act.put, List.setIfInBounds_toArray, List.set_cons_zero, List.set_cons_succ, i64_w, i32_w]
            rfl
          refine pure_ (i := 10) (N := some 5) (v := ?_) (a' := ?_) #[true, true, true, true, true, true, true, true, true, true, true] rfl rfl (by kernel_rfl) (fun _ _ _ h => h) (Or.inl ⟨by rfl, ?_⟩) ?_ ?_
          rotate_left
          · intro w'
            go_simp
            with_reducible rfl
          rotate_left
          · simp only [Act.put, List.setIfInBounds_toArray, List.set_cons_zero, List.set_cons_succ, i64_w, i32_w]
            rfl
          refine done_ (by kernel_rfl) ?_
          have H7 := Aside0.mk (H5.out.no F7.out)
          clear H5 hsl1 hsl2 hs0 FC T1 T2
          go_wp2_with (fail)
          refine (HP.len H7.out).mono ?_
          rw [W3.out.len]
          rintro e w8 ⟨rfl, rfl⟩
          have hs : ((want2.length : Int) != (want2.length : Int)) = false := by simp
          go_wp2_with (fail)
          clear hs
          go_roundg (n - (k + 1))
          case measure => have := HLT.out; omega
          case rel => exact ⟨k + 1, A', c', l3, t, want2, by have := HLT.out; omega, by go_num, H7, HL3, W3, ⟨by have := TT.out; have := LEN2.out; omega⟩, R7⟩
      · clear hr3
        by_cases hz : want.length = 0
        · have hb1 := FB.out.none hz
          subst hb1
          have hc1 : decide ((0 : Int) ≤ -1) = false := rfl
          have HZ := Aside0.mk hz
          clear FB hz
          go_wp2_with (fail)
          refine (HP.peek_no H2.out (WW.out.len.trans HZ.out)).mono ?_
          rintro e w3 ⟨rfl, hf⟩
          have H3 := Aside0.mk (H2.out.no hf)
          have R3 := Aside0.mk (R27_keep R2.out (K27.no hf))
          clear hf p1 p2 H2 R2 F2
          go_wp2_with (fail)
          have H4 := Aside0.mk (H3.out.no ((Fr.refl No w3).alloc (.cells #[.int .i64 0, .string ⟨#[]⟩] 27)))
          have R4 := Aside0.mk (R27_keep R3.out (K27.no ((Fr.refl No w3).alloc (.cells #[.int .i64 0, .string ⟨#[]⟩] 27))))
          generalize w3.alloc (.cells #[.int .i64 0, .string ⟨#[]⟩] 27) = w4 at H4 R4 ⊢
          refine (HP.len H4.out).mono ?_
          rw [WW.out.len]
          rintro e w8 ⟨rfl, rfl⟩
          have hs : ((want.length : Int) != (want.length : Int)) = false := by simp
          go_wp2_with (fail)
          clear hs
          go_roundg (n - (k + 1))
          case measure => have := HLT.out; omega
          case rel => exact ⟨k + 1, A', c', l, t, want, by have := HLT.out; omega, by go_num, H4, HL, WW, ⟨by have := TT.out; omega⟩, R4⟩
        · obtain ⟨j, rfl, hj, hfj⟩ := FB.out.some (by omega)
          clear FB
          go_wp2_with (fail)
          refine (HP.peek H2.out (by rw [WW.out.len]; omega)).mono ?_
          rintro e w3 ⟨rfl, hf3⟩
          obtain ⟨_, he, _⟩ := WW.out.pop (l' := l.drop 1) HL.out hfj (by
            cases l with
            | nil => have := WW.out.len; simp at this; omega
            | cons a b => exact List.Perm.refl _)
          rw [he]
          have HJ := Aside0.mk hj
          have h3 := H2.out.no hf3
          have R3 := R27_keep R2.out (K27.no hf3)
          have F4 := Aside0.mk ((Fr.refl No w3).alloc (.cells #[.int .i64 (want.getD j zI).1, .string (want.getD j zI).2] 27))
          have H4 := Aside0.mk (h3.no F4.out)
          have X4 := Aside0.mk (XI.new w3 (want.getD j zI).1 (want.getD j zI).2)
          have R4 := Aside0.mk (R27_keep R3 (K27.no F4.out))
          have C4 := (Kd.R_reads' R4.out).2.2
          obtain ⟨ad5, e5, y0, y1⟩ := EI_get C4 j hj
          generalize (want.getD j zI).1 = xk at F4 H4 X4 R4 C4 y0 y1 ⊢
          generalize (want.getD j zI).2 = xs at F4 H4 X4 R4 C4 y0 y1 ⊢
          have hc1 : decide ((0 : Int) ≤ (j : Int)) = true := decide_eq_true (by omega)
          have Y := Aside0.mk (And.intro y0 y1)
          clear h3 hf3 he hfj p1 p2 H2 R2 F2 R3 hj hz y0 y1 C4
          go_wp2_with (fail)
          generalize w3.alloc (.cells #[.int .i64 xk, .string xs] 27) = w4 at F4 H4 X4 R4 Y ⊢
          generalize w3.heap.size = gx at X4 ⊢
          subst e5
          obtain ⟨y0, y1⟩ := Y.out
          obtain ⟨x0, x1⟩ := X4.out.cells
          rw [add_field _ _ 1 (by omega)] at y1
          have i0 : (0 : Int) ≤ j := by omega
          have i1 : (j : Int) < want.length := by have := HJ.out; omega
          go_quiet (fail)
          clear x0 x1 y0 y1 Y X4 F4 i0 i1 hc1
          have FQ := (Fr.refl No w4).drewN nq
          have H5 := Aside0.mk (H4.out.no FQ)
          have R5 := Aside0.mk (R27_keep R4.out (K27.no FQ))
          generalize w4.drewN nq = w5 at H5 R5 ⊢
          clear FQ R4 H4
          go_wp2_with (fail)
          refine (HP.len H5.out).mono ?_
          rw [WW.out.len]
          rintro e w8 ⟨rfl, rfl⟩
          have hs : ((want.length : Int) != (want.length : Int)) = false := by simp
          go_wp2_with (fail)
          clear hs
          go_roundg (n - (k + 1))
          case measure => have := HLT.out; omega
          case rel => exact ⟨k + 1, A', c', l, t, want, by have := HLT.out; omega, by go_num, H5, HL, WW, ⟨by have := TT.out; omega⟩, R5⟩
    · have hb : decide ((k : Int) < n) = false := decide_eq_false (by omega)
      have hb2 : decide (k < n) = false := decide_eq_false hlt
      go_wp2
      go_ret
      exact ⟨rfl, HH.out.fr⟩

theorem heapPlays_walk (a0 : Option Addr) (len0 cap0 : Nat) (Wh Ky : Nat → Int) (N : Nat → ByteArray) (w : World) (w0 : DeedRowI w a0 len0 Wh Ky N ∧ len0 ≤ 9223372036854775807) : Calls Try.prog 3 #[.slice a0 len0 cap0] w fun e w' => e = .returned (.bool true) ∧ Below w.heap.size w w' := by
  refine Calls.mono (R := fun e w' => e = .returned (.bool true) ∧ Fr No w w') ?_ (fun e w' h => ⟨h.1, h.2.no⟩)
  by_cases h : 200 < len0
  · exact hplays_early w a0 cap0 _ h w0.2
  · exact hplays_main w a0 cap0 _ Wh Ky N w0.1 (by omega)

end Go.Proofs.Ythlcognpfangkaa
