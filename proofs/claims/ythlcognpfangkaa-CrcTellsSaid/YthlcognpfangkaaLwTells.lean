/- The walk of the law CrcTells: it returns true (the argument's bytes readable, each a byte). -/
import Derived.Test.YthlcognpfangkaaLwCrc2
namespace Go.Proofs.Ythlcognpfangkaa
open Go.RowKit Go.Proofs.YthlcognpfangkaaW.PrintWords Go.Proofs.YthlcognpfangkaaW.PrintLast Go.Proofs.YthlcognpfangkaaW.PrintMore
set_option linter.unusedVariables false
set_option linter.unusedSimpArgs false

theorem be_inj (k : Nat) (m n : Int) (h0 : 0 ≤ m) (h1 : m < 256 ^ k) (h2 : 0 ≤ n) (h3 : n < 256 ^ k) (h : be k m = be k n) : m = n := by
  have a := be_fold k 0 m h0 h1
  have b := be_fold k 0 n h2 h3
  rw [h, b] at a
  omega
theorem xor_ne (c x : Nat) (hx : x ≠ 0) : c ^^^ x ≠ c := by
  intro h
  apply hx
  have h2 : x ^^^ c = 0 ^^^ c := by rw [Nat.zero_xor, Nat.xor_comm]; exact h
  exact xor_right x 0 c h2
theorem seal_take (b : List Int) : (sealL b).take ((sealL b).length - 4) = b := by
  rw [sealL_length, show b.length + 4 - 4 = b.length by omega]
  unfold sealL
  exact List.take_left' rfl
/-- Of sealed bytes one is another one: they are not sealed bytes. -/
theorem set_tells (b : List Int) (hb : isBytes b) (i : Nat) (y : Int) (hi : i < (sealL b).length) (hy : 0 ≤ y ∧ y ≤ 255) (hne : y ≠ (sealL b)[i]) :
    (sealL b).set i y ≠ sealL (((sealL b).set i y).take (((sealL b).set i y).length - 4)) := by
  rw [List.length_set, sealL_length, show b.length + 4 - 4 = b.length by omega]
  by_cases hib : i < b.length
  · have e1 : (sealL b).set i y = b.set i y ++ be 4 (sumN b) := by
      unfold sealL
      exact List.set_append_left i y hib
    rw [e1, List.take_left' (by simp)]
    intro h
    unfold sealL at h
    have h2 := List.append_cancel_left h
    have s1 := sumN_lt b
    have s2 := sumN_lt (b.set i y)
    have h3 := be_inj 4 _ _ (by omega) (by omega) (by omega) (by omega) h2
    have eb : b = b.take i ++ b[i] :: b.drop (i + 1) := by rw [← List.drop_eq_getElem_cons hib, List.take_append_drop]
    have es : b.set i y = b.take i ++ y :: b.drop (i + 1) := List.set_eq_take_append_cons_drop.trans (if_pos hib)
    have hby : isBytes (b.set i y) := by
      intro c hc
      rw [es, List.mem_append, List.mem_cons] at hc
      rcases hc with hc | rfl | hc
      · exact hb c (List.mem_of_mem_take hc)
      · exact hy
      · exact hb c (List.mem_of_mem_drop hc)
    have l1 := crcS_lt b 4294967295 (by omega) hb
    have l2 := crcS_lt (b.set i y) 4294967295 (by omega) hby
    have h4 : crcS 4294967295 b = crcS 4294967295 (b.set i y) := by
      unfold sumN at h3
      omega
    have hc : y ≠ b[i] := by
      intro e
      apply hne
      rw [e]
      exact (List.getElem_append_left (bs := be 4 (sumN b)) hib).symm
    refine crcS_tells (b.take i) (b.drop (i + 1)) b[i] y 4294967295 (by omega) (fun c hc => hb c (List.mem_of_mem_take hc)) (fun c hc => hb c (List.mem_of_mem_drop hc)) (hb _ (List.getElem_mem _)) hy (fun e => hc e.symm) ?_
    rw [← es, ← eb]
    exact h4
  · have e1 : ((sealL b).set i y).take b.length = b := by
      rw [List.take_set_of_le (by omega)]
      unfold sealL
      exact List.take_left' rfl
    rw [e1]
    intro h
    apply hne
    have := congrArg (fun l => l[i]?) h
    simp only [List.getElem?_set_self hi, List.getElem?_eq_getElem hi] at this
    exact Option.some.inj this

/-- A row of bytes of the call's own that is not empty: its block. -/
theorem R_form {W : World} {base e : Nat} {ok : Nat → Prop} {v : Value} {xs : List Int} (h : Kd.R (Kd.int .u8) e W base ok v xs) (hn : 0 < xs.length) : ∃ g cap, v = .slice (some ⟨g, 0, none⟩) xs.length cap ∧ base ≤ g := by
  obtain ⟨inner, ho⟩ := Kd.R_own h
  rcases ho.2 with ⟨_, h0⟩ | ⟨g, cap, cur, e, hg, _⟩
  · omega
  · exact ⟨g, cap, e, hg⟩

set_option maxRecDepth 100000 in
theorem tells_main (w : World) (A : Option Addr) (c : Nat) (b : List Int) (at_ x : Int) (hr : Kd.C (Kd.int .u8) w A b.length b) (hc : b.length ≤ c) (hl : isBytes b) (h : b.length ≤ 3000) (hx0 : 0 ≤ x) (hx1 : x ≤ 255) :
    Calls Try.prog 10 #[.slice A b.length c, .int .i64 at_, .int .u8 x] w fun e w' => e = .returned (.bool true) ∧ Fr No w w' := by
  have h1 : decide (3000 < b.length) = false := decide_eq_false (by omega)
  have h1i : decide (3000 < (b.length : Int)) = false := decide_eq_false (by omega)
  have HR := Aside0.mk hr
  have HC := Aside0.mk hc
  have HL := Aside0.mk hl
  clear hr hc hl
  obtain ⟨q, hq⟩ : ∃ q, sealL b = q := ⟨_, rfl⟩
  have HQ := Aside0.mk hq
  have HQL := Aside0.mk (show q.length = b.length + 4 from by rw [← hq]; exact sealL_length b)
  have HQT := Aside0.mk (show q.take (q.length - 4) = b from by rw [← hq]; exact seal_take b)
  have HQB := Aside0.mk (show isBytes q from by rw [← hq]; exact sealL_range b HL.out)
  clear hq
  go_enter Try.func10, Try.ntmps10
  go_wp2_with (fail)
  refine (up02 _).mono ?_
  rintro e w1 ⟨rfl, hf⟩
  have F1 := Aside0.mk hf
  clear hf
  go_wp2_with (fail)
  refine (seal_calls _ A c b (C_on HR.out F1.out) HC.out HL.out (by omega)).mono ?_
  rw [HQ.out]
  rintro e w2 ⟨v2, rfl, hr2, hf⟩
  have F2 := Aside0.mk (F1.out.on hf)
  obtain ⟨g, cp, e2, hg⟩ := R_form hr2 (by rw [HQL.out]; omega)
  rw [HQL.out] at e2
  subst e2
  have O2 := Aside0.mk (Kd.R_lower hr2 F1.out.size)
  have G2 := Aside0.mk (Nat.le_trans F1.out.size hg)
  clear hr2 hf hg F1
  go_wp2_with (fail)
  have hrd := Kd.R_reads' O2.out
  refine (calls_of_args (args' := #[.slice (some ⟨g, 0, none⟩) q.length cp]) (by rw [HQL.out]) (open_yes _ _ cp q hrd.2.2 (by rw [HQL.out]; exact hrd.2.1) HQB.out (by rw [HQL.out]; omega) (by rw [HQL.out]; omega) (by rw [HQT.out, HQ.out]))).mono ?_
  rw [HQT.out]
  clear hrd
  rintro e w3 ⟨v3, rfl, hr3, hf⟩
  have F3 := Aside0.mk (F2.out.on hf)
  have O3 := Aside0.mk (hf.Rlow O2.out (fun _ h => h.elim))
  obtain ⟨A3, c3, e3, _, hrd3⟩ := R_out hr3
  subst e3
  have cv1 := cv (c := c3) hrd3
  have cv2 := cv (c := c) (C_on HR.out F3.out)
  have hlen : (((b.length : Int) + 4) != (b.length + 4)) = false := by simp
  clear hr3 hf hrd3 F2 O2
  by_cases hearly : at_ < 0 ∨ (b.length : Int) + 4 ≤ at_ ∨ x = 0
  · by_cases h2 : at_ < 0
    · have h2b : decide (at_ < 0) = true := decide_eq_true h2
      clear hearly
      go_wp2
      go_ret
      exact ⟨rfl, F3.out⟩
    by_cases h3 : (b.length : Int) + 4 ≤ at_
    · have h2b : decide (at_ < 0) = false := decide_eq_false h2
      have h3b : decide ((b.length : Int) + 4 ≤ at_) = true := decide_eq_true h3
      clear hearly
      go_wp2
      go_ret
      exact ⟨rfl, F3.out⟩
    · have h2b : decide (at_ < 0) = false := decide_eq_false h2
      have h3b : decide ((b.length : Int) + 4 ≤ at_) = false := decide_eq_false h3
      obtain rfl : x = 0 := by omega
      clear hearly
      go_wp2
      go_ret
      exact ⟨rfl, F3.out⟩
  · obtain ⟨i, rfl⟩ := Int.eq_ofNat_of_zero_le (show 0 ≤ at_ by omega)
    have h2b : decide ((i : Int) < 0) = false := decide_eq_false (by omega)
    have h3b : decide ((b.length : Int) + 4 ≤ i) = false := decide_eq_false (by omega)
    have h4b : (x == 0) = false := beq_eq_false_iff_ne.mpr (by omega)
    have hi : i < b.length + 4 := by omega
    obtain ⟨xn, rfl⟩ := Int.eq_ofNat_of_zero_le hx0
    have hx2 : xn ≠ 0 := by omega
    have o3 := O3.out
    rw [← HQL.out] at o3
    have hiq : i < q.length := by rw [HQL.out]; exact hi
    have hcl := Kd.R_cell (0 : Int) o3 (i : Int) (by omega) (by omega)
    have hput := Kd.R_put o3 (i : Int) ((q[i].toNat ^^^ xn : Nat) : Int)
    rw [Int.toNat_natCast] at hcl hput
    have hqi := HQB.out q[i] (List.getElem_mem _)
    have hv : rdOf (0 : Int) q (i : Int) = ((q[i].toNat : Nat) : Int) := by
      unfold rdOf
      rw [Int.toNat_natCast, List.getD_eq_getElem?_getD, List.getElem?_eq_getElem hiq, Option.getD_some]
      omega
    rw [hv] at hcl
    have hx3 : xn < 256 := by omega
    have hxor : Go.bits .xor .u8 ((q[i].toNat : Nat) : Int) (xn : Int) = ((q[i].toNat ^^^ xn : Nat) : Int) := u8_xor_nat _ _ (by omega) hx3
    have hyl : q[i].toNat ^^^ xn < 256 := Nat.xor_lt_two_pow (n := 8) (by omega) hx3
    have hyn := xor_ne q[i].toNat xn hx2
    have hne : ((q[i].toNat ^^^ xn : Nat) : Int) ≠ q[i] := by omega
    have htell : q.set i ((q[i].toNat ^^^ xn : Nat) : Int) ≠ sealL ((q.set i ((q[i].toNat ^^^ xn : Nat) : Int)).take ((q.set i ((q[i].toNat ^^^ xn : Nat) : Int)).length - 4)) := by
      have hq := HQ.out
      subst hq
      exact set_tells b HL.out i _ hiq (by omega) hne
    obtain ⟨hc1, hc2⟩ := hcl
    have HP := Aside0.mk hput
    have HT := Aside0.mk htell
    have HYL := Aside0.mk hyl
    replace hc1 : w3.cell? ⟨g, i, none⟩ = some (.int .u8 ((q[i].toNat : Nat) : Int)) := hc1
    generalize q[i].toNat ^^^ xn = y at hxor HP HT HYL
    generalize q[i].toNat = ci at hc1 hxor
    clear hearly o3 hput htell hv hqi hyl hyn hne
    have hi2 : (i : Int) < b.length + 4 := by omega
    go_wp2_with (fail)
    have F4 := Aside0.mk (F3.out.setNew G2.out i (.int .u8 (y : Int)))
    have hr4 := Kd.R_reads' HP.out.1
    have hln : (q.set i (y : Int)).length = b.length + 4 := by rw [List.length_set, HQL.out]
    have hby : isBytes (q.set i (y : Int)) := by
      intro c hc
      rcases List.mem_or_eq_of_mem_set hc with hc | rfl
      · exact HQB.out c hc
      · have := HYL.out
        omega
    have HR4 := Aside0.mk hr4.2.2
    have HC4 := Aside0.mk hr4.2.1
    have HLN := Aside0.mk hln
    have HBY := Aside0.mk hby
    clear hr4 hln hby HP
    refine (calls_of_args (args' := #[.slice (some ⟨g, 0, none⟩) (q.set i (y : Int)).length cp]) (by rw [HLN.out]) (open_bad _ _ cp (q.set i (y : Int)) HR4.out (by rw [HLN.out, ← HQL.out]; exact HC4.out) HBY.out (by rw [HLN.out]; omega) (by rw [HLN.out]; omega) HT.out)).mono ?_
    rintro e w5 ⟨rfl, hf⟩
    have F5 := Aside0.mk (F4.out.on hf)
    clear hf cv1 cv2 hc1 hc2 hxor
    go_wp2
    go_ret
    exact ⟨rfl, F5.out⟩


section
variable (a0 : Option Addr) (len0 cap0 : Nat) (z0 : List Int) (w : World) (w0 : IsRow .u8 w a0 len0 cap0 z0) (y0 : len0 * 1 ≤ 140737488351232)
include w0 y0
theorem crcTells_walk' (at_ x : Int) (w2 : (Lit.int .u8 x).wf = true) :
    Calls Try.prog 10 #[.slice a0 len0 cap0, .int .i64 at_, .int .u8 x] w fun e w' => e = .returned (.bool true) ∧ Below w.heap.size w w' := by
  obtain ⟨b, rfl, hr0, hc0, hw0⟩ := w0.reads
  have hb : isBytes b := fun x hx => by have := bounds_u8 (hw0 x hx); omega
  have hx := bounds_u8 w2
  refine Calls.mono (R := fun e w' => e = .returned (.bool true) ∧ Fr No w w') ?_ (fun e w' h => ⟨h.1, h.2.no⟩)
  by_cases h : 3000 < b.length
  · exact tells_early w a0 cap0 b at_ x h (by omega)
  · exact tells_main w a0 cap0 b at_ x hr0 hc0 hb (by omega) (by omega) (by omega)
theorem crcSums_walk' : Calls Try.prog 7 #[.slice a0 len0 cap0] w fun e w' => e = .returned (.bool true) ∧ Below w.heap.size w w' := by
  obtain ⟨b, rfl, hr0, hc0, hw0⟩ := w0.reads
  have hb : isBytes b := fun x hx => by have := bounds_u8 (hw0 x hx); omega
  refine Calls.mono (R := fun e w' => e = .returned (.bool true) ∧ Fr No w w') ?_ (fun e w' h => ⟨h.1, h.2.no⟩)
  by_cases h : 3000 < b.length
  · exact sums_early w a0 cap0 b h (by omega)
  · exact sums_main w a0 cap0 b hr0 hc0 hb (by omega)
theorem crcOpens_walk' : Calls Try.prog 8 #[.slice a0 len0 cap0] w fun e w' => e = .returned (.bool true) ∧ Below w.heap.size w w' := by
  obtain ⟨b, rfl, hr0, hc0, hw0⟩ := w0.reads
  have hb : isBytes b := fun x hx => by have := bounds_u8 (hw0 x hx); omega
  refine Calls.mono (R := fun e w' => e = .returned (.bool true) ∧ Fr No w w') ?_ (fun e w' h => ⟨h.1, h.2.no⟩)
  by_cases h : 3000 < b.length
  · exact opens_early w a0 cap0 b h (by omega)
  by_cases h4 : b.length < 4
  · exact opens_short w a0 cap0 b hr0 hc0 hb (by omega) h4
  by_cases hs : b = sealL (b.take (b.length - 4))
  · exact opens_yes w a0 cap0 b hr0 hc0 hb (by omega) (by omega) hs
  · exact opens_bad w a0 cap0 b hr0 hc0 hb (by omega) (by omega) hs
theorem crcOn_walk' (a1 : Option Addr) (len1 cap1 : Nat) (z1 : List Int) (w1 : IsRow .u8 w a1 len1 cap1 z1) (y1 : len1 * 1 ≤ 140737488351232) :
    Calls Try.prog 9 #[.slice a0 len0 cap0, .slice a1 len1 cap1] w fun e w' => e = .returned (.bool true) ∧ Below w.heap.size w w' := by
  obtain ⟨a, rfl, hr0, hc0, hw0⟩ := w0.reads
  obtain ⟨b, rfl, hr1, hc1, hw1⟩ := w1.reads
  have ha : isBytes a := fun x hx => by have := bounds_u8 (hw0 x hx); omega
  have hb : isBytes b := fun x hx => by have := bounds_u8 (hw1 x hx); omega
  refine Calls.mono (R := fun e w' => e = .returned (.bool true) ∧ Fr No w w') ?_ (fun e w' h => ⟨h.1, h.2.no⟩)
  by_cases h : 3000 < a.length + b.length
  · exact on_early w a0 cap0 a a1 cap1 b h (by omega) (by omega)
  · exact on_main w a0 cap0 a a1 cap1 b hr0 hc0 ha hr1 hc1 hb (by omega)
end
theorem crcTells_walk (a0 : Option Addr) (len0 cap0 : Nat) (z0 : List Int) (at_ x : Int) (w : World) (w0 : IsRow .u8 w a0 len0 cap0 z0) (y0 : len0 * 1 ≤ 140737488351232) (w1 : (Lit.int .i64 at_).wf = true) (w2 : (Lit.int .u8 x).wf = true) :
    Calls Try.prog 10 #[.slice a0 len0 cap0, .int .i64 at_, .int .u8 x] w fun e w' => e = .returned (.bool true) ∧ Below w.heap.size w w' := crcTells_walk' a0 len0 cap0 z0 w w0 y0 at_ x w2
theorem crcSums_walk (a0 : Option Addr) (len0 cap0 : Nat) (z0 : List Int) (w : World) (w0 : IsRow .u8 w a0 len0 cap0 z0) (y0 : len0 * 1 ≤ 140737488351232) : Calls Try.prog 7 #[.slice a0 len0 cap0] w fun e w' => e = .returned (.bool true) ∧ Below w.heap.size w w' := crcSums_walk' a0 len0 cap0 z0 w w0 y0
theorem crcOpens_walk (a0 : Option Addr) (len0 cap0 : Nat) (z0 : List Int) (w : World) (w0 : IsRow .u8 w a0 len0 cap0 z0) (y0 : len0 * 1 ≤ 140737488351232) : Calls Try.prog 8 #[.slice a0 len0 cap0] w fun e w' => e = .returned (.bool true) ∧ Below w.heap.size w w' := crcOpens_walk' a0 len0 cap0 z0 w w0 y0
theorem crcOn_walk (a0 : Option Addr) (len0 cap0 : Nat) (z0 : List Int) (a1 : Option Addr) (len1 cap1 : Nat) (z1 : List Int) (w : World) (w0 : IsRow .u8 w a0 len0 cap0 z0) (y0 : len0 * 1 ≤ 140737488351232) (w1 : IsRow .u8 w a1 len1 cap1 z1) (y1 : len1 * 1 ≤ 140737488351232) : Calls Try.prog 9 #[.slice a0 len0 cap0, .slice a1 len1 cap1] w fun e w' => e = .returned (.bool true) ∧ Below w.heap.size w w' := crcOn_walk' a0 len0 cap0 z0 w w0 y0 a1 len1 cap1 z1 w1 y1

end Go.Proofs.Ythlcognpfangkaa
