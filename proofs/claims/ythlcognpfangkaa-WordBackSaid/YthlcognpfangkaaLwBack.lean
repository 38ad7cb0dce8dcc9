/- The walk of the law WordBack: it returns true (the argument's bytes readable, each a byte, its length within the reach). -/
import Derived.Test.YthlcognpfangkaaVb
namespace Go.Proofs.Ythlcognpfangkaa
open Go.RowKit Go.Proofs.YthlcognpfangkaaW.PrintWords Go.Proofs.YthlcognpfangkaaW.PrintLast Go.Proofs.YthlcognpfangkaaW.PrintMore
set_option linter.unusedVariables false
set_option linter.unusedSimpArgs false

theorem isW8 : isW ((8 : Nat) : Int) := .inr (.inr (.inr rfl))
theorem fits8 (n : Int) (h : n < 18446744073709551616) : fitsW 8 n := by unfold fitsW; omega

theorem four_parts (p q r t : List Int) (a b d : Nat) (ha : p.length = a) (hb : a + q.length = b) (hd : b + r.length = d) :
    (((p ++ q ++ r ++ t).drop 0).take a = p) ∧ (((p ++ q ++ r ++ t).drop a).take q.length = q) ∧ (((p ++ q ++ r ++ t).drop b).take r.length = r) ∧ (((p ++ q ++ r ++ t).drop d).take t.length = t) := by
  subst ha hb hd
  refine ⟨?_, ?_, ?_, ?_⟩
  · rw [List.drop_zero, List.append_assoc, List.append_assoc, List.take_left']; rfl
  · rw [List.append_assoc, List.append_assoc, List.drop_left' rfl, List.take_left']; rfl
  · rw [List.append_assoc (p ++ q), List.drop_left' (by simp), List.take_left']; rfl
  · rw [List.drop_left' (by simp; omega), List.take_length]

theorem back_long (w : World) (m n : Int) (A : Option Addr) (c : Nat) (s : List Int) (k : Int) (h : 2000 < s.length) (hl : s.length ≤ 140737488351232) :
    Calls Try.prog 11 #[.int .i64 m, .int .u64 n, .slice A s.length c, .int .u64 k] w fun e w' => e = .returned (.bool true) ∧ Fr No w w' := by
  have h1 : decide (2000 < s.length) = true := decide_eq_true h
  have h1i : decide (2000 < (s.length : Int)) = true := decide_eq_true (by omega)
  go_enter Try.func11, Try.ntmps11
  go_wp2_with (go_at_call 30; refine (up01 _).mono ?_; rintro e w1 ⟨rfl, hf⟩; have HF := Aside0.mk hf; clear hf)
  go_ret
  exact ⟨rfl, HF.out⟩

theorem back_not (w : World) (m n : Int) (A : Option Addr) (c : Nat) (s : List Int) (k : Int) (h : s.length ≤ 2000) (h0 : 0 ≤ n) (hn : n < 18446744073709551616) (hno : ¬ (isW m ∧ fitsW m.toNat n)) :
    Calls Try.prog 11 #[.int .i64 m, .int .u64 n, .slice A s.length c, .int .u64 k] w fun e w' => e = .returned (.bool true) ∧ Fr No w w' := by
  have h1 : decide (2000 < s.length) = false := decide_eq_false (by omega)
  have h1i : decide (2000 < (s.length : Int)) = false := decide_eq_false (by omega)
  have HNO := Aside0.mk hno
  have H0 := Aside0.mk h0
  have HN := Aside0.mk hn
  clear hno h0 hn
  go_enter Try.func11, Try.ntmps11
  go_wp2_with (fail)
  refine (up01 _).mono ?_
  rintro e w1 ⟨rfl, hf⟩
  have HF := Aside0.mk hf
  clear hf
  go_wp2_with (fail)
  refine (put_no _ none 0 [] m n (Kd.C_nil _ _) (by simp) H0.out HN.out HNO.out).mono ?_
  rintro e w2 ⟨v2, rfl, _, hf⟩
  have HF2 := Aside0.mk (HF.out.on hf)
  clear hf
  go_wp2_with (fail)
  go_ret
  exact ⟨rfl, HF2.out⟩

theorem back_yes (w : World) (m : Nat) (n : Int) (A : Option Addr) (c : Nat) (s : List Int) (k : Int) (hr : Kd.C (Kd.int .u8) w A s.length s) (hc : s.length ≤ c) (hb : ∀ x ∈ s, 0 ≤ x ∧ x ≤ 255)
    (h : s.length ≤ 2000) (h0 : 0 ≤ n) (hn : n < 18446744073709551616) (k0 : 0 ≤ k) (kn : k < 18446744073709551616) (hm : isW m) (hf : fitsW m n) :
    Calls Try.prog 11 #[.int .i64 m, .int .u64 n, .slice A s.length c, .int .u64 k] w fun e w' => e = .returned (.bool true) ∧ Fr No w w' := by
  have h1 : decide (2000 < s.length) = false := decide_eq_false (by omega)
  have h1i : decide (2000 < (s.length : Int)) = false := decide_eq_false (by omega)
  have HM := Aside0.mk hm
  have HFI := Aside0.mk hf
  have H0 := Aside0.mk h0
  have HN := Aside0.mk hn
  have K0 := Aside0.mk k0
  have KN := Aside0.mk kn
  have HR := Aside0.mk hr
  have HC := Aside0.mk hc
  have HBY := Aside0.mk hb
  have hm8 : m ≤ 8 := by unfold isW at hm; omega
  clear hm hf h0 hn k0 kn hr hc hb
  go_enter Try.func11, Try.ntmps11
  go_wp2_with (fail)
  refine (up01 _).mono ?_
  rintro e w1 ⟨rfl, hf⟩
  have F1 := Aside0.mk hf
  clear hf
  go_wp2_with (fail)
  refine (put_yes _ none 0 [] m n (Kd.C_nil _ _) (by simp) HM.out H0.out HN.out HFI.out (by simp)).mono ?_
  rintro e w2 ⟨v2, rfl, hr2, hf⟩
  rw [List.nil_append] at hr2
  have F2 := Aside0.mk (F1.out.on hf)
  obtain ⟨A2, c2, e2, hle2, hrd2⟩ := R_out hr2
  rw [be_length] at e2 hle2
  subst e2
  have R2 := Aside0.mk hrd2
  have L2 := Aside0.mk hle2
  clear hr2 hf hle2 hrd2
  go_wp2_with (fail)
  refine (calls_of_args (args' := #[.slice A2 (be m n).length c2, .slice A s.length c]) (by rw [be_length]) (textp_yes _ A2 c2 (be m n) A c s R2.out (by rw [be_length]; exact L2.out) (C_on HR.out F2.out) HC.out (by omega) (by rw [be_length]; omega))).mono ?_
  rintro e w3 ⟨v3, rfl, hr3, hf⟩
  have F3 := Aside0.mk (F2.out.on hf)
  obtain ⟨A3, c3, e3, hle3, hrd3⟩ := R_out hr3
  have hl3 : (be m n ++ be 2 s.length ++ s).length = m + 2 + s.length := by rw [List.length_append, List.length_append, be_length, be_length]
  have HL3 := Aside0.mk hl3
  rw [hl3] at e3 hle3
  subst e3
  have R3 := Aside0.mk hrd3
  have L3 := Aside0.mk hle3
  clear hr3 hf hle3 hrd3 hl3 R2 L2 F2 F1
  go_wp2_with (fail)
  refine (calls_of_args (args' := #[.slice A3 (be m n ++ be 2 s.length ++ s).length c3, .int .i64 (8 : Nat), .int .u64 k]) (by rw [HL3.out]; rfl) (put_yes _ A3 c3 (be m n ++ be 2 s.length ++ s) 8 k R3.out (by rw [HL3.out]; exact L3.out) isW8 K0.out KN.out (fits8 k KN.out) (by rw [HL3.out]; omega))).mono ?_
  rintro e w4 ⟨v4, rfl, hr4, hf⟩
  have F4 := Aside0.mk (F3.out.on hf)
  obtain ⟨A4, c4, e4, hle4, hrd4⟩ := R_out hr4
  obtain ⟨d1, d2, d3, d4⟩ := four_parts (be m n) (be 2 s.length) s (be 8 k) m (m + 2) (m + 2 + s.length) (be_length _ _) (by rw [be_length]) rfl
  have hby : ∀ x ∈ be m n ++ be 2 s.length ++ s ++ be 8 k, 0 ≤ x ∧ x ≤ 255 := by
    intro x hx
    simp only [List.mem_append] at hx
    rcases hx with ((hx | hx) | hx) | hx
    · exact be_range _ _ x hx
    · exact be_range _ _ x hx
    · exact HBY.out x hx
    · exact be_range _ _ x hx
  have hl4 : (be m n ++ be 2 s.length ++ s ++ be 8 k).length = m + 2 + s.length + 8 := by rw [List.length_append, HL3.out, be_length]
  generalize be m n ++ be 2 s.length ++ s ++ be 8 k = q at e4 hle4 hrd4 d1 d2 d3 d4 hby hl4
  rw [be_length] at d2 d4
  have n1 : wNum ((q.drop 0).take m) = n := by rw [d1]; exact wNum_be m n hm8 H0.out HFI.out
  have n2 : wNum ((q.drop m).take 2) = (s.length : Nat) := by rw [d2]; exact wNum_be 2 s.length (by omega) (by omega) (by omega)
  have n4 : wNum ((q.drop (m + 2 + s.length)).take 8) = k := by rw [d4]; exact wNum_be 8 k (by omega) K0.out (by have := KN.out; omega)
  rw [hl4] at e4
  subst e4
  have N1 := Aside0.mk n1
  have N2 := Aside0.mk n2
  have N4 := Aside0.mk n4
  have D3 := Aside0.mk d3
  have R4 := Aside0.mk hrd4
  have L4 := Aside0.mk hle4
  have HB4 := Aside0.mk hby
  have HL4 := Aside0.mk hl4
  clear hr4 hf hle4 hrd4 d1 d2 d3 d4 n1 n2 n4 hby R3 L3 HL3 hl4
  go_wp2_with (fail)
  refine (read_calls _ A4 (m + 2 + s.length + 8) c4).mono ?_
  rintro e w5 ⟨g, rfl, hg, hr5, hf⟩
  have F5 := Aside0.mk (F4.out.on hf)
  have B5 := Aside0.mk (hf.no)
  have G5 := Aside0.mk (show w4.heap.size ≤ g from by rw [hg]; exact Nat.le_refl _)
  have Rb5 := Aside0.mk (show Rb w5 g A4 q.length c4 0 (-1) from by rw [HL4.out]; exact hr5)
  clear hr5 hf hg
  go_wp2_with (fail)
  refine (word_yes w4 _ g A4 c4 q 0 m B5.out G5.out R4.out L4.out HB4.out Rb5.out HM.out (by rw [HL4.out]; omega)).mono ?_
  rw [N1.out]
  rintro e w6 ⟨rfl, hr6, hf⟩
  have B6 := Aside0.mk (hf.belowOf B5.out (fun k (hk : k = g) => by have := G5.out; omega) B5.out.size)
  have F6 := Aside0.mk (F5.out.trans hf (fun k (hk : k = g) => .inr (by have := G5.out; have := F4.out.size; omega)))
  have Rb6 := Aside0.mk (show Rb w6 g A4 q.length c4 (m : Nat) (-1) from by simpa using hr6)
  clear hr6 hf F5 B5 Rb5
  go_wp2_with (fail)
  refine (text_yes w4 _ g A4 c4 q m s.length s.length B6.out G5.out R4.out L4.out HB4.out Rb6.out (by rw [HL4.out]; omega) N2.out (by omega) (by omega) (by rw [HL4.out]; omega)).mono ?_
  rw [D3.out]
  rintro e w7 ⟨v7, rfl, hr7, hb7, hf⟩
  have B7 := Aside0.mk (hf.belowOf B6.out (fun k (hk : k = g) => by have := G5.out; omega) B6.out.size)
  have F7 := Aside0.mk (F6.out.trans hf (fun k (hk : k = g) => .inr (by have := G5.out; have := F4.out.size; omega)))
  have Rb7 := Aside0.mk hb7
  have S7 := Aside0.mk hr7
  have G6 := Aside0.mk (blk_lt Rb6.out)
  clear hr7 hb7 hf F6 B6
  go_wp2_with (fail)
  refine (word_yes w4 _ g A4 c4 q (m + 2 + s.length) 8 B7.out G5.out R4.out L4.out HB4.out Rb7.out isW8 (by rw [HL4.out]; omega)).mono ?_
  rw [N4.out]
  rintro e w8 ⟨rfl, hr8, hf⟩
  have F8 := Aside0.mk (F7.out.trans hf (fun k (hk : k = g) => .inr (by have := G5.out; have := F4.out.size; omega)))
  have S8 := Aside0.mk (hf.Rlow S7.out (fun k (hk : k = g) => by have := G6.out; omega))
  have Rb8 := Aside0.mk (show Rb w8 g A4 q.length c4 (m + 2 + s.length + 8 : Nat) (-1) from hr8)
  obtain ⟨A8, c8, e8, _, hrd8⟩ := R_out S8.out
  subst e8
  have cv1 := cv (c := c8) hrd8
  have cv2 := cv (c := c) (C_on HR.out F8.out)
  clear hr8 hf F7 B7 hrd8
  go_wp2_with (first | (go_at_call 42; refine (left_calls _ g A4 q.length c4 _ _ Rb8.out (by omega) (by rw [HL4.out]; omega) (by rw [HL4.out]; omega)).mono ?_; rw [HL4.out]; rintro e w' ⟨rfl, ⟨nd, rfl⟩⟩) | (go_at_call 43; refine (bad_calls _ g A4 q.length c4 _ _ (Rb8.out.drewN nd)).mono ?_; rintro e w' ⟨rfl, rfl⟩))
  go_ret
  exact ⟨rfl, F8.out.drewN _⟩

theorem wordBack_walk (m n : Int) (a0 : Option Addr) (len0 cap0 : Nat) (z0 : List Int) (k : Int) (w : World) (w1 : (Lit.int .i64 m).wf = true) (w2 : (Lit.int .u64 n).wf = true) (w0 : IsRow .u8 w a0 len0 cap0 z0) (y0 : len0 * 1 ≤ 140737488351232) (w3 : (Lit.int .u64 k).wf = true) :
    Calls Try.prog 11 #[.int .i64 m, .int .u64 n, .slice a0 len0 cap0, .int .u64 k] w fun e w' => e = .returned (.bool true) ∧ Below w.heap.size w w' := by
  obtain ⟨s, rfl, hr0, hc0, hw0⟩ := w0.reads
  obtain ⟨h0, hn⟩ := int_u64 w2
  obtain ⟨k0, kn⟩ := int_u64 w3
  have hb : ∀ x ∈ s, 0 ≤ x ∧ x ≤ 255 := fun x hx => by have := bounds_u8 (hw0 x hx); omega
  refine Calls.mono (R := fun e w' => e = .returned (.bool true) ∧ Fr No w w') ?_ (fun e w' h => ⟨h.1, h.2.no⟩)
  by_cases hs : 2000 < s.length
  · exact back_long w m n a0 cap0 s k hs (by omega)
  by_cases hf : isW m ∧ fitsW m.toNat n
  · obtain ⟨j, rfl, _, _⟩ := isW_cases hf.1
    exact back_yes w j n a0 cap0 s k hr0 hc0 hb (by omega) h0 hn k0 kn hf.1 (by simpa using hf.2)
  · exact back_not w m n a0 cap0 s k (by omega) h0 hn hf

end Go.Proofs.Ythlcognpfangkaa
