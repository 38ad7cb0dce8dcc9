/- The walk of word.Reader's Text (no condition but the reader's block). -/
import Derived.Test.YthlcognpfangkaaWw
namespace Go.Proofs.Ythlcognpfangkaa
open Go.RowKit Go.Proofs.YthlcognpfangkaaW.PrintWords Go.Proofs.YthlcognpfangkaaW.PrintLast Go.Proofs.YthlcognpfangkaaW.PrintMore
set_option linter.unusedVariables false
set_option linter.unusedSimpArgs false

theorem nb_ne (b x : Int) (h : b ≠ -1) : nb b x = b := by unfold nb; rw [if_neg h]
theorem nb_eq (x : Int) : nb (-1) x = x := by unfold nb; rw [if_pos rfl]

/-- Amiss already. -/
theorem text_bad (w : World) (g : Nat) (A : Option Addr) (n c a : Nat) (b most : Int) (h : Rb w g A n c a b) (hn : a ≤ n) (hl : n ≤ 9223372036854775807) (hb : b ≠ -1) :
    Calls Try.prog 38 #[.pointer (some ⟨g, 0, none⟩), .int .i64 most] w fun e w' => e = .returned (.slice none 0 0) ∧ Rb w' g A n c a b ∧ Fr (At g) w w' := by
  have hh := h.cells.2.1
  have H := Aside0.mk h
  have hb1 : (b == -1) = false := beq_eq_false_iff_ne.mpr hb
  have hb2 : (b != -1) = true := bne_iff_ne.mpr hb
  have HBN := Aside0.mk hb
  clear h hb
  go_enter Try.func38, Try.ntmps38
  go_wp2_with (first | (go_at_call 40; refine (word_no _ g A n c a b 2 (H.out) (by omega) (by omega) hl (.inr (.inl rfl)) (.inl HBN.out)).mono ?_; rintro e w1 ⟨rfl, hr, hf⟩; rw [nb_ne _ _ HBN.out] at hr; have hc := hr.cells.2.2.1; have HR := Aside0.mk hr; have HF := Aside0.mk hf; clear hr hf))
  go_ret
  exact ⟨rfl, HR.out, HF.out⟩

/-- No length there. -/
theorem text_short (w : World) (g : Nat) (A : Option Addr) (n c a : Nat) (most : Int) (h : Rb w g A n c a (-1)) (hn : a ≤ n) (hl : n ≤ 9223372036854775807) (hs : n < a + 2) :
    Calls Try.prog 38 #[.pointer (some ⟨g, 0, none⟩), .int .i64 most] w fun e w' => e = .returned (.slice none 0 0) ∧ Rb w' g A n c a a ∧ Fr (At g) w w' := by
  have hh := h.cells.2.1
  have H := Aside0.mk h
  have hb1 : ((a : Int) == -1) = false := beq_eq_false_iff_ne.mpr (by omega)
  have hb2 : ((a : Int) != -1) = true := bne_iff_ne.mpr (by omega)
  clear h
  go_enter Try.func38, Try.ntmps38
  go_wp2_with (first | (go_at_call 40; refine (word_no _ g A n c a (-1) 2 (H.out) (by omega) (by omega) hl (.inr (.inl rfl)) (.inr (by omega))).mono ?_; rintro e w1 ⟨rfl, hr, hf⟩; rw [nb_eq] at hr; have hc := hr.cells.2.2.1; have HR := Aside0.mk hr; have HF := Aside0.mk hf; clear hr hf))
  go_ret
  exact ⟨rfl, HR.out, HF.out⟩


/-- A length that is too great. -/
theorem text_long (w0 w : World) (g : Nat) (A : Option Addr) (c : Nat) (l : List Int) (a N : Nat) (most : Int) (hB : Below w0.heap.size w0 w) (hg : w0.heap.size ≤ g) (hr : Kd.C (Kd.int .u8) w0 A l.length l) (hc : l.length ≤ c) (hb : ∀ x ∈ l, 0 ≤ x ∧ x ≤ 255)
    (h : Rb w g A l.length c a (-1)) (hy : a + 2 ≤ l.length) (hN : wNum ((l.drop a).take 2) = N) (hN2 : N ≤ 65535) (hno : most < N ∨ l.length < a + 2 + N) :
    Calls Try.prog 38 #[.pointer (some ⟨g, 0, none⟩), .int .i64 most] w fun e w' => e = .returned (.slice none 0 0) ∧ Rb w' g A l.length c a a ∧ Fr (At g) w w' := by
  have hl : l.length ≤ 9223372036854775807 := hr.2.1
  have hh := h.cells.2.1
  have H := Aside0.mk h
  have HB := Aside0.mk hB
  have HG := Aside0.mk hg
  have HC := Aside0.mk hc
  have HR0 := Aside0.mk hr
  have HBY := Aside0.mk hb
  have HN := Aside0.mk hN
  have hb1 : ((a : Int) != -1) = true := bne_iff_ne.mpr (by omega)
  clear h hB hg hr hc hb hN
  by_cases hm : most < N
  · have hm1 : decide (most < (N : Int)) = true := decide_eq_true hm
    clear hno
    go_enter Try.func38, Try.ntmps38
    go_wp2_with (first | (go_at_call 40; refine (word_yes w0 _ g A c l a 2 HB.out HG.out HR0.out HC.out HBY.out H.out (.inr (.inl rfl)) hy).mono ?_; rintro e w1 ⟨rfl, hr, hf⟩; rw [HN.out]; obtain ⟨q0, q1, q2, q3, q4⟩ := hr.cells; have HR := Aside0.mk hr; have HF := Aside0.mk hf; clear hr hf) | (go_at_call 87; refine (fail_calls _ g A l.length c a (-1) a (HR.out.set1 a)).mono ?_; rintro e w2 ⟨rfl, hr, hf⟩; rw [nb_eq] at hr; have hc2 := hr.cells.2.2.1; have HR2 := Aside0.mk hr; have HF2 := Aside0.mk ((HF.out.setAt 1 (.int .i64 a)).trans hf (fun _ h => .inl h)); clear hr hf))
    go_ret
    exact ⟨rfl, HR2.out, HF2.out⟩
  · have hm1 : decide (most < (N : Int)) = false := decide_eq_false hm
    have hm2 : l.length < a + 2 + N := by omega
    have hm3 : decide ((l.length : Int) - (a + 2) < N) = true := decide_eq_true (by omega)
    clear hno
    go_enter Try.func38, Try.ntmps38
    go_wp2_with (first | (go_at_call 40; refine (word_yes w0 _ g A c l a 2 HB.out HG.out HR0.out HC.out HBY.out H.out (.inr (.inl rfl)) hy).mono ?_; rintro e w1 ⟨rfl, hr, hf⟩; rw [HN.out]; obtain ⟨q0, q1, q2, q3, q4⟩ := hr.cells; have HR := Aside0.mk hr; have HF := Aside0.mk hf; clear hr hf) | (go_at_call 42; refine (left_calls _ g A l.length c _ (-1) HR.out (by omega) (by omega) hl).mono ?_; rintro e w2 ⟨rfl, ⟨nd, rfl⟩⟩) | (go_at_call 87; refine (fail_calls _ g A l.length c a (-1) a ((HR.out.drewN nd).set1 a)).mono ?_; rintro e w2 ⟨rfl, hr, hf⟩; rw [nb_eq] at hr; have hc2 := hr.cells.2.2.1; have HR2 := Aside0.mk hr; have HF2 := Aside0.mk (((HF.out.drewN nd).setAt 1 (.int .i64 a)).trans hf (fun _ h => .inl h)); clear hr hf))
    go_ret
    exact ⟨rfl, HR2.out, HF2.out⟩

/-- A text. -/
theorem text_yes (w0 w : World) (g : Nat) (A : Option Addr) (c : Nat) (l : List Int) (a N : Nat) (most : Int) (hB : Below w0.heap.size w0 w) (hg : w0.heap.size ≤ g) (hr : Kd.C (Kd.int .u8) w0 A l.length l) (hc : l.length ≤ c) (hb : ∀ x ∈ l, 0 ≤ x ∧ x ≤ 255)
    (h : Rb w g A l.length c a (-1)) (hy : a + 2 ≤ l.length) (hN : wNum ((l.drop a).take 2) = N) (hN2 : N ≤ 65535) (hm : N ≤ most) (hy2 : a + 2 + N ≤ l.length) :
    Calls Try.prog 38 #[.pointer (some ⟨g, 0, none⟩), .int .i64 most] w fun e w' => ∃ v, e = .returned v ∧ Kd.R (Kd.int .u8) 5 w' w.heap.size (fun _ => True) v ((l.drop (a + 2)).take N) ∧ Rb w' g A l.length c (a + 2 + N : Nat) (-1) ∧ Fr (At g) w w' := by
  have hl : l.length ≤ 9223372036854775807 := hr.2.1
  have hgw := blk_lt h
  have hh := h.cells.2.1
  have H := Aside0.mk h
  have HB := Aside0.mk hB
  have HG := Aside0.mk hg
  have HC := Aside0.mk hc
  have HR0 := Aside0.mk hr
  have HBY := Aside0.mk hb
  have HN := Aside0.mk hN
  have hm1 : decide (most < (N : Int)) = false := decide_eq_false (by omega)
  have hm3 : decide ((l.length : Int) - (a + 2) < N) = false := decide_eq_false (by omega)
  have hcut : Kd.C (Kd.int .u8) w0 (cutA A c (a + 2)) N ((l.drop (a + 2)).take N) := by
    have := cutA_reads hr (lo := a + 2) (hi := a + 2 + N) (by omega) (by omega) hc
    rw [List.drop_take, show a + 2 + N - (a + 2) = N from by omega] at this
    have e : ((l.drop (a + 2)).take N).length = N := by rw [List.length_take, List.length_drop]; omega
    rw [e] at this
    exact this
  have HQ := Aside0.mk hcut
  clear h hB hg hr hc hb hN hcut
  go_enter Try.func38, Try.ntmps38
  go_wp2_with (first | (go_at_call 40; refine (word_yes w0 _ g A c l a 2 HB.out HG.out HR0.out HC.out HBY.out H.out (.inr (.inl rfl)) hy).mono ?_; rintro e w1 ⟨rfl, hr, hf⟩; rw [HN.out]; obtain ⟨q0, q1, q2, q3, q4⟩ := hr.cells; have HR := Aside0.mk hr; have HF := Aside0.mk hf; clear hr hf) | (go_at_call 42; refine (left_calls _ g A l.length c _ (-1) HR.out (by omega) (by omega) hl).mono ?_; rintro e w2 ⟨rfl, ⟨nd, rfl⟩⟩) | ((with_reducible refine gate_dst (N := 42) rfl ?_); refine lit_bytes w.heap.size rfl 42 rfl (fun _ => True) ?hr trivial ?hb ?_; (case hr => first | (go_simp; done) | (go_simp; rfl)); (case hb => exact HF.out.size); intro v3 w3 hr3 hg3 hn3; have HO3 := Aside0.mk hr3; have HR3 := Aside0.mk (show Rb w3 g A l.length c (a + 2 : Nat) (-1) from (Fr.new hg3).blk (HR.out.drewN nd) (fun h => h)); have HF3 := Aside0.mk ((HF.out.drewN nd).trans (Fr.new hg3) (fun _ h => h.elim)); clear hr3 hg3 hn3) | (go_at_call 88; refine (take_yes _ g A l.length c (a + 2) N HR3.out hy2 hl HC.out).mono ?_; rintro e w4 ⟨rfl, hr, hf⟩; have HR4 := Aside0.mk hr; have HO4 := Aside0.mk (hf.Rlow HO3.out (fun k (hk : k = g) => by omega)); have HF4 := Aside0.mk (HF3.out.trans hf (fun _ h => .inl h)); have HQ4 := Aside0.mk (Kd.C_below HQ.out (HF4.out.belowOf HB.out (fun k (hk : k = g) => by have := HG.out; omega) HB.out.size)); clear hr hf) | ((with_reducible refine gate_builtin (b := .append) (xs := #[.tmp 42, .tmp 45]) rfl ?_); at_builtin; refine app_bytes w.heap.size rfl 42 45 rfl v3 [] _ _ _ _ (fun _ => True) rfl rfl HO4.out HQ4.out (fun _ _ => trivial) HF4.out.size ?hl ?_; (case hl => simp; omega); intro v5 w5 hr5 hg5 _; rw [List.nil_append] at hr5; have HO5 := Aside0.mk hr5; have HF5 := Aside0.mk (HF4.out.own HO4.out (Nat.le_refl _) hg5); have HR5 := Aside0.mk (blk_grown HR4.out hg5 (Kd.R_ne HO4.out HR4.out (by decide))); clear hr5 hg5))
  go_ret
  exact ⟨_, rfl, HO5.out, HR5.out, HF5.out⟩

end Go.Proofs.Ythlcognpfangkaa
