/- The contracts of word.Put, word.Text and the reference's Bytes, Fits, Text, in the words of 'be' (no condition but the sizes). -/
import Derived.Test.YthlcognpfangkaaBe
namespace Go.Proofs.Ythlcognpfangkaa
open Go.RowKit Go.Proofs.YthlcognpfangkaaW.PrintWords Go.Proofs.YthlcognpfangkaaW.PrintLast Go.Proofs.YthlcognpfangkaaW.PrintMore
set_option linter.unusedVariables false
set_option linter.unusedSimpArgs false

theorem put_yes (w : World) (A : Option Addr) (c : Nat) (l : List Int) (m : Nat) (n : Int) (hr : Kd.C (Kd.int .u8) w A l.length l) (hc : l.length ≤ c) (hm : isW m) (h0 : 0 ≤ n) (hn : n < 18446744073709551616) (hf : fitsW m n) (hl : l.length + 8 < 140737488355328) :
    Calls Try.prog 31 #[.slice A l.length c, .int .i64 m, .int .u64 n] w fun e w' => ∃ v, e = .returned (.tuple #[v, .nilIface]) ∧ Kd.R (Kd.int .u8) 5 w' w.heap.size (fun _ => True) v (l ++ be m n) ∧ Fr No w w' := by
  refine (PWordPuts.word_Put.calls 20 A c l m n _ none w hr hc (put_f_yes l m n hm h0 hn hf hl)).mono ?_
  rintro e w' ⟨v, rfl, hR, hB⟩
  exact ⟨v, rfl, hR, Fr.of_below hB _⟩
theorem put_no (w : World) (A : Option Addr) (c : Nat) (l : List Int) (m n : Int) (hr : Kd.C (Kd.int .u8) w A l.length l) (hc : l.length ≤ c) (h0 : 0 ≤ n) (hn : n < 18446744073709551616) (hno : ¬ (isW m ∧ fitsW m.toNat n)) :
    Calls Try.prog 31 #[.slice A l.length c, .int .i64 m, .int .u64 n] w fun e w' => ∃ v, e = .returned (.tuple #[v, .iface 56 (.int .i64 1)]) ∧ Kd.R (Kd.int .u8) 5 w' w.heap.size (fun _ => True) v [] ∧ Fr No w w' := by
  refine (PWordPuts.word_Put.calls 20 A c l m n _ (some 1) w hr hc (put_f_no l m n h0 hn hno)).mono ?_
  rintro e w' ⟨v, rfl, hR, hB⟩
  exact ⟨v, rfl, hR, Fr.of_below hB _⟩

theorem fits2 (s : List Int) (h : s.length ≤ 65535) : fitsW 2 (s.length : Int) := by unfold fitsW; omega
theorem textp_yes (w : World) (A : Option Addr) (c : Nat) (l : List Int) (B : Option Addr) (d : Nat) (s : List Int) (hr : Kd.C (Kd.int .u8) w A l.length l) (hc : l.length ≤ c) (hs : Kd.C (Kd.int .u8) w B s.length s) (hd : s.length ≤ d)
    (h : s.length ≤ 65535) (hl : l.length + 65600 < 140737488355328) :
    Calls Try.prog 32 #[.slice A l.length c, .slice B s.length d] w fun e w' => ∃ v, e = .returned (.tuple #[v, .nilIface]) ∧ Kd.R (Kd.int .u8) 5 w' w.heap.size (fun _ => True) v (l ++ be 2 s.length ++ s) ∧ Fr No w w' := by
  have hf : PWordPuts.word_Text.f 20 l s = some (l ++ be 2 s.length ++ s, none) := by
    unfold PWordPuts.word_Text.f
    rw [if_neg (by omega), u64w _ (by omega) (by omega), show (2 : Int) = ((2 : Nat) : Int) from rfl, put_f_yes l 2 s.length (.inr (.inl rfl)) (by omega) (by omega) (fits2 s h) (by omega)]
    simp only [Option.bind_some]
    rw [if_pos (by rw [List.length_append, be_length]; omega)]
  refine (PWordPuts.word_Text.calls 20 A c l B d s _ none w hr hc hs hd hf).mono ?_
  rintro e w' ⟨v, rfl, hR, hB⟩
  exact ⟨v, rfl, hR, Fr.of_below hB _⟩
theorem textp_no (w : World) (A : Option Addr) (c : Nat) (l : List Int) (B : Option Addr) (d : Nat) (s : List Int) (hr : Kd.C (Kd.int .u8) w A l.length l) (hc : l.length ≤ c) (hs : Kd.C (Kd.int .u8) w B s.length s) (hd : s.length ≤ d) (h : 65535 < s.length) :
    Calls Try.prog 32 #[.slice A l.length c, .slice B s.length d] w fun e w' => ∃ v, e = .returned (.tuple #[v, .iface 56 (.int .i64 3)]) ∧ Kd.R (Kd.int .u8) 5 w' w.heap.size (fun _ => True) v [] ∧ Fr No w w' := by
  have hf : PWordPuts.word_Text.f 20 l s = some ([], some 3) := by
    unfold PWordPuts.word_Text.f
    rw [if_pos (by omega)]
  refine (PWordPuts.word_Text.calls 20 A c l B d s _ (some 3) w hr hc hs hd hf).mono ?_
  rintro e w' ⟨v, rfl, hR, hB⟩
  exact ⟨v, rfl, hR, Fr.of_below hB _⟩
theorem rtext_calls (w : World) (B : Option Addr) (d : Nat) (s : List Int) (hs : Kd.C (Kd.int .u8) w B s.length s) (hd : s.length ≤ d) (h : s.length ≤ 65535) :
    Calls Try.prog 36 #[.slice B s.length d] w fun e w' => ∃ v, e = .returned v ∧ Kd.R (Kd.int .u8) 5 w' w.heap.size (fun _ => True) v (be 2 s.length ++ s) ∧ Fr No w w' := by
  have hf : PWordPuts.tankardref01_Text.f 20 s = some (be 2 s.length ++ s) := by
    unfold PWordPuts.tankardref01_Text.f
    rw [u64w _ (by omega) (by omega), show (2 : Int) = ((2 : Nat) : Int) from rfl, bytes_f 2 20 s.length (by omega) (by omega) (by omega) (by omega)]
    simp only [Option.bind_some]
    rw [if_pos (by rw [be_length]; omega)]
  refine (PWordPuts.tankardref01_Text.calls 20 B d s _ w hs hd hf).mono ?_
  rintro e w' ⟨v, rfl, hR, hB⟩
  exact ⟨v, rfl, hR, Fr.of_below hB _⟩
theorem bytes_calls (w : World) (m : Nat) (n : Int) (hm : m ≤ 8) (h0 : 0 ≤ n) (hn : n < 18446744073709551616) :
    Calls Try.prog 35 #[.int .i64 m, .int .u64 n] w fun e w' => ∃ v, e = .returned v ∧ Kd.R (Kd.int .u8) 5 w' w.heap.size (fun _ => True) v (be m n) ∧ Fr No w w' := by
  refine (PWordPuts.tankardref01_Bytes.calls 20 m n _ w (bytes_f m 20 n (by omega) hm h0 hn)).mono ?_
  rintro e w' ⟨v, rfl, hR, hB⟩
  exact ⟨v, rfl, hR, Fr.of_below hB _⟩
theorem wide_calls (m : Int) (w : World) (b : Bool) (h : b = true ↔ isW m) : Calls Try.prog 33 #[.int .i64 m] w fun e w' => e = .returned (.bool b) ∧ Drawn0 w w' :=
  PWordPuts.tankardref01_Wide.calls m b w (right_f m b h)
theorem fitsr_calls (m : Nat) (n : Int) (w : World) (b : Bool) (hm : m ≤ 8) (h0 : 0 ≤ n) (hn : n < 18446744073709551616) (h : b = true ↔ fitsW m n) : Calls Try.prog 34 #[.int .i64 m, .int .u64 n] w fun e w' => e = .returned (.bool b) ∧ Drawn0 w w' :=
  PWordPuts.tankardref01_Fits.calls 20 m n b w (fits_f m n b hm h0 hn h)

theorem info56 : (Try.prog.info? 56).map (fun i => i.comparable) = some true := by kernel_rfl
theorem errEq_in (d : Nat) (w : World) (a b : Int) : (Op.equalIn (d + 2) 50 (.iface 56 (.int .i64 a)) (.iface 56 (.int .i64 b))).run Try.prog w = .ok (a == b) w := by
  obtain ⟨i, hi, hc⟩ := Option.map_eq_some_iff.1 info56
  simp [Op.equalIn, run_underlying Try.underlying50, run_underlying Try.underlying56, typeInfo, hi, hc]
theorem errNil_in (d : Nat) (w : World) (t : TypeId) (v : Value) : (Op.equalIn (d + 1) 50 .nilIface (.iface t v)).run Try.prog w = .ok false w := by
  simp [Op.equalIn, run_underlying Try.underlying50]
/-- Two of api's codes, as errors: the same if the numbers are. -/
@[go_sem] theorem err_eq (w : World) (a b : Int) : (binOp .eql 50 (.iface 56 (.int .i64 a)) (.iface 56 (.int .i64 b))).run Try.prog w = .ok (.bool (a == b)) w := by
  simp only [binOp]
  simp [Op.equal, Op.maxDepth, errEq_in 9998 w a b]
@[go_sem] theorem err_ne (w : World) (a b : Int) : (binOp .neq 50 (.iface 56 (.int .i64 a)) (.iface 56 (.int .i64 b))).run Try.prog w = .ok (.bool (!(a == b))) w := by
  simp only [binOp]
  simp [Op.equal, Op.maxDepth, errEq_in 9998 w a b]
@[go_sem] theorem err_eq_nil (w : World) (t : TypeId) (v : Value) : (binOp .eql 50 .nilIface (.iface t v)).run Try.prog w = .ok (.bool false) w := by
  simp only [binOp]
  simp [Op.equal, Op.maxDepth, errNil_in 9999 w t v]
@[go_sem] theorem err_ne_nil (w : World) (t : TypeId) (v : Value) : (binOp .neq 50 .nilIface (.iface t v)).run Try.prog w = .ok (.bool true) w := by
  simp only [binOp]
  simp [Op.equal, Op.maxDepth, errNil_in 9999 w t v]

theorem be2_258 : be 2 258 = [1, 2] := by decide
theorem isW2 : isW ((2 : Nat) : Int) := .inr (.inl rfl)
theorem isW1 : isW (1 : Int) := .inl rfl
theorem isW3 : ¬ isW 3 := by unfold isW; omega

/-- 'tankardlaw01.up'. -/
theorem up01 (w : World) : Calls Try.prog 30 #[] w fun e w' => e = .returned (.bool true) ∧ Fr No w w' := by
  have hn := Aside0.mk (fun w : World => Kd.C_nil (Kd.int .u8) w)
  go_enter Try.func30, Try.ntmps30
  go_wp2_with (fail)
  refine (put_yes _ none 0 [] 2 258 (hn.out _) (by simp) isW2 (by omega) (by omega) (by unfold fitsW; omega) (by simp)).mono ?_
  rintro e w1 ⟨v1, rfl, hr, hf⟩
  rw [be2_258] at hr
  have HO := Aside0.mk (show Kd.R (Kd.int .u8) 5 w1 w.heap.size (fun _ => True) v1 [1, 2] from hr)
  have HF := Aside0.mk hf
  clear hr hf
  go_wp2_with (fail)
  refine (put_no _ none 0 [] 3 1 (hn.out _) (by simp) (by omega) (by omega) (fun h => isW3 h.1)).mono ?_
  rintro e w2 ⟨v2, rfl, hr, hf⟩
  have HF2 := Aside0.mk (HF.out.trans hf (fun _ h => h.elim))
  have HO2 := Aside0.mk (hf.Rlow HO.out (fun _ h => h.elim))
  clear hr hf HO HF
  go_wp2_with (fail)
  refine (read_calls _ none 0 0).mono ?_
  rintro e w3 ⟨g, rfl, hg, hr, hf⟩
  have HF3 := Aside0.mk (HF2.out.trans hf (fun _ h => h.elim))
  have HO3 := Aside0.mk (hf.Rlow HO2.out (fun _ h => h.elim))
  have HG := Aside0.mk (show w.heap.size ≤ g from by rw [hg]; exact HF2.out.size)
  have HR3 := Aside0.mk hr
  clear hr hf HF2 hg HO2
  go_wp2_with (fail)
  refine (word_no _ g none 0 0 0 (-1) 1 HR3.out (by omega) (by omega) (by omega) isW1 (.inr (by omega))).mono ?_
  rintro e w4 ⟨rfl, hr, hf⟩
  rw [nb_eq] at hr
  have HF4 := Aside0.mk (HF3.out.trans hf (fun k (hk : k = g) => .inr (by rw [hk]; exact HG.out)))
  have HO4 := Aside0.mk (hf.Rtyp HO3.out HR3.out (by decide))
  have HR4 := Aside0.mk hr
  clear hr hf HO3 HF3
  obtain ⟨A1, c1, e1, hle, hrd⟩ := Kd.R_reads HO4.out
  replace e1 : v1 = .slice A1 2 c1 := e1
  subst e1
  have hcv : (convert 47 9 (.slice A1 2 c1)).run Try.prog w4 = .ok (.string (strOfNums [1, 2])) w4 := Kd.C_string (P := Try.prog) (c := c1) Try.underlying47 Try.underlying5 Try.underlying9 hrd
  have hst : (strOfNums [1, 2]).toList = [1, 2] := by rw [Lib.strOfNums_toList]; decide
  clear hrd hle
  go_wp2_with (go_at_call 43; refine (bad_calls _ _ _ _ _ _ _ HR4.out).mono ?_; rintro e w' ⟨rfl, rfl⟩)
  go_ret
  exact ⟨rfl, HF4.out⟩

end Go.Proofs.Ythlcognpfangkaa
