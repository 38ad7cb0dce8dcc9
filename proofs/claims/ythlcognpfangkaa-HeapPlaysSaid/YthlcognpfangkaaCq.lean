/- The walks of crc's Sum, Seal, Open, of the reference's Open, and of the number of an error (no condition but that bytes are readable). -/
import Derived.Test.YthlcognpfangkaaCr
namespace Go.Proofs.Ythlcognpfangkaa
open Go.RowKit Go.Proofs.YthlcognpfangkaaW.PrintWords Go.Proofs.YthlcognpfangkaaW.PrintLast Go.Proofs.YthlcognpfangkaaW.PrintMore
set_option linter.unusedVariables false
set_option linter.unusedSimpArgs false

def isBytes (l : List Int) : Prop := ∀ c ∈ l, 0 ≤ c ∧ c ≤ 255

theorem sum_calls (w : World) (A : Option Addr) (c : Nat) (l : List Int) (hr : Kd.C (Kd.int .u8) w A l.length l) (hc : l.length ≤ c) (hl : isBytes l) :
    Calls Try.prog 45 #[.slice A l.length c] w fun e w' => e = .returned (.int .u32 ((sumN l : Nat) : Int)) ∧ Fr No w w' := by
  have HR := Aside0.mk hr
  have HC := Aside0.mk hc
  have HL := Aside0.mk hl
  clear hr hc hl
  go_enter Try.func45, Try.ntmps45
  go_wp2_with (go_at_call 52; refine (on_calls _ 0 A c l HR.out HC.out HL.out (by omega)).mono ?_; rintro e w' ⟨rfl, hf⟩; have HF := Aside0.mk hf; clear hf)
  go_ret
  exact ⟨rfl, HF.out⟩

theorem fits4 (l : List Int) : fitsW 4 ((sumN l : Nat) : Int) := by have := sumN_lt l; unfold fitsW; omega
theorem isW4 : isW ((4 : Nat) : Int) := .inr (.inr (.inl rfl))

theorem seal_calls (w : World) (A : Option Addr) (c : Nat) (l : List Int) (hr : Kd.C (Kd.int .u8) w A l.length l) (hc : l.length ≤ c) (hl : isBytes l) (hn : l.length ≤ 140737488355000) :
    Calls Try.prog 47 #[.slice A l.length c] w fun e w' => ∃ v, e = .returned v ∧ Kd.R (Kd.int .u8) 5 w' w.heap.size (fun _ => True) v (sealL l) ∧ Fr No w w' := by
  have HR := Aside0.mk hr
  have HC := Aside0.mk hc
  have HL := Aside0.mk hl
  have hs := sumN_lt l
  have hs0 : IntKind.u64.wrap ((sumN l : Nat) : Int) = ((sumN l : Nat) : Int) := u64w _ (by omega) (by omega)
  clear hr hc hl
  go_enter Try.func47, Try.ntmps47
  go_wp2_with (first | (go_at_call 45; refine (sum_calls _ A c l HR.out HC.out HL.out).mono ?_; rintro e w1 ⟨rfl, hf⟩; have HF := Aside0.mk hf; clear hf) | (go_at_call 31; refine (put_yes _ A c l 4 ((sumN l : Nat) : Int) (C_on HR.out HF.out) HC.out isW4 (by omega) (by omega) (fits4 l) (by omega)).mono ?_; rintro e w2 ⟨v2, rfl, hr2, hf⟩; have R2 := Aside0.mk (Kd.R_lower hr2 HF.out.size); have F2 := Aside0.mk (HF.out.on hf); clear hr2 hf))
  go_ret
  exact ⟨v2, rfl, R2.out, F2.out⟩

theorem equal_calls (w : World) (A : Option Addr) (c : Nat) (l : List Int) (B : Option Addr) (d : Nat) (m : List Int) (hr : Kd.C (Kd.int .u8) w A l.length l) (hc : l.length ≤ c) (hm : Kd.C (Kd.int .u8) w B m.length m) (hd : m.length ≤ d) (b : Bool) (hb : b = ((strOfNums l).toList == (strOfNums m).toList)) :
    Calls Try.prog 89 #[.slice A l.length c, .slice B m.length d] w fun e w' => e = .returned (.bool b) ∧ Drawn0 w w' :=
  PCrcSums.bytes_Equal.calls A c l B d m b w hr hc hm hd (by unfold PCrcSums.bytes_Equal.f; rw [hb])
theorem str_inj {l m : List Int} (hl : isBytes l) (hm : isBytes m) : ((strOfNums l).toList == (strOfNums m).toList) = decide (l = m) := by
  rw [Lib.strOfNums_toList, Lib.strOfNums_toList, Bool.eq_iff_iff, beq_iff_eq, decide_eq_true_iff]
  constructor
  · intro h
    have key : ∀ (l m : List Int), isBytes l → isBytes m → Lib.bytesOf l = Lib.bytesOf m → l = m := by
      intro l
      induction l with
      | nil => intro m _ _ h; cases m with
        | nil => rfl
        | cons => simp [Lib.bytesOf] at h
      | cons x l ih =>
        intro m hl hm h
        cases m with
        | nil => simp [Lib.bytesOf] at h
        | cons y m =>
          simp only [Lib.bytesOf, List.map_cons, List.cons.injEq] at h
          have hx := hl x List.mem_cons_self
          have hy := hm y List.mem_cons_self
          have h1 := congrArg UInt8.toNat h.1
          rw [UInt8.toNat_ofNat', UInt8.toNat_ofNat', Nat.mod_eq_of_lt (by omega), Nat.mod_eq_of_lt (by omega)] at h1
          rw [ih m (fun z hz => hl z (List.mem_cons_of_mem _ hz)) (fun z hz => hm z (List.mem_cons_of_mem _ hz)) h.2, show x = y by omega]
    exact key l m hl hm h
  · rintro rfl
    rfl
theorem bytes_take {l : List Int} (h : isBytes l) (n : Nat) : isBytes (l.take n) := fun c hc => h c (List.mem_of_mem_take hc)

/-- 'x[:n]'. -/
theorem cutto (A : Option Addr) (l : List Int) (c n : Nat) (hn : n ≤ l.length) (hc : l.length ≤ c) :
    ∀ W : World, (Instr.slice 47 (.slice A l.length c) none (some (.int .i64 (n : Int))) none).run Try.prog W = .ok (.slice A (l.take n).length c) W := by
  obtain ⟨i0, hi, hz0, hz1, hz2⟩ := info_parts PWordPuts.info5
  intro W
  have h := (print_take_int (P := Try.prog) (k := .u8) 47 5 Try.underlying47 hi hz1 A c l (n : Int) (by omega) (by omega) hc).1 W
  rw [Int.toNat_natCast] at h
  exact h

theorem open_short (w : World) (A : Option Addr) (c n : Nat) (hn : n < 4) :
    Calls Try.prog 49 #[.slice A n c] w fun e w' => e = .returned (.tuple #[.slice none 0 0, .iface 56 (.int .i64 2)]) ∧ w = w' := by
  have h1 : decide ((n : Int) - 4 < 0) = true := decide_eq_true (by omega)
  go_enter Try.func49, Try.ntmps49
  go_wp2
  go_ret2
  exact ⟨rfl, rfl⟩

section
variable (w : World) (A : Option Addr) (c : Nat) (l : List Int) (hr : Kd.C (Kd.int .u8) w A l.length l) (hc : l.length ≤ c) (hl : isBytes l) (hn : l.length ≤ 140737488355000) (h4 : 4 ≤ l.length)
include hr hc hl hn h4
theorem open_bad (hno : l ≠ sealL (l.take (l.length - 4))) :
    Calls Try.prog 49 #[.slice A l.length c] w fun e w' => e = .returned (.tuple #[.slice none 0 0, .iface 56 (.int .i64 7)]) ∧ Fr No w w' := by
  obtain ⟨n, hnn⟩ : ∃ n, l.length - 4 = n := ⟨_, rfl⟩
  rw [hnn] at hno
  have h1 : decide ((l.length : Int) - 4 < 0) = false := decide_eq_false (by omega)
  have htl : (l.take n).length = n := by rw [List.length_take]; omega
  have hrt := Kd.C_take hr (m := n) (by omega)
  have hqb := bytes_take hl n
  have hsl := cutto A l c n (by omega) hc
  rw [htl] at hsl
  have e1 : (l.length : Int) - 4 = (n : Int) := by omega
  generalize l.take n = q at hno htl hrt hqb
  have HRT := Aside0.mk hrt
  have HTL := Aside0.mk htl
  have HR := Aside0.mk hr
  have HC := Aside0.mk hc
  have HL := Aside0.mk hl
  have HQB := Aside0.mk hqb
  have HNO := Aside0.mk hno
  clear hr hc hl hno htl hrt hnn hqb
  go_enter Try.func49, Try.ntmps49
  go_wp2_with (fail)
  refine (calls_of_args (args' := #[.slice A q.length c]) (by rw [HTL.out]) (seal_calls _ A c q HRT.out (by have := HC.out; have := HTL.out; omega) HQB.out (by have := HTL.out; omega))).mono ?_
  rintro e w1 ⟨v1, rfl, hr1, hf⟩
  have F1 := Aside0.mk hf
  obtain ⟨A1, c1, e1', hle1, hrd1⟩ := R_out hr1
  subst e1'
  have R1 := Aside0.mk hrd1
  have L1 := Aside0.mk hle1
  clear hr1 hf hle1 hrd1
  go_wp2_with (fail)
  refine (equal_calls _ A c l A1 c1 (sealL q) (C_on HR.out F1.out) HC.out R1.out L1.out false (by rw [str_inj HL.out (sealL_range q HQB.out)]; exact (decide_eq_false HNO.out).symm)).mono ?_
  rintro e w' ⟨rfl, ⟨nd, rfl⟩⟩
  go_wp2
  go_ret2
  exact ⟨rfl, F1.out.drewN _⟩

theorem open_yes (hyes : l = sealL (l.take (l.length - 4))) :
    Calls Try.prog 49 #[.slice A l.length c] w fun e w' => ∃ v, e = .returned (.tuple #[v, .nilIface]) ∧ Kd.R (Kd.int .u8) 5 w' w.heap.size (fun _ => True) v (l.take (l.length - 4)) ∧ Fr No w w' := by
  obtain ⟨n, hnn⟩ : ∃ n, l.length - 4 = n := ⟨_, rfl⟩
  rw [hnn] at hyes ⊢
  have h1 : decide ((l.length : Int) - 4 < 0) = false := decide_eq_false (by omega)
  have htl : (l.take n).length = n := by rw [List.length_take]; omega
  have hrt := Kd.C_take hr (m := n) (by omega)
  have hqb := bytes_take hl n
  have hsl := cutto A l c n (by omega) hc
  rw [htl] at hsl
  have e1 : (l.length : Int) - 4 = (n : Int) := by omega
  generalize l.take n = q at hyes htl hrt hqb ⊢
  have HRT := Aside0.mk hrt
  have HTL := Aside0.mk htl
  have HR := Aside0.mk hr
  have HC := Aside0.mk hc
  have HL := Aside0.mk hl
  have HQB := Aside0.mk hqb
  have HY := Aside0.mk hyes
  have HN := Aside0.mk hn
  have hnl : n ≤ 140737488355000 := by omega
  clear hr hc hl hyes htl hrt hnn hqb hn
  go_enter Try.func49, Try.ntmps49
  go_wp2_with (fail)
  refine (calls_of_args (args' := #[.slice A q.length c]) (by rw [HTL.out]) (seal_calls _ A c q HRT.out (by have := HC.out; have := HTL.out; omega) HQB.out (by have := HTL.out; omega))).mono ?_
  rintro e w1 ⟨v1, rfl, hr1, hf⟩
  have F1 := Aside0.mk hf
  obtain ⟨A1, c1, e1', hle1, hrd1⟩ := R_out hr1
  subst e1'
  have R1 := Aside0.mk hrd1
  have L1 := Aside0.mk hle1
  clear hr1 hf hle1 hrd1
  go_wp2_with (fail)
  refine (equal_calls _ A c l A1 c1 (sealL q) (C_on HR.out F1.out) HC.out R1.out L1.out true (by rw [str_inj HL.out (sealL_range q HQB.out)]; exact (decide_eq_true HY.out).symm)).mono ?_
  rintro e w2 ⟨rfl, hd⟩
  have F2 := Aside0.mk (F1.out.drawn hd)
  clear hd
  go_wp2_with (first | ((with_reducible refine gate_dst (N := 21) rfl ?_); refine lit_bytes w.heap.size rfl 21 rfl (fun _ => True) ?hr trivial ?hb ?_; (case hr => first | (go_simp; done) | (go_simp; rfl)); (case hb => exact F2.out.size); intro v3 w3 hr3 hg3 _; have O3 := Aside0.mk hr3; have F3 := Aside0.mk (F2.out.on (Fr.new hg3)); clear hr3 hg3) | ((with_reducible refine gate_builtin (b := .append) (xs := #[.tmp 21, .tmp 24]) rfl ?_); at_builtin; refine app_bytes w.heap.size rfl 21 24 rfl v3 [] q A n c (fun _ => True) rfl rfl O3.out (by have h := C_on HRT.out F3.out; rw [HTL.out] at h; exact h) (fun _ _ => trivial) F3.out.size ?hl ?_; (case hl => simp; omega); intro v4 w4 hr4 hg4 _; rw [List.nil_append] at hr4; have O4 := Aside0.mk hr4; have F4 := Aside0.mk (F3.out.own O3.out (Nat.le_refl _) hg4); clear hr4 hg4))
  go_ret2
  exact ⟨v4, rfl, O4.out, F4.out⟩
end

theorem mopen_short (w : World) (A : Option Addr) (c n : Nat) (hn : n < 4) :
    Calls Try.prog 50 #[.slice A n c] w fun e w' => e = .returned (.tuple #[.slice none 0 0, .int .i64 2]) ∧ w = w' := by
  have h1 : decide ((n : Int) - 4 < 0) = true := decide_eq_true (by omega)
  go_enter Try.func50, Try.ntmps50
  go_wp2
  go_ret2
  exact ⟨rfl, rfl⟩

/-- The number of an error that is one of api's. -/
theorem code_nil (w : World) : Calls Try.prog 51 #[.nilIface] w fun e w' => e = .returned (.int .i64 0) ∧ w = w' := by
  go_enter Try.func51, Try.ntmps51
  go_wp2
  go_ret
  exact ⟨rfl, rfl⟩
theorem code_some (w : World) (c : Nat) (h1 : 1 ≤ c) (h10 : c ≤ 10) : Calls Try.prog 51 #[.iface 56 (.int .i64 c)] w fun e w' => e = .returned (.int .i64 c) ∧ w = w' := by
  go_enter Try.func51, Try.ntmps51
  go_wp2
  go_loop [3] (fun v3 => ∃ k : Nat, 1 ≤ k ∧ k ≤ c ∧ v3 = .int .i64 k) (fun v3 => c - (intOf v3).toNat)
  case atStart => exact ⟨1, by omega, h1, rfl⟩
  case round =>
    obtain ⟨k, hk1, hkc, rfl⟩ := hrel
    by_cases hk : k = c
    · subst hk
      have hb : decide ((k : Int) ≤ 10) = true := decide_eq_true (by omega)
      go_wp2
      go_ret
      exact ⟨rfl, rfl⟩
    · have hb : decide ((k : Int) ≤ 10) = true := decide_eq_true (by omega)
      have he : ((c : Int) == (k : Int)) = false := beq_eq_false_iff_ne.mpr (by omega)
      go_wp2
      go_round
      case rel => exact ⟨k + 1, by omega, by omega, by go_num⟩
      case measure => simp [intOf]; omega

end Go.Proofs.Ythlcognpfangkaa
