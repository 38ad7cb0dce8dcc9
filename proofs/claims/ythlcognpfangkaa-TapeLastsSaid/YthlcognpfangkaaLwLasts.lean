/- The walk of the law TapeLasts: it returns true (the arguments' bytes readable, their lengths within the reach). -/
import Derived.Test.YthlcognpfangkaaTa
import Derived.Lib.SlBytesConst
namespace Go.Proofs.Ythlcognpfangkaa
open Go.RowKit Go.Proofs.YthlcognpfangkaaW.PrintWords Go.Proofs.YthlcognpfangkaaW.PrintLast Go.Proofs.YthlcognpfangkaaW.PrintMore
set_option linter.unusedVariables false
set_option linter.unusedSimpArgs false
attribute [local go_sem] max2_int min2_int max_two min_two

/-- What is left of what was not synced. -/
def moreN (n : Nat) (keep : Int) : Nat := if keep ≤ 0 then 0 else if (n : Int) < keep then n else keep.toNat
theorem more_crash (a b : Nat) (keep : Int) : crashN (a + b) a keep = a + moreN b keep := by
  unfold crashN moreN
  by_cases h1 : keep ≤ 0
  · rw [if_pos h1, if_pos h1]
  · rw [if_neg h1, if_neg h1]
    by_cases h2 : (b : Int) < keep
    · have h3 : ((a + b : Nat) : Int) - a < keep := by omega
      rw [if_pos h2, if_pos h3]; omega
    · have h3 : ¬ ((a + b : Nat) : Int) - a < keep := by omega
      rw [if_neg h2, if_neg h3]

theorem lasts_early (w : World) (A : Option Addr) (c : Nat) (a : List Int) (B : Option Addr) (d : Nat) (b : List Int) (keep : Int) (h : 5000 < a.length + b.length) (h1 : a.length ≤ 140737488351232) (h2 : b.length ≤ 140737488351232) :
    Calls Try.prog 12 #[.slice A a.length c, .slice B b.length d, .int .i64 keep] w fun e w' => e = .returned (.bool true) ∧ Fr No w w' := by
  have h1i : decide (5000 < (a.length : Int) + b.length) = true := decide_eq_true (by omega)
  go_enter Try.func12, Try.ntmps12
  go_wp2_with (fail)
  refine (up07 _).mono ?_
  rintro e w1 ⟨rfl, hf⟩
  have F1 := Aside0.mk hf
  clear hf
  go_wp2
  go_ret
  exact ⟨rfl, F1.out⟩

set_option maxRecDepth 100000 in
theorem lasts_main (w : World) (A : Option Addr) (c : Nat) (a : List Int) (B : Option Addr) (d : Nat) (b : List Int) (keep : Int) (hra : Kd.C (Kd.int .u8) w A a.length a) (hrb : Kd.C (Kd.int .u8) w B b.length b) (hcb : b.length ≤ d) (h : a.length + b.length ≤ 5000) :
    Calls Try.prog 12 #[.slice A a.length c, .slice B b.length d, .int .i64 keep] w fun e w' => e = .returned (.bool true) ∧ Fr No w w' := by
  have h1i : decide (5000 < (a.length : Int) + b.length) = false := decide_eq_false (by omega)
  have RA := Aside0.mk hra
  have RB := Aside0.mk hrb
  have CB := Aside0.mk hcb
  clear hra hrb hcb
  go_enter Try.func12, Try.ntmps12
  go_wp2_with (fail)
  refine (up07 _).mono ?_
  rintro e w1 ⟨rfl, hf⟩
  have F1 := Aside0.mk hf
  clear hf
  go_wp2_with (fail)
  refine (TA.new F1.out 6000 (by omega) (by omega)).mono ?_
  rintro e w2 ⟨g, rfl, ht⟩
  have T2 := Aside0.mk ht
  have hbk : ∀ {X : Option Addr} {x : List Int}, Kd.C (Kd.int .u8) w X x.length x → ∀ ad, X = some ad → 0 < x.length → ad.block ≠ g := by
    intro X x hx ad e hz hg
    have := C_blk hx hz ad e
    have := ht.ge
    omega
  have HBK := Aside0.mk (hbk RA.out)
  have HBK2 := Aside0.mk (hbk RB.out)
  clear ht hbk F1
  go_wp2_with (fail)
  refine (TA.app T2.out (C_on RA.out T2.out.fr) HBK.out (by omega) rfl (by omega) (by omega) (by simp) (by simp; omega)).mono ?_
  rintro e w3 ⟨rfl, A3, c3, ht3, -, -⟩
  have T3 := Aside0.mk (show TA w w3 g A3 c3 a 6000 0 false (-1) from ht3)
  clear ht3 T2 HBK
  go_wp2_with (fail)
  refine (TA.sync T3.out (by omega)).mono ?_
  rintro e w4 ⟨rfl, ht4, -⟩
  have T4 := Aside0.mk (show TA w w4 g A3 c3 a 6000 a.length false (-1) from ht4)
  rw [show errOf (callC false (-1)) = .nilIface from rfl]
  clear ht4 T3
  go_wp2_with (fail)
  refine (TA.app T4.out (C_on RB.out T4.out.fr) HBK2.out (by omega) rfl (by omega) (by omega) (by omega) (by omega)).mono ?_
  rintro e w5 ⟨rfl, A5, c5, ht5, -, -⟩
  have T5 := Aside0.mk (show TA w w5 g A5 c5 (a ++ b) 6000 a.length false (-1) from ht5)
  clear ht5 T4 HBK2
  go_wp2_with (fail)
  refine (TA.crash T5.out (by simp) (by simp; omega) keep).mono ?_
  rw [List.length_append, more_crash, List.take_append, List.take_of_length_le (show a.length ≤ a.length + moreN b.length keep by omega), show a.length + moreN b.length keep - a.length = moreN b.length keep by omega]
  rintro e w6 ⟨rfl, ht6, -⟩
  have T6 := Aside0.mk ht6
  clear ht6 T5
  go_wp2_with (fail)
  refine (TA.up T6.out).mono ?_
  rintro e w7 ⟨rfl, ht7, -⟩
  have T7 := Aside0.mk ht7
  clear ht7 T6
  have hml : (b.take (moreN b.length keep)).length ≤ b.length := by rw [List.length_take]; omega
  go_wp2_with (fail)
  refine (TA.read T7.out (by rw [List.length_append]; omega)).mono ?_
  rintro e w8 ⟨A8, c8, rfl, hr8, -, ht8, -⟩
  have F8 := Aside0.mk ht8.fr
  have cvx := fun n : Nat => cv (W := w8.drewN n) (c := c8) (show Kd.C (Kd.int .u8) (w8.drewN n) A8 _ _ from hr8)
  have cva := fun n : Nat => cv (W := w8.drewN n) (c := c) (C_on RA.out (F8.out.drewN n))
  have hmn : moreN b.length keep ≤ b.length := by unfold moreN; split; · omega
                                                  · split <;> omega
  have htl : (b.take (moreN b.length keep)).length = moreN b.length keep := by rw [List.length_take]; omega
  have hsl := cutto B b d (moreN b.length keep) hmn CB.out
  rw [htl] at hsl
  have cvb := fun n : Nat => cv (W := w8.drewN n) (c := d) (Kd.C_take (C_on RB.out (F8.out.drewN n)) (m := moreN b.length keep) hmn)
  have hst : ((strOfNums (a ++ b.take (moreN b.length keep))).toList == (strOfNums a ++ strOfNums (b.take (moreN b.length keep))).toList) = true := by rw [str_add]; simp
  have hsz : (9223372036854775807 < (strOfNums a).size + (strOfNums (b.take (moreN b.length keep))).size) = False := by
    rw [strOfNums_size, strOfNums_size, htl]; exact eq_false (by omega)
  generalize strOfNums (a ++ b.take (moreN b.length keep)) = sx at cvx hst
  generalize strOfNums a = sa at cva hst hsz
  generalize strOfNums (b.take (moreN b.length keep)) = sb at cvb hst hsz
  clear hr8 ht8 T7 hml
  rw [htl] at cvb
  rw [List.length_append, htl] at cvx ⊢
  clear htl
  generalize a.length + moreN b.length keep = k9 at cvx ⊢
  by_cases hk0 : keep < 0
  · have hm : moreN b.length keep = 0 := by unfold moreN; rw [if_pos (by omega)]
    rw [hm] at hsl cvb
    have hb1 : decide (keep < 0) = true := decide_eq_true hk0
    have hb2 : decide ((b.length : Int) < 0) = false := decide_eq_false (by omega)
    have hsl2 : ∀ (W : World), Sem.run Try.prog (Instr.slice 47 (Value.slice B b.length d) none (some (Value.int IntKind.i64 0)) none) W = Result.ok (Value.slice B 0 d) W := hsl
    clear hm hmn hsl
    go_wp2
    go_quiet (fail)
    go_wp2
    go_ret
    exact ⟨rfl, F8.out.drewN _⟩
  · have hk1 : 0 ≤ keep := by omega
    by_cases hk2 : (b.length : Int) < keep
    · have hm : moreN b.length keep = b.length := by unfold moreN; rw [if_neg (by omega), if_pos hk2]
      rw [hm] at hsl cvb
      have hb1 : decide (keep < 0) = false := decide_eq_false hk0
      have hb2 : decide ((b.length : Int) < keep) = true := decide_eq_true hk2
      clear hm hmn
      go_wp2
      go_quiet (fail)
      go_wp2
      go_ret
      exact ⟨rfl, F8.out.drewN _⟩
    · obtain ⟨m, rfl⟩ := Int.eq_ofNat_of_zero_le hk1
      have hm : moreN b.length m = m := by
        unfold moreN
        split
        · omega
        · first | exact Int.toNat_natCast m | (rw [if_neg hk2]; exact Int.toNat_natCast m)
      rw [hm] at hsl cvb
      have hb1 : decide ((m : Int) < 0) = false := decide_eq_false hk0
      have hb2 : decide ((b.length : Int) < m) = false := decide_eq_false hk2
      clear hm hmn
      go_wp2
      go_quiet (fail)
      go_wp2
      go_ret
      exact ⟨rfl, F8.out.drewN _⟩

theorem tapeLasts_walk (a0 : Option Addr) (len0 cap0 : Nat) (z0 : List Int) (a1 : Option Addr) (len1 cap1 : Nat) (z1 : List Int) (keep : Int) (w : World) (w0 : IsRow .u8 w a0 len0 cap0 z0) (y0 : len0 * 1 ≤ 140737488351232) (w1 : IsRow .u8 w a1 len1 cap1 z1) (y1 : len1 * 1 ≤ 140737488351232) (w2 : (Lit.int .i64 keep).wf = true) :
    Calls Try.prog 12 #[.slice a0 len0 cap0, .slice a1 len1 cap1, .int .i64 keep] w fun e w' => e = .returned (.bool true) ∧ Below w.heap.size w w' := by
  obtain ⟨a, rfl, hr0, hc0, hw0⟩ := w0.reads
  obtain ⟨b, rfl, hr1, hc1, hw1⟩ := w1.reads
  refine Calls.mono (R := fun e w' => e = .returned (.bool true) ∧ Fr No w w') ?_ (fun e w' h => ⟨h.1, h.2.no⟩)
  by_cases h : 5000 < a.length + b.length
  · exact lasts_early w a0 cap0 a a1 cap1 b keep h (by omega) (by omega)
  · exact lasts_main w a0 cap0 a a1 cap1 b keep hr0 hr1 hc1 (by omega)

end Go.Proofs.Ythlcognpfangkaa
