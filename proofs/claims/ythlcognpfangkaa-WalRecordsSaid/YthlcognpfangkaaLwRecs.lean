/- The walk of the law WalRecords: it returns true (the bytes readable, each a byte). -/
import Derived.Test.YthlcognpfangkaaWal3
namespace Go.Proofs.Ythlcognpfangkaa
open Go.RowKit Go.Proofs.YthlcognpfangkaaW.PrintWords Go.Proofs.YthlcognpfangkaaW.PrintLast Go.Proofs.YthlcognpfangkaaW.PrintMore
set_option linter.unusedVariables false
set_option linter.unusedSimpArgs false

theorem recs_len (l : List Int) (hb : isBytes l) : (RS l 0).1.length * 6 ≤ l.length := by
  have h1 := RS_end l
  obtain ⟨t1, t2⟩ := RS_told l hb l.length 0 (by omega)
  have := sizeL_len (RS l 0).1
  omega
theorem recs_early (w : World) (A : Option Addr) (c : Nat) (l : List Int) (h : 5000 < l.length) (hm : l.length ≤ 9223372036854775807) :
    Calls Try.prog 14 #[.slice A l.length c] w fun e w' => e = .returned (.bool true) ∧ Fr No w w' := by
  have hb : decide (5000 < l.length) = true := decide_eq_true h
  have hb2 : decide (5000 < (l.length : Int)) = true := decide_eq_true (by omega)
  go_enter Try.func14, Try.ntmps14
  go_wp2_with (fail)
  refine (up08 _).mono ?_
  rintro e w1 ⟨rfl, hf⟩
  have F1 := Aside0.mk hf
  clear hf
  go_wp2
  go_ret
  exact ⟨rfl, F1.out⟩
set_option maxRecDepth 100000 in
theorem recs_main (w : World) (A : Option Addr) (c : Nat) (l : List Int) (hr : Kd.C (Kd.int .u8) w A l.length l) (hc : l.length ≤ c) (hl : isBytes l) (h : l.length ≤ 5000) :
    Calls Try.prog 14 #[.slice A l.length c] w fun e w' => e = .returned (.bool true) ∧ Fr No w w' := by
  have hb : decide (5000 < l.length) = false := decide_eq_false (by omega)
  have hb2 : decide (5000 < (l.length : Int)) = false := decide_eq_false (by omega)
  have HR := Aside0.mk hr
  have HC := Aside0.mk hc
  have HL := Aside0.mk hl
  have HN := Aside0.mk (recs_len l hl)
  have HE := Aside0.mk (RS_end l)
  clear hr hc hl
  go_enter Try.func14, Try.ntmps14
  go_wp2_with (fail)
  refine (up08 _).mono ?_
  rintro e w1 ⟨rfl, hf⟩
  have F1 := Aside0.mk hf
  have R1 := Aside0.mk (Kd.C_below HR.out hf.no)
  clear hf
  go_wp2_with (fail)
  refine (records_calls w1 A c l R1.out HC.out HL.out (by omega)).mono ?_
  rintro e w2 ⟨v2, rfl, hr2, hf⟩
  have F2 := Aside0.mk (F1.out.on hf)
  have R2 := Aside0.mk (Kd.C_below R1.out hf.no)
  obtain ⟨A2, c2, e2⟩ := Kd.R_slice hr2
  subst e2
  have O2 := Aside0.mk hr2
  have cv2 := cv (c := c) R2.out
  clear hr2 hf R1 F1
  go_wp2_with (fail)
  clear cv2
  refine (rrecords_calls w2 l HL.out (by omega)).mono ?_
  rintro e w3 ⟨v3, rfl, hr3, hf⟩
  have F3 := Aside0.mk (F2.out.on hf)
  have O3 := Aside0.mk (hf.Rlow O2.out (fun _ h => h.elim))
  obtain ⟨A3, c3, e3⟩ := Kd.R_slice hr3
  rw [List.length_map] at e3
  subst e3
  have S3 := Aside0.mk (Kd.R_reads' hr3).2.2
  rw [List.length_map] at S3
  have P3 := Aside0.mk (Kd.R_reads' O3.out).2.2
  clear hr3 hf O2 O3
  have HE2 := HE.out
  have HN2 := HN.out
  generalize RS l 0 = rs at S3 P3 HE2 HN2 ⊢
  obtain ⟨o, n⟩ := rs
  have hnn : ((n : Int) == n) = true := by simp
  dsimp only at S3 P3 HE2 HN2
  clear HE HN
  go_wp2_with (go_at_call 70; refine (alike_calls _ A2 c2 A3 c3 o P3.out S3.out (by omega)).mono ?_; rintro e w4 ⟨rfl, hd⟩; have F4 := Aside0.mk (F3.out.drawn hd); clear hd)
  go_ret
  exact ⟨rfl, F4.out⟩
theorem walRecords_walk (a0 : Option Addr) (len0 cap0 : Nat) (z0 : List Int) (w : World) (w0 : IsRow .u8 w a0 len0 cap0 z0) (y0 : len0 * 1 ≤ 140737488351232) : Calls Try.prog 14 #[.slice a0 len0 cap0] w fun e w' => e = .returned (.bool true) ∧ Below w.heap.size w w' := by
  obtain ⟨b, rfl, hr0, hc0, hw0⟩ := w0.reads
  have hb : isBytes b := fun x hx => by have := bounds_u8 (hw0 x hx); omega
  refine Calls.mono (R := fun e w' => e = .returned (.bool true) ∧ Fr No w w') ?_ (fun e w' h => ⟨h.1, h.2.no⟩)
  by_cases h : 5000 < b.length
  · exact recs_early w a0 cap0 b h (by omega)
  · exact recs_main w a0 cap0 b hr0 hc0 hb (by omega)

end Go.Proofs.Ythlcognpfangkaa
