/- The walks of the four laws of layer 2: each returns true (the arguments' bytes readable, each a byte, their lengths within the reach). -/
import Derived.Test.YthlcognpfangkaaLwCrc
namespace Go.Proofs.Ythlcognpfangkaa
open Go.RowKit Go.Proofs.YthlcognpfangkaaW.PrintWords Go.Proofs.YthlcognpfangkaaW.PrintLast Go.Proofs.YthlcognpfangkaaW.PrintMore
set_option linter.unusedVariables false
set_option linter.unusedSimpArgs false


theorem sums_early (w : World) (A : Option Addr) (c : Nat) (l : List Int) (h : 3000 < l.length) (hl : l.length ≤ 140737488351232) :
    Calls Try.prog 7 #[.slice A l.length c] w fun e w' => e = .returned (.bool true) ∧ Fr No w w' := by
  have h1 : decide (3000 < l.length) = true := decide_eq_true h
  have h1i : decide (3000 < (l.length : Int)) = true := decide_eq_true (by omega)
  go_enter Try.func7, Try.ntmps7
  go_wp2_with (go_at_call 44; refine (up02 _).mono ?_; rintro e w1 ⟨rfl, hf⟩; have HF := Aside0.mk hf; clear hf)
  go_ret
  exact ⟨rfl, HF.out⟩

theorem opens_early (w : World) (A : Option Addr) (c : Nat) (l : List Int) (h : 3000 < l.length) (hl : l.length ≤ 140737488351232) :
    Calls Try.prog 8 #[.slice A l.length c] w fun e w' => e = .returned (.bool true) ∧ Fr No w w' := by
  have h1 : decide (3000 < l.length) = true := decide_eq_true h
  have h1i : decide (3000 < (l.length : Int)) = true := decide_eq_true (by omega)
  go_enter Try.func8, Try.ntmps8
  go_wp2_with (go_at_call 44; refine (up02 _).mono ?_; rintro e w1 ⟨rfl, hf⟩; have HF := Aside0.mk hf; clear hf)
  go_ret
  exact ⟨rfl, HF.out⟩

theorem tells_early (w : World) (A : Option Addr) (c : Nat) (l : List Int) (at_ x : Int) (h : 3000 < l.length) (hl : l.length ≤ 140737488351232) :
    Calls Try.prog 10 #[.slice A l.length c, .int .i64 at_, .int .u8 x] w fun e w' => e = .returned (.bool true) ∧ Fr No w w' := by
  have h1 : decide (3000 < l.length) = true := decide_eq_true h
  have h1i : decide (3000 < (l.length : Int)) = true := decide_eq_true (by omega)
  go_enter Try.func10, Try.ntmps10
  go_wp2_with (go_at_call 44; refine (up02 _).mono ?_; rintro e w1 ⟨rfl, hf⟩; have HF := Aside0.mk hf; clear hf)
  go_ret
  exact ⟨rfl, HF.out⟩

theorem on_early (w : World) (A : Option Addr) (c : Nat) (a : List Int) (B : Option Addr) (d : Nat) (b : List Int) (h : 3000 < a.length + b.length) (ha : a.length ≤ 140737488351232) (hb : b.length ≤ 140737488351232) :
    Calls Try.prog 9 #[.slice A a.length c, .slice B b.length d] w fun e w' => e = .returned (.bool true) ∧ Fr No w w' := by
  have h1i : decide (3000 < (a.length : Int) + b.length) = true := decide_eq_true (by omega)
  go_enter Try.func9, Try.ntmps9
  go_wp2_with (go_at_call 44; refine (up02 _).mono ?_; rintro e w1 ⟨rfl, hf⟩; have HF := Aside0.mk hf; clear hf)
  go_ret
  exact ⟨rfl, HF.out⟩

theorem on_sum (a b : List Int) (ha : isBytes a) : 4294967295 - crcS (4294967295 - sumN a) b = sumN (a ++ b) := by
  have h := crcS_lt a 4294967295 (by omega) ha
  unfold sumN
  rw [crcS_append, show 4294967295 - (4294967295 - crcS 4294967295 a) = crcS 4294967295 a by omega]
theorem on_nil (a : List Int) (ha : isBytes a) : 4294967295 - crcS (4294967295 - sumN a) [] = sumN a := by rw [on_sum a [] ha, List.append_nil]
theorem bytes_app {a b : List Int} (ha : isBytes a) (hb : isBytes b) : isBytes (a ++ b) := fun c hc => by
  rw [List.mem_append] at hc
  rcases hc with hc | hc
  · exact ha c hc
  · exact hb c hc

theorem on_main (w : World) (A : Option Addr) (c : Nat) (a : List Int) (B : Option Addr) (d : Nat) (b : List Int) (hra : Kd.C (Kd.int .u8) w A a.length a) (hca : a.length ≤ c) (hla : isBytes a) (hrb : Kd.C (Kd.int .u8) w B b.length b) (hcb : b.length ≤ d) (hlb : isBytes b) (h : a.length + b.length ≤ 3000) :
    Calls Try.prog 9 #[.slice A a.length c, .slice B b.length d] w fun e w' => e = .returned (.bool true) ∧ Fr No w w' := by
  have h1i : decide (3000 < (a.length : Int) + b.length) = false := decide_eq_false (by omega)
  have RA := Aside0.mk hra
  have CA := Aside0.mk hca
  have LA := Aside0.mk hla
  have RB := Aside0.mk hrb
  have CB := Aside0.mk hcb
  have LB := Aside0.mk hlb
  have hsa := sumN_lt a
  clear hra hca hla hrb hcb hlb
  go_enter Try.func9, Try.ntmps9
  go_wp2_with (fail)
  refine (up02 _).mono ?_
  rintro e w1 ⟨rfl, hf⟩
  have F1 := Aside0.mk hf
  clear hf
  go_wp2_with (fail)
  refine (sum_calls _ A c a (C_on RA.out F1.out) CA.out LA.out).mono ?_
  rintro e w2 ⟨rfl, hf⟩
  have F2 := Aside0.mk (F1.out.on hf)
  clear hf F1
  go_wp2_with (fail)
  refine (on_calls _ (sumN a) B d b (C_on RB.out F2.out) CB.out LB.out hsa).mono ?_
  rw [on_sum a b LA.out]
  rintro e w3 ⟨rfl, hf⟩
  have F3 := Aside0.mk (F2.out.on hf)
  clear hf F2
  go_wp2_with (first | ((with_reducible refine gate_dst (N := 20) rfl ?_); refine gate_guard (by rfl) ?_; refine lit_bytes w.heap.size rfl 20 rfl (fun _ => True) ?hr trivial ?hb ?_; (case hr => first | (go_simp; done) | (go_simp; rfl)); (case hb => exact F3.out.size); intro v4 w4 hr4 hg4 _; have O4 := Aside0.mk hr4; have F4 := Aside0.mk (F3.out.on (Fr.new hg4)); clear hr4 hg4) | ((with_reducible refine gate_builtin (b := .append) (xs := #[.tmp 20, .tmp 21]) rfl ?_); at_builtin; refine gate_guard (by rfl) ?_; refine app_bytes w.heap.size rfl 20 21 rfl v4 [] a A a.length c (fun _ => True) rfl rfl O4.out (C_on RA.out F4.out) (fun _ _ => trivial) F4.out.size ?hl ?_; (case hl => simp; omega); intro v5 w5 hr5 hg5 _; rw [List.nil_append] at hr5; have O5 := Aside0.mk hr5; have F5 := Aside0.mk (F4.out.own O4.out (Nat.le_refl _) hg5); clear hr5 hg5) | ((with_reducible refine gate_builtin (b := .append) (xs := #[.tmp 22, .tmp 23]) rfl ?_); at_builtin; refine gate_guard (by rfl) ?_; refine app_bytes w.heap.size rfl 22 23 rfl v5 a b B b.length d (fun _ => True) rfl rfl O5.out (C_on RB.out F5.out) (fun _ _ => trivial) F5.out.size ?hl ?_; (case hl => omega); intro v6 w6 hr6 hg6 _; have F6 := Aside0.mk (F5.out.own O5.out (Nat.le_refl _) hg6); obtain ⟨A6, c6, e6, hle6, hrd6⟩ := R_out hr6; subst e6; have R6 := Aside0.mk hrd6; have L6 := Aside0.mk hle6; clear hr6 hg6 hrd6 hle6))
  refine (calls_of_args (args' := #[.slice A6 (a ++ b).length c6]) (by simp) (sum_calls _ A6 c6 (a ++ b) R6.out L6.out (bytes_app LA.out LB.out))).mono ?_
  rintro e w7 ⟨rfl, hf⟩
  have F7 := Aside0.mk (F6.out.on hf)
  clear hf F6 F3 F4 F5
  go_wp2_with (fail)
  refine (sum_calls _ A c a (C_on RA.out F7.out) CA.out LA.out).mono ?_
  rintro e w8 ⟨rfl, hf⟩
  have F8 := Aside0.mk (F7.out.on hf)
  clear hf F7
  go_wp2_with (fail)
  refine (on_calls _ (sumN a) none 0 [] (Kd.C_nil _ _) (by simp) (by simp) hsa).mono ?_
  rw [on_nil a LA.out]
  rintro e w9 ⟨rfl, hf⟩
  have F9 := Aside0.mk (F8.out.on hf)
  clear hf F8
  go_wp2_with (fail)
  refine (sum_calls _ A c a (C_on RA.out F9.out) CA.out LA.out).mono ?_
  rintro e w10 ⟨rfl, hf⟩
  have F10 := Aside0.mk (F9.out.on hf)
  clear hf F9
  go_wp2
  go_ret
  exact ⟨rfl, F10.out⟩


set_option maxRecDepth 100000 in
theorem opens_short (w : World) (A : Option Addr) (c : Nat) (l : List Int) (hr : Kd.C (Kd.int .u8) w A l.length l) (hc : l.length ≤ c) (hl : isBytes l) (h : l.length ≤ 3000) (hx : l.length < 4) :
    Calls Try.prog 8 #[.slice A l.length c] w fun e w' => e = .returned (.bool true) ∧ Fr No w w' := by
  have h1 : decide (3000 < l.length) = false := decide_eq_false (by omega)
  have h1i : decide (3000 < (l.length : Int)) = false := decide_eq_false (by omega)
  have HR := Aside0.mk hr
  have HC := Aside0.mk hc
  have HL := Aside0.mk hl
  have HX := Aside0.mk hx
  clear hr hc hl hx
  go_enter Try.func8, Try.ntmps8
  go_wp2_with (fail)
  refine (up02 _).mono ?_
  rintro e w1 ⟨rfl, hf⟩
  have F1 := Aside0.mk hf
  clear hf
  go_wp2_with (fail)
  refine (open_short _ A c l.length HX.out).mono ?_
  rintro e w2 ⟨rfl, rfl⟩
  go_wp2_with (fail)
  refine (mopen_short _ A c l.length HX.out).mono ?_
  rintro e w3 ⟨rfl, rfl⟩
  have cv0 : (convert 47 9 (.slice none 0 0)).run Try.prog w1 = .ok (.string (strOfNums [])) w1 := cv (W := w1) (A := none) (c := 0) (Kd.C_nil (Kd.int .u8) w1)
  go_wp2_with (go_at_call 51; refine (code_some _ 2 (by omega) (by omega)).mono ?_; rintro e w4 ⟨rfl, rfl⟩)
  go_ret
  exact ⟨rfl, F1.out⟩

set_option maxRecDepth 100000 in
theorem opens_bad (w : World) (A : Option Addr) (c : Nat) (l : List Int) (hr : Kd.C (Kd.int .u8) w A l.length l) (hc : l.length ≤ c) (hl : isBytes l) (h : l.length ≤ 3000) (h4 : 4 ≤ l.length) (hx : l ≠ sealL (l.take (l.length - 4))) :
    Calls Try.prog 8 #[.slice A l.length c] w fun e w' => e = .returned (.bool true) ∧ Fr No w w' := by
  have h1 : decide (3000 < l.length) = false := decide_eq_false (by omega)
  have h1i : decide (3000 < (l.length : Int)) = false := decide_eq_false (by omega)
  have HR := Aside0.mk hr
  have HC := Aside0.mk hc
  have HL := Aside0.mk hl
  have HX := Aside0.mk hx
  clear hr hc hl hx
  go_enter Try.func8, Try.ntmps8
  go_wp2_with (fail)
  refine (up02 _).mono ?_
  rintro e w1 ⟨rfl, hf⟩
  have F1 := Aside0.mk hf
  clear hf
  go_wp2_with (fail)
  refine (open_bad _ A c l (C_on HR.out F1.out) HC.out HL.out (by omega) h4 HX.out).mono ?_
  rintro e w2 ⟨rfl, hf⟩
  have F2 := Aside0.mk (F1.out.on hf)
  clear hf
  go_wp2_with (fail)
  refine (mopen_bad _ A c l (C_on HR.out F2.out) HC.out HL.out (by omega) h4 HX.out).mono ?_
  rintro e w3 ⟨rfl, hf⟩
  have F3 := Aside0.mk (F2.out.on hf)
  clear hf
  have cv0 : (convert 47 9 (.slice none 0 0)).run Try.prog w3 = .ok (.string (strOfNums [])) w3 := cv (W := w3) (A := none) (c := 0) (Kd.C_nil (Kd.int .u8) w3)
  go_wp2_with (go_at_call 51; refine (code_some _ 7 (by omega) (by omega)).mono ?_; rintro e w4 ⟨rfl, rfl⟩)
  go_ret
  exact ⟨rfl, F3.out⟩

set_option maxRecDepth 100000 in
theorem opens_yes (w : World) (A : Option Addr) (c : Nat) (l : List Int) (hr : Kd.C (Kd.int .u8) w A l.length l) (hc : l.length ≤ c) (hl : isBytes l) (h : l.length ≤ 3000) (h4 : 4 ≤ l.length) (hx : l = sealL (l.take (l.length - 4))) :
    Calls Try.prog 8 #[.slice A l.length c] w fun e w' => e = .returned (.bool true) ∧ Fr No w w' := by
  have h1 : decide (3000 < l.length) = false := decide_eq_false (by omega)
  have h1i : decide (3000 < (l.length : Int)) = false := decide_eq_false (by omega)
  have HR := Aside0.mk hr
  have HC := Aside0.mk hc
  have HL := Aside0.mk hl
  have HX := Aside0.mk hx
  clear hr hc hl hx
  go_enter Try.func8, Try.ntmps8
  go_wp2_with (fail)
  refine (up02 _).mono ?_
  rintro e w1 ⟨rfl, hf⟩
  have F1 := Aside0.mk hf
  clear hf
  go_wp2_with (fail)
  refine (open_yes _ A c l (C_on HR.out F1.out) HC.out HL.out (by omega) h4 HX.out).mono ?_
  rintro e w2 ⟨v2, rfl, hr2, hf⟩
  have F2 := Aside0.mk (F1.out.on hf)
  obtain ⟨A2, c2, e2, hle2, hrd2⟩ := R_out hr2
  have e3 : (l.take (l.length - 4)).length = l.length - 4 := by rw [List.length_take]; omega
  rw [e3] at e2 hle2 hrd2
  subst e2
  have R2 := Aside0.mk hrd2
  have T2 := Aside0.mk (Kd.C_take HR.out (m := l.length - 4) (by omega))
  have E3 := Aside0.mk e3
  clear hr2 hf hle2 hrd2 e3
  go_wp2_with (fail)
  refine (mopen_yes _ A c l (C_on HR.out F2.out) HC.out HL.out (by omega) h4 HX.out).mono ?_
  rintro e w3 ⟨rfl, hf⟩
  have F3 := Aside0.mk (F2.out.on hf)
  have cv1 := cv (c := c2) (C_on R2.out hf)
  have t3 := C_on T2.out F3.out
  rw [E3.out] at t3
  have cv2 := cv (c := c) t3
  clear hf t3
  go_wp2_with (go_at_call 51; refine (code_nil _).mono ?_; rintro e w4 ⟨rfl, rfl⟩)
  go_ret
  exact ⟨rfl, F3.out⟩

set_option maxHeartbeats 8000000 in
set_option maxRecDepth 100000 in
theorem sums_main (w : World) (A : Option Addr) (c : Nat) (l : List Int) (hr : Kd.C (Kd.int .u8) w A l.length l) (hc : l.length ≤ c) (hl : isBytes l) (h : l.length ≤ 3000) :
    Calls Try.prog 7 #[.slice A l.length c] w fun e w' => e = .returned (.bool true) ∧ Fr No w w' := by
  have h1 : decide (3000 < l.length) = false := decide_eq_false (by omega)
  have h1i : decide (3000 < (l.length : Int)) = false := decide_eq_false (by omega)
  have HR := Aside0.mk hr
  have HC := Aside0.mk hc
  have HL := Aside0.mk hl
  have HL2 := Aside0.mk (show ∀ c ∈ l, 0 ≤ c ∧ c ≤ 255 from hl)
  clear hr hc hl
  obtain ⟨q, hq⟩ : ∃ q, sealL l = q := ⟨_, rfl⟩
  have HQ := Aside0.mk hq
  clear hq
  go_enter Try.func7, Try.ntmps7
  go_wp2_with (fail)
  refine (up02 _).mono ?_
  rintro e w1 ⟨rfl, hf⟩
  have F1 := Aside0.mk hf
  clear hf
  go_wp2_with (fail)
  have hss : (((sumN l : Nat) : Int) == ((sumN l : Nat) : Int)) = true := by simp
  refine start_ (n := 18) (S := fun w' => True) (ds := []) #[false, false, false, false, false, false, false, false, false, false, false, false, false, false, false, false, false, false] (by kernel_rfl) rfl rfl trivial (fun hHeld => ?_)
  refine pure_ (i := 0) (N := some 9) (v := ?_) (a' := ?_) #[true, false, false, false, false, false, false, false, false, false, false, false, false, false, false, false, false, false] rfl rfl (by kernel_rfl) (fun _ _ _ h => h) (Or.inl ⟨by rfl, ?_⟩) ?_ ?_
  rotate_left
  · intro w'
    go_simp
    with_reducible rfl
  rotate_left
  · simp only [Act.put, List.setIfInBounds_toArray, List.set_cons_zero, List.set_cons_succ, i64_w, i32_w]
    rfl
  refine pure_ (i := 1) (N := some 10) (v := ?_) (a' := ?_) #[true, true, false, false, false, false, false, false, false, false, false, false, false, false, false, false, false, false] rfl rfl (by kernel_rfl) (fun _ _ _ h => h) (Or.inl ⟨by rfl, ?_⟩) ?_ ?_
  rotate_left
  · intro w'
    go_simp
    with_reducible rfl
  rotate_left
  · simp only [Act.put, List.setIfInBounds_toArray, List.set_cons_zero, List.set_cons_succ, i64_w, i32_w]
    rfl
  refine pure_ (i := 2) (N := some 11) (v := ?_) (a' := ?_) #[true, true, true, false, false, false, false, false, false, false, false, false, false, false, false, false, false, false] rfl rfl (by kernel_rfl) (fun _ _ _ h => h) (Or.inl ⟨by rfl, ?_⟩) ?_ ?_
  rotate_left
  · intro w'
    go_simp
    with_reducible rfl
  rotate_left
  · simp only [Act.put, List.setIfInBounds_toArray, List.set_cons_zero, List.set_cons_succ, i64_w, i32_w]
    rfl
  refine pure_ (i := 4) (N := some 13) (v := ?_) (a' := ?_) #[true, true, true, false, true, false, false, false, false, false, false, false, false, false, false, false, false, false] rfl rfl (by kernel_rfl) (fun _ _ _ h => h) (Or.inl ⟨by rfl, ?_⟩) ?_ ?_
  rotate_left
  · intro w'
    go_simp
    with_reducible rfl
  rotate_left
  · simp only [Act.put, List.setIfInBounds_toArray, List.set_cons_zero, List.set_cons_succ, i64_w, i32_w]
    rfl
  refine one_ (i := 3) (N := some 12) #[true, true, true, true, true, false, false, false, false, false, false, false, false, false, false, false, false, false] rfl rfl (by kernel_rfl) (by decide) (fun K hK => ?_)
  refine goes_ Try.func45 (by kernel_rfl) rfl #[.slice A l.length c] (by rfl) rfl rfl (by simp only [List.map_toArray, List.map_cons, List.map_nil]; rfl) ?_
  with_reducible refine (sum_calls _ A c l (C_on HR.out F1.out.drew) HC.out HL.out).mono ?_
  rintro e w2 ⟨rfl, hf⟩
  refine ⟨_, rfl, ?_⟩
  have F2 := Aside0.mk (F1.out.drew.on hf)
  clear hf
  refine hK.out _ _ trivial (fun hHeld => ?_)
  clear hK K
  refine norm_ (a' := ?_) ?_ ?_
  rotate_left
  · show Act.put _ (some 12) _ = _
    simp only [Act.put, List.setIfInBounds_toArray, List.set_cons_zero, List.set_cons_succ, i64_w, i32_w]
    rfl
  refine one_ (i := 5) (N := some 14) #[true, true, true, true, true, true, false, false, false, false, false, false, false, false, false, false, false, false] rfl rfl (by kernel_rfl) (by decide) (fun K hK => ?_)
  refine goes_ Try.func46 (by kernel_rfl) rfl #[.slice A l.length c] (by rfl) rfl rfl (by simp only [List.map_toArray, List.map_cons, List.map_nil]; rfl) ?_
  with_reducible refine (rsum_calls _ A c l (C_on HR.out F2.out) HC.out HL2.out (by omega)).mono ?_
  rintro e w3 ⟨rfl, hd⟩
  refine ⟨_, rfl, ?_⟩
  have F3 := Aside0.mk (F2.out.drawn hd)
  clear hd
  refine hK.out _ _ trivial (fun hHeld => ?_)
  clear hK K
  refine norm_ (a' := ?_) ?_ ?_
  rotate_left
  · show Act.put _ (some 14) _ = _
    simp only [Act.put, List.setIfInBounds_toArray, List.set_cons_zero, List.set_cons_succ, i64_w, i32_w]
    rfl
  refine pure_ (i := 6) (N := some 15) (v := ?_) (a' := ?_) #[true, true, true, true, true, true, true, false, false, false, false, false, false, false, false, false, false, false] rfl rfl (by kernel_rfl) (fun _ _ _ h => h) (Or.inl ⟨by rfl, ?_⟩) ?_ ?_
  rotate_left
  · intro w'
    go_simp
    with_reducible rfl
  rotate_left
  · simp only [Act.put, List.setIfInBounds_toArray, List.set_cons_zero, List.set_cons_succ, i64_w, i32_w]
    rfl
  refine pure_ (i := 7) (N := some 16) (v := ?_) (a' := ?_) #[true, true, true, true, true, true, true, true, false, false, false, false, false, false, false, false, false, false] rfl rfl (by kernel_rfl) (fun _ _ _ h => h) (Or.inl ⟨by rfl, ?_⟩) ?_ ?_
  rotate_left
  · intro w'
    go_simp
    with_reducible rfl
  rotate_left
  · simp only [Act.put, List.setIfInBounds_toArray, List.set_cons_zero, List.set_cons_succ, i64_w, i32_w]
    rfl
  refine pure_ (i := 8) (N := some 17) (v := ?_) (a' := ?_) #[true, true, true, true, true, true, true, true, true, false, false, false, false, false, false, false, false, false] rfl rfl (by kernel_rfl) (fun _ _ _ h => h) (Or.inl ⟨by rfl, ?_⟩) ?_ ?_
  rotate_left
  · intro w'
    go_simp
    with_reducible rfl
  rotate_left
  · simp only [Act.put, List.setIfInBounds_toArray, List.set_cons_zero, List.set_cons_succ, i64_w, i32_w]
    rfl
  refine pure_ (i := 9) (N := some 18) (v := ?_) (a' := ?_) #[true, true, true, true, true, true, true, true, true, true, false, false, false, false, false, false, false, false] rfl rfl (by kernel_rfl) (fun _ _ _ h => h) (Or.inl ⟨by rfl, ?_⟩) ?_ ?_
  rotate_left
  · intro w'
    go_simp
    with_reducible rfl
  rotate_left
  · simp only [Act.put, List.setIfInBounds_toArray, List.set_cons_zero, List.set_cons_succ, i64_w, i32_w]
    rfl
  refine pure_ (i := 12) (N := some 21) (v := ?_) (a' := ?_) #[true, true, true, true, true, true, true, true, true, true, false, false, true, false, false, false, false, false] rfl rfl (by kernel_rfl) (fun _ _ _ h => h) (Or.inl ⟨by rfl, ?_⟩) ?_ ?_
  rotate_left
  · intro w'
    go_simp
    with_reducible rfl
  rotate_left
  · simp only [Act.put, List.setIfInBounds_toArray, List.set_cons_zero, List.set_cons_succ, i64_w, i32_w]
    rfl
  refine one_ (i := 10) (N := some 19) #[true, true, true, true, true, true, true, true, true, true, true, false, true, false, false, false, false, false] rfl rfl (by kernel_rfl) (by decide) (fun K hK => ?_)
  refine goes_ Try.func47 (by kernel_rfl) rfl #[.slice A l.length c] (by rfl) rfl rfl (by simp only [List.map_toArray, List.map_cons, List.map_nil]; rfl) ?_
  with_reducible refine (seal_calls _ A c l (C_on HR.out F3.out) HC.out HL.out (by omega)).mono ?_
  rintro e w4 ⟨v4, rfl, hr4, hf4⟩
  refine ⟨_, rfl, ?_⟩
  rw [HQ.out] at hr4
  have F4 := Aside0.mk (F3.out.on hf4)
  obtain ⟨A4, c4, e4, _, hrd4⟩ := R_out hr4
  subst e4
  have R4 := Aside0.mk hrd4
  have cv4 := cv (c := c4) hrd4
  clear hr4 hf4 hrd4
  refine hK.out _ _ trivial (fun hHeld => ?_)
  clear hK K
  refine norm_ (a' := ?_) ?_ ?_
  rotate_left
  · show Act.put _ (some 19) _ = _
    simp only [Act.put, List.setIfInBounds_toArray, List.set_cons_zero, List.set_cons_succ, i64_w, i32_w]
    rfl
  refine join_ (σ := Value) 3 #[true, true, true, true, true, true, true, true, true, true, true, true, true, true, true, false, false, false] (fun s_ => [(20, .string (strOfNums q)), (22, s_), (23, .string (strOfNums q))]) (fun s_ w' => Fr No w w') ?_ ?_
  rotate_left
  · intro hCont
    refine two_ (i := 11) (j := 13) (Ni := some 20) (Nj := some 22) #[true, true, true, true, true, true, true, true, true, true, true, true, true, false, false, false, false, false] #[true, true, true, true, true, true, true, true, true, true, true, false, true, true, false, false, false, false] rfl rfl rfl rfl (by kernel_rfl) (by decide) (by decide) (fun K hK => ?_) (fun K hK => ?_)
    · skip
      refine value_ (w1 := ?_) (v := ?_) (by rfl) rfl ?_ ?_
      rotate_left 2
      · go_simp
        constructor
        · rfl
        · rfl
      refine hK.out _ _ trivial (fun hHeld => ?_)
      clear hK K
      refine norm_ (a' := ?_) ?_ ?_
      rotate_left
      · show Act.put _ (some 20) _ = _
        simp only [Act.put, List.setIfInBounds_toArray, List.set_cons_zero, List.set_cons_succ, i64_w, i32_w]
        rfl
      refine one_ (i := 13) (N := some 22) #[true, true, true, true, true, true, true, true, true, true, true, true, true, true, false, false, false, false] rfl rfl (by kernel_rfl) (by decide) (fun K hK => ?_)
      refine goes_ Try.func48 (by kernel_rfl) rfl #[.slice A l.length c] (by rfl) rfl rfl (by simp only [List.map_toArray, List.map_cons, List.map_nil]; rfl) ?_
      with_reducible refine (rseal_calls _ A c l (C_on HR.out F4.out) HC.out HL2.out (by omega)).mono ?_
      rintro e w5 ⟨v5, rfl, hr5, hf5⟩
      refine ⟨_, rfl, ?_⟩
      rw [HQ.out] at hr5
      have F5 := Aside0.mk (F4.out.on hf5)
      obtain ⟨A5, c5, e5, _, hrd5⟩ := R_out hr5
      subst e5
      have cv5 := cv (c := c5) hrd5
      have cv6 := cv (c := c4) (C_on R4.out hf5)
      clear hr5 hf5 hrd5
      refine hK.out _ _ trivial (fun hHeld => ?_)
      clear hK K
      refine norm_ (a' := ?_) ?_ ?_
      rotate_left
      · show Act.put _ (some 22) _ = _
        simp only [Act.put, List.setIfInBounds_toArray, List.set_cons_zero, List.set_cons_succ, i64_w, i32_w]
        rfl
      refine one_ (i := 14) (N := some 23) #[true, true, true, true, true, true, true, true, true, true, true, true, true, true, true, false, false, false] rfl rfl (by kernel_rfl) (by decide) (fun K hK => ?_)
      refine value_ (w1 := ?_) (v := ?_) (by rfl) rfl ?_ ?_
      rotate_left 2
      · go_simp
        constructor
        · rfl
        · rfl
      refine hK.out _ _ trivial (fun hHeld => ?_)
      clear hK K
      refine norm_ (a' := ?_) ?_ ?_
      rotate_left
      · show Act.put _ (some 23) _ = _
        simp only [Act.put, List.setIfInBounds_toArray, List.set_cons_zero, List.set_cons_succ, i64_w, i32_w]
        rfl
      exact norm_ (by simp only [putAll, Act.put, List.setIfInBounds_toArray, List.set_cons_zero, List.set_cons_succ]) (hCont (.slice A5 q.length c5) _ F5.out)
    · skip
      refine goes_ Try.func48 (by kernel_rfl) rfl #[.slice A l.length c] (by rfl) rfl rfl (by simp only [List.map_toArray, List.map_cons, List.map_nil]; rfl) ?_
      with_reducible refine (rseal_calls _ A c l (C_on HR.out F4.out) HC.out HL2.out (by omega)).mono ?_
      rintro e w5 ⟨v5, rfl, hr5, hf5⟩
      refine ⟨_, rfl, ?_⟩
      rw [HQ.out] at hr5
      have F5 := Aside0.mk (F4.out.on hf5)
      obtain ⟨A5, c5, e5, _, hrd5⟩ := R_out hr5
      subst e5
      have cv5 := cv (c := c5) hrd5
      have cv6 := cv (c := c4) (C_on R4.out hf5)
      clear hr5 hf5 hrd5
      refine hK.out _ _ trivial (fun hHeld => ?_)
      clear hK K
      refine norm_ (a' := ?_) ?_ ?_
      rotate_left
      · show Act.put _ (some 22) _ = _
        simp only [Act.put, List.setIfInBounds_toArray, List.set_cons_zero, List.set_cons_succ, i64_w, i32_w]
        rfl
      refine two_ (i := 11) (j := 14) (Ni := some 20) (Nj := some 23) #[true, true, true, true, true, true, true, true, true, true, true, true, true, true, false, false, false, false] #[true, true, true, true, true, true, true, true, true, true, true, false, true, true, true, false, false, false] rfl rfl rfl rfl (by kernel_rfl) (by decide) (by decide) (fun K hK => ?_) (fun K hK => ?_)
      · skip
        refine value_ (w1 := ?_) (v := ?_) (by rfl) rfl ?_ ?_
        rotate_left 2
        · go_simp
          constructor
          · rfl
          · rfl
        refine hK.out _ _ trivial (fun hHeld => ?_)
        clear hK K
        refine norm_ (a' := ?_) ?_ ?_
        rotate_left
        · show Act.put _ (some 20) _ = _
          simp only [Act.put, List.setIfInBounds_toArray, List.set_cons_zero, List.set_cons_succ, i64_w, i32_w]
          rfl
        refine one_ (i := 14) (N := some 23) #[true, true, true, true, true, true, true, true, true, true, true, true, true, true, true, false, false, false] rfl rfl (by kernel_rfl) (by decide) (fun K hK => ?_)
        refine value_ (w1 := ?_) (v := ?_) (by rfl) rfl ?_ ?_
        rotate_left 2
        · go_simp
          constructor
          · rfl
          · rfl
        refine hK.out _ _ trivial (fun hHeld => ?_)
        clear hK K
        refine norm_ (a' := ?_) ?_ ?_
        rotate_left
        · show Act.put _ (some 23) _ = _
          simp only [Act.put, List.setIfInBounds_toArray, List.set_cons_zero, List.set_cons_succ, i64_w, i32_w]
          rfl
        exact norm_ (by simp only [putAll, Act.put, List.setIfInBounds_toArray, List.set_cons_zero, List.set_cons_succ]) (hCont (.slice A5 q.length c5) _ F5.out)
      · skip
        refine value_ (w1 := ?_) (v := ?_) (by rfl) rfl ?_ ?_
        rotate_left 2
        · go_simp
          constructor
          · rfl
          · rfl
        refine hK.out _ _ trivial (fun hHeld => ?_)
        clear hK K
        refine norm_ (a' := ?_) ?_ ?_
        rotate_left
        · show Act.put _ (some 23) _ = _
          simp only [Act.put, List.setIfInBounds_toArray, List.set_cons_zero, List.set_cons_succ, i64_w, i32_w]
          rfl
        refine one_ (i := 11) (N := some 20) #[true, true, true, true, true, true, true, true, true, true, true, true, true, true, true, false, false, false] rfl rfl (by kernel_rfl) (by decide) (fun K hK => ?_)
        refine value_ (w1 := ?_) (v := ?_) (by rfl) rfl ?_ ?_
        rotate_left 2
        · go_simp
          constructor
          · rfl
          · rfl
        refine hK.out _ _ trivial (fun hHeld => ?_)
        clear hK K
        refine norm_ (a' := ?_) ?_ ?_
        rotate_left
        · show Act.put _ (some 20) _ = _
          simp only [Act.put, List.setIfInBounds_toArray, List.set_cons_zero, List.set_cons_succ, i64_w, i32_w]
          rfl
        exact norm_ (by simp only [putAll, Act.put, List.setIfInBounds_toArray, List.set_cons_zero, List.set_cons_succ]) (hCont (.slice A5 q.length c5) _ F5.out)
  rintro s22 w6 hf6
  have F6 := Aside0.mk hf6
  have hHeld : True := trivial
  clear hf6
  refine norm_ (a' := ?_) ?_ ?_
  rotate_left
  · simp only [putAll, Act.put, List.setIfInBounds_toArray, List.set_cons_zero, List.set_cons_succ]
    rfl
  refine pure_ (i := 15) (N := some 24) (v := ?_) (a' := ?_) #[true, true, true, true, true, true, true, true, true, true, true, true, true, true, true, true, false, false] rfl rfl (by kernel_rfl) (fun _ _ _ h => h) (Or.inl ⟨by rfl, ?_⟩) ?_ ?_
  rotate_left
  · intro w'
    go_simp
    with_reducible rfl
  rotate_left
  · simp only [Act.put, List.setIfInBounds_toArray, List.set_cons_zero, List.set_cons_succ, i64_w, i32_w]
    rfl
  refine pure_ (i := 16) (N := some 25) (v := ?_) (a' := ?_) #[true, true, true, true, true, true, true, true, true, true, true, true, true, true, true, true, true, false] rfl rfl (by kernel_rfl) (fun _ _ _ h => h) (Or.inl ⟨by rfl, ?_⟩) ?_ ?_
  rotate_left
  · intro w'
    go_simp
    with_reducible rfl
  rotate_left
  · simp only [Act.put, List.setIfInBounds_toArray, List.set_cons_zero, List.set_cons_succ, i64_w, i32_w]
    rfl
  refine pure_ (i := 17) (N := some 2) (v := ?_) (a' := ?_) #[true, true, true, true, true, true, true, true, true, true, true, true, true, true, true, true, true, true] rfl rfl (by kernel_rfl) (fun _ _ _ h => h) (Or.inl ⟨by rfl, ?_⟩) ?_ ?_
  rotate_left
  · intro w'
    go_simp
    with_reducible rfl
  rotate_left
  · simp only [Act.put, List.setIfInBounds_toArray, List.set_cons_zero, List.set_cons_succ, i64_w, i32_w]
    rfl
  refine done_ (by kernel_rfl) ?_
  go_wp2
  go_ret
  exact ⟨rfl, F6.out⟩

end Go.Proofs.Ythlcognpfangkaa
