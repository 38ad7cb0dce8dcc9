/- The walk of the law WordPuts: it returns true (the arguments' bytes readable, their lengths within the reach). -/
import Derived.Test.YthlcognpfangkaaPt
namespace Go.Proofs.Ythlcognpfangkaa
open Go.RowKit Go.Proofs.YthlcognpfangkaaW.PrintWords Go.Proofs.YthlcognpfangkaaW.PrintLast Go.Proofs.YthlcognpfangkaaW.PrintMore
set_option linter.unusedVariables false
set_option linter.unusedSimpArgs false

/-- What string(b) yields, b readable. -/
theorem cv {W : World} {A : Option Addr} {n c : Nat} {l : List Int} (h : Kd.C (Kd.int .u8) W A n l) : (convert 47 9 (.slice A n c)).run Try.prog W = .ok (.string (strOfNums l)) W := Kd.C_string Try.underlying47 Try.underlying5 Try.underlying9 h
/-- A row of the call's own, as a slice that is read. -/
theorem R_out {W : World} {base e : Nat} {ok : Nat → Prop} {v : Value} {xs : List Int} (h : Kd.R (Kd.int .u8) e W base ok v xs) : ∃ A c, v = .slice A xs.length c ∧ xs.length ≤ c ∧ Kd.C (Kd.int .u8) W A xs.length xs := Kd.R_reads h
theorem C_on {w W : World} {A : Option Addr} {n : Nat} {l : List Int} (h : Kd.C (Kd.int .u8) w A n l) (hf : Fr No w W) : Kd.C (Kd.int .u8) W A n l := Kd.C_below h hf.no
theorem Fr.on {w W W2 : World} (h : Fr No w W) (k : Fr No W W2) : Fr No w W2 := h.trans k (fun _ hk => hk.elim)
theorem str_add (a b : List Int) : (strOfNums (a ++ b)).toList = (strOfNums a ++ strOfNums b).toList := by
  rw [Lib.toList_data, Lib.toList_data]
  simp [strOfNums]

theorem puts_early (w : World) (A0 : Option Addr) (c0 : Nat) (b : List Int) (wide n : Int) (A3 : Option Addr) (c3 : Nat) (s : List Int) (hl : b.length ≤ 140737488351232) (hl3 : s.length ≤ 140737488351232) (h : 2000 < b.length ∨ 70000 < s.length) :
    Calls Try.prog 5 #[.slice A0 b.length c0, .int .i64 wide, .int .u64 n, .slice A3 s.length c3] w fun e w' => e = .returned (.bool true) ∧ Fr No w w' := by
  by_cases hb : 2000 < b.length
  · have h1 : decide (2000 < b.length) = true := decide_eq_true hb
    clear h
    go_enter Try.func5, Try.ntmps5
    go_wp2_with (go_at_call 30; refine (up01 _).mono ?_; rintro e w1 ⟨rfl, hf⟩; have HF := Aside0.mk hf; clear hf)
    go_ret
    exact ⟨rfl, HF.out⟩
  · have h1 : decide (2000 < b.length) = false := decide_eq_false hb
    have h2 : decide (70000 < s.length) = true := decide_eq_true (by omega)
    have h1i : decide (2000 < (b.length : Int)) = false := decide_eq_false (by omega)
    have h2i : decide (70000 < (s.length : Int)) = true := decide_eq_true (by omega)
    clear h
    go_enter Try.func5, Try.ntmps5
    go_wp2_with (go_at_call 30; refine (up01 _).mono ?_; rintro e w1 ⟨rfl, hf⟩; have HF := Aside0.mk hf; clear hf)
    go_ret
    exact ⟨rfl, HF.out⟩


set_option maxHeartbeats 8000000 in
set_option maxRecDepth 100000 in
theorem puts_fit_short (w : World) (A0 : Option Addr) (c0 : Nat) (b : List Int) (m : Nat) (n : Int) (A3 : Option Addr) (c3 : Nat) (s : List Int) (hr0 : Kd.C (Kd.int .u8) w A0 b.length b) (hc0 : b.length ≤ c0) (hr3 : Kd.C (Kd.int .u8) w A3 s.length s) (hc3 : s.length ≤ c3)
    (h0 : 0 ≤ n) (hn : n < 18446744073709551616) (hb : b.length ≤ 2000) (hs : s.length ≤ 65535) (hm : isW m) (hf : fitsW m n) :
    Calls Try.prog 5 #[.slice A0 b.length c0, .int .i64 m, .int .u64 n, .slice A3 s.length c3] w fun e w' => e = .returned (.bool true) ∧ Fr No w w' := by
  have HR0 := Aside0.mk hr0
  have HC0 := Aside0.mk hc0
  have HR3 := Aside0.mk hr3
  have HC3 := Aside0.mk hc3
  have H0 := Aside0.mk h0
  have HN := Aside0.mk hn
  have HM := Aside0.mk hm
  have HF := Aside0.mk hf
  have h1 : decide (2000 < b.length) = false := decide_eq_false (by omega)
  have h2 : decide (70000 < s.length) = false := decide_eq_false (by omega)
  have h3 : decide (65535 < s.length) = false := decide_eq_false (by omega)
  have h1i : decide (2000 < (b.length : Int)) = false := decide_eq_false (by omega)
  have h2i : decide (70000 < (s.length : Int)) = false := decide_eq_false (by omega)
  have h3i : decide (65535 < (s.length : Int)) = false := decide_eq_false (by omega)
  have hm8 : m ≤ 8 := by unfold isW at hm; omega
  clear hr0 hc0 hr3 hc3 h0 hn hm hf
  go_enter Try.func5, Try.ntmps5
  go_wp2_with (fail)
  refine (up01 _).mono ?_
  rintro e w1 ⟨rfl, hf1⟩
  have F1 := Aside0.mk hf1
  have B1 := Aside0.mk (C_on HR0.out hf1)
  clear hf1
  go_wp2_with (first | ((with_reducible refine gate_dst (N := 27) rfl ?_); refine lit_bytes w1.heap.size rfl 27 rfl (fun _ => True) ?hr trivial (Nat.le_refl _) ?_; (case hr => first | (go_simp; done) | (go_simp; rfl)); intro v2 w2 hr2 hg2 _; have O2 := Aside0.mk hr2; have F12 := Aside0.mk (Fr.new hg2); have F2 := Aside0.mk (F1.out.on (Fr.new hg2)); have B2 := Aside0.mk (C_on B1.out (Fr.new hg2)); clear hr2 hg2) | ((with_reducible refine gate_builtin (b := .append) (xs := #[.tmp 27, .tmp 28]) rfl ?_); at_builtin; refine app_bytes w1.heap.size rfl 27 28 rfl v2 [] b _ _ _ (fun _ => True) rfl rfl O2.out B2.out (fun _ _ => trivial) F12.out.size ?hl ?_; (case hl => simp; omega); intro v3 w3 hr3 hg3 _; rw [List.nil_append] at hr3; have F13 := Aside0.mk (F12.out.own O2.out (Nat.le_refl _) hg3); have F3 := Aside0.mk (F1.out.on F13.out); have B3 := Aside0.mk (C_on B1.out F13.out); obtain ⟨Ao, co, rfl, hle, hrd⟩ := R_out hr3; have O3 := Aside0.mk hrd; have L3 := Aside0.mk hle; clear hr3 hg3 hrd hle))
  refine (put_yes _ Ao co b m n O3.out L3.out HM.out H0.out HN.out HF.out (by omega)).mono ?_
  rintro e w4 ⟨v4, rfl, hr4, hf4⟩
  have F4 := Aside0.mk (F3.out.on hf4)
  have B4 := Aside0.mk (C_on B3.out hf4)
  have O4 := Aside0.mk (C_on O3.out hf4)
  obtain ⟨Ax, cx, e4, hle4, hrd4⟩ := R_out hr4
  have e4l : (b ++ be m n).length = b.length + m := by rw [List.length_append, be_length]
  rw [e4l] at e4 hle4 hrd4
  clear e4l
  subst e4
  have X4 := Aside0.mk hrd4
  clear hr4 hf4 hrd4 hle4 F3 O3 B3 F1 B1
  go_wp2_with (fail)
  refine (textp_yes _ Ao co b A3 c3 s O4.out L3.out (C_on HR3.out F4.out) HC3.out hs (by omega)).mono ?_
  rintro e w5 ⟨v5, rfl, hr5, hf5⟩
  have F5 := Aside0.mk (F4.out.on hf5)
  have B5 := Aside0.mk (C_on B4.out hf5)
  have X5 := Aside0.mk (C_on X4.out hf5)
  obtain ⟨Ay, cy, e5, hle5, hrd5⟩ := R_out hr5
  have e5l : (b ++ be 2 s.length ++ s).length = b.length + 2 + s.length := by rw [List.length_append, List.length_append, be_length]
  rw [e5l] at e5 hle5 hrd5
  clear e5l
  subst e5
  have Y5 := Aside0.mk hrd5
  have cv1 := cv (c := co) (C_on O4.out hf5)
  have cv2 := cv (c := c0) B5.out
  clear hr5 hf5 hrd5 hle5 F4 O4 B4 X4
  go_wp2_with (fail)
  clear cv1 cv2
  refine (wide_calls m _ true (by simp [HM.out])).mono ?_
  rintro e w6 ⟨rfl, hd6⟩
  have f6 := Fr.of_below hd6.below No
  have F6 := Aside0.mk (F5.out.on f6)
  have B6 := Aside0.mk (C_on B5.out f6)
  have X6 := Aside0.mk (C_on X5.out f6)
  have Y6 := Aside0.mk (C_on Y5.out f6)
  clear hd6 f6 F5 B5 X5 Y5
  go_wp2_with (fail)
  refine (fitsr_calls m n _ true hm8 H0.out HN.out (by simp [HF.out])).mono ?_
  rintro e w7 ⟨rfl, hd7⟩
  have f7 := Fr.of_below hd7.below No
  have F7 := Aside0.mk (F6.out.on f7)
  have B7 := Aside0.mk (C_on B6.out f7)
  have X7 := Aside0.mk (C_on X6.out f7)
  have Y7 := Aside0.mk (C_on Y6.out f7)
  clear hd7 f7 F6 B6 X6 Y6
  go_wp2_with (fail)
  have hst : ((strOfNums (b ++ be m n)).toList == (strOfNums b ++ strOfNums (be m n)).toList) = true := by rw [str_add]; simp
  generalize hsx : strOfNums (b ++ be m n) = sx at hst
  generalize hsb : strOfNums b = sb at hst
  generalize hsy : strOfNums (be m n) = sy at hst
  have HSX := Aside0.mk hsx
  have HSB := Aside0.mk hsb
  have HSY := Aside0.mk hsy
  clear hsx hsb hsy
  have hsz : (9223372036854775807 < sb.size + sy.size) = False := by
    rw [← HSB.out, ← HSY.out, strOfNums_size, strOfNums_size, be_length]; exact eq_false (by omega)
  refine start_ (n := 14) (S := fun w' => (convert 47 9 (.slice Ax (b.length + m) cx)).run Try.prog w' = .ok (.string sx) w' ∧ (convert 47 9 (.slice A0 b.length c0)).run Try.prog w' = .ok (.string sb) w') (ds := []) #[false, false, false, false, false, false, false, false, false, false, false, false, false, false] (by kernel_rfl) rfl rfl ⟨(by rw [← HSX.out]; exact cv (Kd.C_drew X7.out)), (by rw [← HSB.out]; exact cv (Kd.C_drew B7.out))⟩ (fun hHeld => ?_)
  refine pure_ (i := 0) (N := some 66) (v := ?_) (a' := ?_) #[true, false, false, false, false, false, false, false, false, false, false, false, false, false] rfl rfl (by kernel_rfl) (fun _ _ _ h => h) (Or.inl ⟨by rfl, ?_⟩) ?_ ?_
  rotate_left
  · intro w'
    go_simp
    with_reducible rfl
  rotate_left
  · simp only [Act.put, List.setIfInBounds_toArray, List.set_cons_zero, List.set_cons_succ, i64_w, i32_w]
    rfl
  refine pure_ (i := 1) (N := some 67) (v := ?_) (a' := ?_) #[true, true, false, false, false, false, false, false, false, false, false, false, false, false] rfl rfl (by kernel_rfl) (fun _ _ _ h => h) (Or.inl ⟨by rfl, ?_⟩) ?_ ?_
  rotate_left
  · intro w'
    go_simp
    with_reducible rfl
  rotate_left
  · simp only [Act.put, List.setIfInBounds_toArray, List.set_cons_zero, List.set_cons_succ, i64_w, i32_w]
    rfl
  refine pure_ (i := 2) (N := some 68) (v := ?_) (a' := ?_) #[true, true, true, false, false, false, false, false, false, false, false, false, false, false] rfl rfl (by kernel_rfl) (fun _ _ _ h => h) (Or.inl ⟨by rfl, ?_⟩) ?_ ?_
  rotate_left
  · intro w'
    go_simp
    with_reducible rfl
  rotate_left
  · simp only [Act.put, List.setIfInBounds_toArray, List.set_cons_zero, List.set_cons_succ, i64_w, i32_w]
    rfl
  refine pure_ (i := 3) (N := some 69) (v := ?_) (a' := ?_) #[true, true, true, true, false, false, false, false, false, false, false, false, false, false] rfl rfl (by kernel_rfl) (fun _ _ _ h => h) (Or.inl ⟨by rfl, ?_⟩) ?_ ?_
  rotate_left
  · intro w'
    go_simp
    with_reducible rfl
  rotate_left
  · simp only [Act.put, List.setIfInBounds_toArray, List.set_cons_zero, List.set_cons_succ, i64_w, i32_w]
    rfl
  refine pure_ (i := 5) (N := some 71) (v := ?_) (a' := ?_) #[true, true, true, true, false, true, false, false, false, false, false, false, false, false] rfl rfl (by kernel_rfl) (fun _ _ _ h => h) (Or.inl ⟨by rfl, ?_⟩) ?_ ?_
  rotate_left
  · intro w'
    go_simp
    with_reducible rfl
  rotate_left
  · simp only [Act.put, List.setIfInBounds_toArray, List.set_cons_zero, List.set_cons_succ, i64_w, i32_w]
    rfl
  refine pure_ (i := 7) (N := some 73) (v := ?_) (a' := ?_) #[true, true, true, true, false, true, false, true, false, false, false, false, false, false] rfl rfl (by kernel_rfl) (fun _ _ _ h => h) (Or.inl ⟨by rfl, ?_⟩) ?_ ?_
  rotate_left
  · intro w'
    go_simp
    with_reducible rfl
  rotate_left
  · simp only [Act.put, List.setIfInBounds_toArray, List.set_cons_zero, List.set_cons_succ, i64_w, i32_w]
    rfl
  refine pure_ (i := 8) (N := some 74) (v := ?_) (a' := ?_) #[true, true, true, true, false, true, false, true, true, false, false, false, false, false] rfl rfl (by kernel_rfl) (fun _ _ _ h => h) (Or.inl ⟨by rfl, ?_⟩) ?_ ?_
  rotate_left
  · intro w'
    go_simp
    with_reducible rfl
  rotate_left
  · simp only [Act.put, List.setIfInBounds_toArray, List.set_cons_zero, List.set_cons_succ, i64_w, i32_w]
    rfl
  refine take_ (i := 4) (N := some 70) (v := ?_) (a' := ?_) #[true, true, true, true, true, true, false, true, true, false, false, false, false, false] rfl rfl (by kernel_rfl) (fun _ _ _ h => h) (Or.inl ⟨by rfl, ?_⟩) hHeld ?_ ?_
  rotate_left
  · rintro w' ⟨s0, s1⟩
    go_simp
    with_reducible rfl
  rotate_left
  · simp only [Act.put, List.setIfInBounds_toArray, List.set_cons_zero, List.set_cons_succ, i64_w, i32_w]
    rfl
  refine take_ (i := 6) (N := some 72) (v := ?_) (a' := ?_) #[true, true, true, true, true, true, true, true, true, false, false, false, false, false] rfl rfl (by kernel_rfl) (fun _ _ _ h => h) (Or.inl ⟨by rfl, ?_⟩) hHeld ?_ ?_
  rotate_left
  · rintro w' ⟨s0, s1⟩
    go_simp
    with_reducible rfl
  rotate_left
  · simp only [Act.put, List.setIfInBounds_toArray, List.set_cons_zero, List.set_cons_succ, i64_w, i32_w]
    rfl
  refine one_ (i := 9) (N := some 75) #[true, true, true, true, true, true, true, true, true, true, false, false, false, false] rfl rfl (by kernel_rfl) (by decide) (fun K hK => ?_)
  refine goes_ Try.func35 (by kernel_rfl) rfl #[.int .i64 m, .int .u64 n] (by rfl) rfl rfl (by simp only [List.map_toArray, List.map_cons, List.map_nil]; rfl) ?_
  with_reducible refine (bytes_calls _ m n hm8 H0.out HN.out).mono ?_
  rintro e w8 ⟨v8, rfl, hr8, hf8⟩
  refine ⟨_, rfl, ?_⟩
  obtain ⟨A8, c8, e8, _, hrd8⟩ := R_out hr8
  rw [be_length] at e8 hrd8
  subst e8
  have F8 := Aside0.mk ((F7.out.drew).on hf8)
  have Y8 := Aside0.mk (C_on (Kd.C_drew Y7.out) hf8)
  have B8 := Aside0.mk (C_on (Kd.C_drew B7.out) hf8)
  have cv8 := cv (c := c8) hrd8
  rw [HSY.out] at cv8
  refine hK.out _ _ ⟨(by rw [← HSX.out]; exact cv (C_on (Kd.C_drew X7.out) hf8)), (by rw [← HSB.out]; exact cv (C_on (Kd.C_drew B7.out) hf8))⟩ (fun hHeld => ?_)
  clear hK K
  refine norm_ (a' := ?_) ?_ ?_
  rotate_left
  · show Act.put _ (some 75) _ = _
    simp only [Act.put, List.setIfInBounds_toArray, List.set_cons_zero, List.set_cons_succ, i64_w, i32_w]
    rfl
  refine one_ (i := 10) (N := some 76) #[true, true, true, true, true, true, true, true, true, true, true, false, false, false] rfl rfl (by kernel_rfl) (by decide) (fun K hK => ?_)
  refine value_ (w1 := ?_) (v := ?_) (by rfl) rfl ?_ ?_
  rotate_left 2
  · go_simp
    constructor
    · rfl
    · rfl
  refine hK.out _ _ ⟨hHeld.1, hHeld.2⟩ (fun hHeld => ?_)
  clear hK K
  refine norm_ (a' := ?_) ?_ ?_
  rotate_left
  · show Act.put _ (some 76) _ = _
    simp only [Act.put, List.setIfInBounds_toArray, List.set_cons_zero, List.set_cons_succ, i64_w, i32_w]
    rfl
  refine pure_ (i := 11) (N := some 77) (v := ?_) (a' := ?_) #[true, true, true, true, true, true, true, true, true, true, true, true, false, false] rfl rfl (by kernel_rfl) (fun _ _ _ h => h) (Or.inl ⟨by rfl, ?_⟩) ?_ ?_
  rotate_left
  · intro w'
    go_simp
    with_reducible rfl
  rotate_left
  · simp only [Act.put, List.setIfInBounds_toArray, List.set_cons_zero, List.set_cons_succ, i64_w, i32_w]
    rfl
  refine pure_ (i := 12) (N := some 78) (v := ?_) (a' := ?_) #[true, true, true, true, true, true, true, true, true, true, true, true, true, false] rfl rfl (by kernel_rfl) (fun _ _ _ h => h) (Or.inl ⟨by rfl, ?_⟩) ?_ ?_
  rotate_left
  · intro w'
    go_simp
    with_reducible rfl
  rotate_left
  · simp only [Act.put, List.setIfInBounds_toArray, List.set_cons_zero, List.set_cons_succ, i64_w, i32_w]
    rfl
  refine pure_ (i := 13) (N := some 79) (v := ?_) (a' := ?_) #[true, true, true, true, true, true, true, true, true, true, true, true, true, true] rfl rfl (by kernel_rfl) (fun _ _ _ h => h) (Or.inl ⟨by rfl, ?_⟩) ?_ ?_
  rotate_left
  · intro w'
    go_simp
    with_reducible rfl
  rotate_left
  · simp only [Act.put, List.setIfInBounds_toArray, List.set_cons_zero, List.set_cons_succ, i64_w, i32_w]
    rfl
  refine done_ (by kernel_rfl) ?_
  clear cv8 hst hsz HSX HSB HSY F7 B7 X7 Y7 hr8 hrd8 hf8
  go_wp2_with (fail)
  have hst : ((strOfNums (b ++ be 2 s.length ++ s)).toList == (strOfNums b ++ strOfNums (be 2 s.length ++ s)).toList) = true := by rw [List.append_assoc, str_add]; simp
  generalize hsx : strOfNums (b ++ be 2 s.length ++ s) = sx at hst
  generalize hsb : strOfNums b = sb at hst
  generalize hsy : strOfNums (be 2 s.length ++ s) = sy at hst
  have HSX := Aside0.mk hsx
  have HSB := Aside0.mk hsb
  have HSY := Aside0.mk hsy
  clear hsx hsb hsy
  have hsz : (9223372036854775807 < sb.size + sy.size) = False := by
    rw [← HSB.out, ← HSY.out, strOfNums_size, strOfNums_size, List.length_append, be_length]; exact eq_false (by omega)
  refine start_ (n := 17) (S := fun w' => (convert 47 9 (.slice Ay (b.length + 2 + s.length) cy)).run Try.prog w' = .ok (.string sx) w' ∧ (convert 47 9 (.slice A0 b.length c0)).run Try.prog w' = .ok (.string sb) w') (ds := []) #[false, false, false, false, false, false, false, false, false, false, false, false, false, false, false, false, false] (by kernel_rfl) rfl rfl ⟨(by rw [← HSX.out]; exact cv (Kd.C_drew Y8.out)), (by rw [← HSB.out]; exact cv (Kd.C_drew B8.out))⟩ (fun hHeld => ?_)
  refine pure_ (i := 0) (N := some 94) (v := ?_) (a' := ?_) #[true, false, false, false, false, false, false, false, false, false, false, false, false, false, false, false, false] rfl rfl (by kernel_rfl) (fun _ _ _ h => h) (Or.inl ⟨by rfl, ?_⟩) ?_ ?_
  rotate_left
  · intro w'
    go_simp
    with_reducible rfl
  rotate_left
  · simp only [Act.put, List.setIfInBounds_toArray, List.set_cons_zero, List.set_cons_succ, i64_w, i32_w]
    rfl
  refine pure_ (i := 1) (N := some 95) (v := ?_) (a' := ?_) #[true, true, false, false, false, false, false, false, false, false, false, false, false, false, false, false, false] rfl rfl (by kernel_rfl) (fun _ _ _ h => h) (Or.inl ⟨by rfl, ?_⟩) ?_ ?_
  rotate_left
  · intro w'
    go_simp
    with_reducible rfl
  rotate_left
  · simp only [Act.put, List.setIfInBounds_toArray, List.set_cons_zero, List.set_cons_succ, i64_w, i32_w]
    rfl
  refine pure_ (i := 2) (N := some 96) (v := ?_) (a' := ?_) #[true, true, true, false, false, false, false, false, false, false, false, false, false, false, false, false, false] rfl rfl (by kernel_rfl) (fun _ _ _ h => h) (Or.inl ⟨by rfl, ?_⟩) ?_ ?_
  rotate_left
  · intro w'
    go_simp
    with_reducible rfl
  rotate_left
  · simp only [Act.put, List.setIfInBounds_toArray, List.set_cons_zero, List.set_cons_succ, i64_w, i32_w]
    rfl
  refine pure_ (i := 3) (N := some 97) (v := ?_) (a' := ?_) #[true, true, true, true, false, false, false, false, false, false, false, false, false, false, false, false, false] rfl rfl (by kernel_rfl) (fun _ _ _ h => h) (Or.inl ⟨by rfl, ?_⟩) ?_ ?_
  rotate_left
  · intro w'
    go_simp
    with_reducible rfl
  rotate_left
  · simp only [Act.put, List.setIfInBounds_toArray, List.set_cons_zero, List.set_cons_succ, i64_w, i32_w]
    rfl
  refine pure_ (i := 4) (N := some 98) (v := ?_) (a' := ?_) #[true, true, true, true, true, false, false, false, false, false, false, false, false, false, false, false, false] rfl rfl (by kernel_rfl) (fun _ _ _ h => h) (Or.inl ⟨by rfl, ?_⟩) ?_ ?_
  rotate_left
  · intro w'
    go_simp
    with_reducible rfl
  rotate_left
  · simp only [Act.put, List.setIfInBounds_toArray, List.set_cons_zero, List.set_cons_succ, i64_w, i32_w]
    rfl
  refine pure_ (i := 5) (N := some 99) (v := ?_) (a' := ?_) #[true, true, true, true, true, true, false, false, false, false, false, false, false, false, false, false, false] rfl rfl (by kernel_rfl) (fun _ _ _ h => h) (Or.inl ⟨by rfl, ?_⟩) ?_ ?_
  rotate_left
  · intro w'
    go_simp
    with_reducible rfl
  rotate_left
  · simp only [Act.put, List.setIfInBounds_toArray, List.set_cons_zero, List.set_cons_succ, i64_w, i32_w]
    rfl
  refine pure_ (i := 6) (N := some 100) (v := ?_) (a' := ?_) #[true, true, true, true, true, true, true, false, false, false, false, false, false, false, false, false, false] rfl rfl (by kernel_rfl) (fun _ _ _ h => h) (Or.inl ⟨by rfl, ?_⟩) ?_ ?_
  rotate_left
  · intro w'
    go_simp
    with_reducible rfl
  rotate_left
  · simp only [Act.put, List.setIfInBounds_toArray, List.set_cons_zero, List.set_cons_succ, i64_w, i32_w]
    rfl
  refine pure_ (i := 8) (N := some 102) (v := ?_) (a' := ?_) #[true, true, true, true, true, true, true, false, true, false, false, false, false, false, false, false, false] rfl rfl (by kernel_rfl) (fun _ _ _ h => h) (Or.inl ⟨by rfl, ?_⟩) ?_ ?_
  rotate_left
  · intro w'
    go_simp
    with_reducible rfl
  rotate_left
  · simp only [Act.put, List.setIfInBounds_toArray, List.set_cons_zero, List.set_cons_succ, i64_w, i32_w]
    rfl
  refine pure_ (i := 10) (N := some 104) (v := ?_) (a' := ?_) #[true, true, true, true, true, true, true, false, true, false, true, false, false, false, false, false, false] rfl rfl (by kernel_rfl) (fun _ _ _ h => h) (Or.inl ⟨by rfl, ?_⟩) ?_ ?_
  rotate_left
  · intro w'
    go_simp
    with_reducible rfl
  rotate_left
  · simp only [Act.put, List.setIfInBounds_toArray, List.set_cons_zero, List.set_cons_succ, i64_w, i32_w]
    rfl
  refine take_ (i := 7) (N := some 101) (v := ?_) (a' := ?_) #[true, true, true, true, true, true, true, true, true, false, true, false, false, false, false, false, false] rfl rfl (by kernel_rfl) (fun _ _ _ h => h) (Or.inl ⟨by rfl, ?_⟩) hHeld ?_ ?_
  rotate_left
  · rintro w' ⟨s0, s1⟩
    go_simp
    with_reducible rfl
  rotate_left
  · simp only [Act.put, List.setIfInBounds_toArray, List.set_cons_zero, List.set_cons_succ, i64_w, i32_w]
    rfl
  refine take_ (i := 9) (N := some 103) (v := ?_) (a' := ?_) #[true, true, true, true, true, true, true, true, true, true, true, false, false, false, false, false, false] rfl rfl (by kernel_rfl) (fun _ _ _ h => h) (Or.inl ⟨by rfl, ?_⟩) hHeld ?_ ?_
  rotate_left
  · rintro w' ⟨s0, s1⟩
    go_simp
    with_reducible rfl
  rotate_left
  · simp only [Act.put, List.setIfInBounds_toArray, List.set_cons_zero, List.set_cons_succ, i64_w, i32_w]
    rfl
  refine one_ (i := 11) (N := some 105) #[true, true, true, true, true, true, true, true, true, true, true, true, false, false, false, false, false] rfl rfl (by kernel_rfl) (by decide) (fun K hK => ?_)
  refine goes_ Try.func36 (by kernel_rfl) rfl #[.slice A3 s.length c3] (by rfl) rfl rfl (by simp only [List.map_toArray, List.map_cons, List.map_nil]; rfl) ?_
  with_reducible refine (rtext_calls _ A3 c3 s (C_on HR3.out F8.out.drew) HC3.out hs).mono ?_
  rintro e w9 ⟨v9, rfl, hr9, hf9⟩
  refine ⟨_, rfl, ?_⟩
  obtain ⟨A9, c9, e9, _, hrd9⟩ := R_out hr9
  have F9 := Aside0.mk ((F8.out.drew).on hf9)
  rw [List.length_append, be_length] at e9 hrd9
  subst e9
  have cv9 := cv (c := c9) hrd9
  rw [HSY.out] at cv9
  refine hK.out _ _ ⟨(by rw [← HSX.out]; exact cv (C_on (Kd.C_drew Y8.out) hf9)), (by rw [← HSB.out]; exact cv (C_on (Kd.C_drew B8.out) hf9))⟩ (fun hHeld => ?_)
  clear hK K
  refine norm_ (a' := ?_) ?_ ?_
  rotate_left
  · show Act.put _ (some 105) _ = _
    simp only [Act.put, List.setIfInBounds_toArray, List.set_cons_zero, List.set_cons_succ, i64_w, i32_w]
    rfl
  refine one_ (i := 12) (N := some 106) #[true, true, true, true, true, true, true, true, true, true, true, true, true, false, false, false, false] rfl rfl (by kernel_rfl) (by decide) (fun K hK => ?_)
  refine value_ (w1 := ?_) (v := ?_) (by rfl) rfl ?_ ?_
  rotate_left 2
  · go_simp
    constructor
    · rfl
    · rfl
  refine hK.out _ _ ⟨hHeld.1, hHeld.2⟩ (fun hHeld => ?_)
  clear hK K
  refine norm_ (a' := ?_) ?_ ?_
  rotate_left
  · show Act.put _ (some 106) _ = _
    simp only [Act.put, List.setIfInBounds_toArray, List.set_cons_zero, List.set_cons_succ, i64_w, i32_w]
    rfl
  refine pure_ (i := 13) (N := some 107) (v := ?_) (a' := ?_) #[true, true, true, true, true, true, true, true, true, true, true, true, true, true, false, false, false] rfl rfl (by kernel_rfl) (fun _ _ _ h => h) (Or.inl ⟨by rfl, ?_⟩) ?_ ?_
  rotate_left
  · intro w'
    go_simp
    with_reducible rfl
  rotate_left
  · simp only [Act.put, List.setIfInBounds_toArray, List.set_cons_zero, List.set_cons_succ, i64_w, i32_w]
    rfl
  refine pure_ (i := 14) (N := some 108) (v := ?_) (a' := ?_) #[true, true, true, true, true, true, true, true, true, true, true, true, true, true, true, false, false] rfl rfl (by kernel_rfl) (fun _ _ _ h => h) (Or.inl ⟨by rfl, ?_⟩) ?_ ?_
  rotate_left
  · intro w'
    go_simp
    with_reducible rfl
  rotate_left
  · simp only [Act.put, List.setIfInBounds_toArray, List.set_cons_zero, List.set_cons_succ, i64_w, i32_w]
    rfl
  refine pure_ (i := 15) (N := some 109) (v := ?_) (a' := ?_) #[true, true, true, true, true, true, true, true, true, true, true, true, true, true, true, true, false] rfl rfl (by kernel_rfl) (fun _ _ _ h => h) (Or.inl ⟨by rfl, ?_⟩) ?_ ?_
  rotate_left
  · intro w'
    go_simp
    with_reducible rfl
  rotate_left
  · simp only [Act.put, List.setIfInBounds_toArray, List.set_cons_zero, List.set_cons_succ, i64_w, i32_w]
    rfl
  refine pure_ (i := 16) (N := some 8) (v := ?_) (a' := ?_) #[true, true, true, true, true, true, true, true, true, true, true, true, true, true, true, true, true] rfl rfl (by kernel_rfl) (fun _ _ _ h => h) (Or.inl ⟨by rfl, ?_⟩) ?_ ?_
  rotate_left
  · intro w'
    go_simp
    with_reducible rfl
  rotate_left
  · simp only [Act.put, List.setIfInBounds_toArray, List.set_cons_zero, List.set_cons_succ, i64_w, i32_w]
    rfl
  refine done_ (by kernel_rfl) ?_
  go_wp2_with (fail)
  go_ret
  exact ⟨rfl, F9.out⟩

set_option maxHeartbeats 8000000 in
set_option maxRecDepth 100000 in
theorem puts_fit_long (w : World) (A0 : Option Addr) (c0 : Nat) (b : List Int) (m : Nat) (n : Int) (A3 : Option Addr) (c3 : Nat) (s : List Int) (hr0 : Kd.C (Kd.int .u8) w A0 b.length b) (hc0 : b.length ≤ c0) (hr3 : Kd.C (Kd.int .u8) w A3 s.length s) (hc3 : s.length ≤ c3)
    (h0 : 0 ≤ n) (hn : n < 18446744073709551616) (hb : b.length ≤ 2000) (hs : 65535 < s.length) (hs2 : s.length ≤ 70000) (hm : isW m) (hf : fitsW m n) :
    Calls Try.prog 5 #[.slice A0 b.length c0, .int .i64 m, .int .u64 n, .slice A3 s.length c3] w fun e w' => e = .returned (.bool true) ∧ Fr No w w' := by
  have HR0 := Aside0.mk hr0
  have HC0 := Aside0.mk hc0
  have HR3 := Aside0.mk hr3
  have HC3 := Aside0.mk hc3
  have H0 := Aside0.mk h0
  have HN := Aside0.mk hn
  have HM := Aside0.mk hm
  have HF := Aside0.mk hf
  have h1 : decide (2000 < b.length) = false := decide_eq_false (by omega)
  have h2 : decide (70000 < s.length) = false := decide_eq_false (by omega)
  have h3 : decide (65535 < s.length) = true := decide_eq_true (by omega)
  have h1i : decide (2000 < (b.length : Int)) = false := decide_eq_false (by omega)
  have h2i : decide (70000 < (s.length : Int)) = false := decide_eq_false (by omega)
  have h3i : decide (65535 < (s.length : Int)) = true := decide_eq_true (by omega)
  have hm8 : m ≤ 8 := by unfold isW at hm; omega
  clear hr0 hc0 hr3 hc3 h0 hn hm hf
  go_enter Try.func5, Try.ntmps5
  go_wp2_with (fail)
  refine (up01 _).mono ?_
  rintro e w1 ⟨rfl, hf1⟩
  have F1 := Aside0.mk hf1
  have B1 := Aside0.mk (C_on HR0.out hf1)
  clear hf1
  go_wp2_with (first | ((with_reducible refine gate_dst (N := 27) rfl ?_); refine lit_bytes w1.heap.size rfl 27 rfl (fun _ => True) ?hr trivial (Nat.le_refl _) ?_; (case hr => first | (go_simp; done) | (go_simp; rfl)); intro v2 w2 hr2 hg2 _; have O2 := Aside0.mk hr2; have F12 := Aside0.mk (Fr.new hg2); have F2 := Aside0.mk (F1.out.on (Fr.new hg2)); have B2 := Aside0.mk (C_on B1.out (Fr.new hg2)); clear hr2 hg2) | ((with_reducible refine gate_builtin (b := .append) (xs := #[.tmp 27, .tmp 28]) rfl ?_); at_builtin; refine app_bytes w1.heap.size rfl 27 28 rfl v2 [] b _ _ _ (fun _ => True) rfl rfl O2.out B2.out (fun _ _ => trivial) F12.out.size ?hl ?_; (case hl => simp; omega); intro v3 w3 hr3 hg3 _; rw [List.nil_append] at hr3; have F13 := Aside0.mk (F12.out.own O2.out (Nat.le_refl _) hg3); have F3 := Aside0.mk (F1.out.on F13.out); have B3 := Aside0.mk (C_on B1.out F13.out); obtain ⟨Ao, co, rfl, hle, hrd⟩ := R_out hr3; have O3 := Aside0.mk hrd; have L3 := Aside0.mk hle; clear hr3 hg3 hrd hle))
  refine (put_yes _ Ao co b m n O3.out L3.out HM.out H0.out HN.out HF.out (by omega)).mono ?_
  rintro e w4 ⟨v4, rfl, hr4, hf4⟩
  have F4 := Aside0.mk (F3.out.on hf4)
  have B4 := Aside0.mk (C_on B3.out hf4)
  have O4 := Aside0.mk (C_on O3.out hf4)
  obtain ⟨Ax, cx, e4, hle4, hrd4⟩ := R_out hr4
  have e4l : (b ++ be m n).length = b.length + m := by rw [List.length_append, be_length]
  rw [e4l] at e4 hle4 hrd4
  clear e4l
  subst e4
  have X4 := Aside0.mk hrd4
  clear hr4 hf4 hrd4 hle4 F3 O3 B3 F1 B1
  go_wp2_with (fail)
  refine (textp_no _ Ao co b A3 c3 s O4.out L3.out (C_on HR3.out F4.out) HC3.out hs).mono ?_
  rintro e w5 ⟨v5, rfl, hr5, hf5⟩
  have F5 := Aside0.mk (F4.out.on hf5)
  have B5 := Aside0.mk (C_on B4.out hf5)
  have X5 := Aside0.mk (C_on X4.out hf5)
  obtain ⟨Ay, cy, e5, hle5, hrd5⟩ := R_out hr5
  replace e5 : v5 = .slice Ay 0 cy := e5
  subst e5
  have Y5 := Aside0.mk hrd5
  have cv1 := cv (c := co) (C_on O4.out hf5)
  have cv2 := cv (c := c0) B5.out
  clear hr5 hf5 hrd5 hle5 F4 O4 B4 X4
  go_wp2_with (fail)
  clear cv1 cv2
  refine (wide_calls m _ true (by simp [HM.out])).mono ?_
  rintro e w6 ⟨rfl, hd6⟩
  have f6 := Fr.of_below hd6.below No
  have F6 := Aside0.mk (F5.out.on f6)
  have B6 := Aside0.mk (C_on B5.out f6)
  have X6 := Aside0.mk (C_on X5.out f6)
  have Y6 := Aside0.mk (C_on Y5.out f6)
  clear hd6 f6 F5 B5 X5 Y5
  go_wp2_with (fail)
  refine (fitsr_calls m n _ true hm8 H0.out HN.out (by simp [HF.out])).mono ?_
  rintro e w7 ⟨rfl, hd7⟩
  have f7 := Fr.of_below hd7.below No
  have F7 := Aside0.mk (F6.out.on f7)
  have B7 := Aside0.mk (C_on B6.out f7)
  have X7 := Aside0.mk (C_on X6.out f7)
  have Y7 := Aside0.mk (C_on Y6.out f7)
  clear hd7 f7 F6 B6 X6 Y6
  go_wp2_with (fail)
  have hst : ((strOfNums (b ++ be m n)).toList == (strOfNums b ++ strOfNums (be m n)).toList) = true := by rw [str_add]; simp
  generalize hsx : strOfNums (b ++ be m n) = sx at hst
  generalize hsb : strOfNums b = sb at hst
  generalize hsy : strOfNums (be m n) = sy at hst
  have HSX := Aside0.mk hsx
  have HSB := Aside0.mk hsb
  have HSY := Aside0.mk hsy
  clear hsx hsb hsy
  have hsz : (9223372036854775807 < sb.size + sy.size) = False := by
    rw [← HSB.out, ← HSY.out, strOfNums_size, strOfNums_size, be_length]; exact eq_false (by omega)
  refine start_ (n := 14) (S := fun w' => (convert 47 9 (.slice Ax (b.length + m) cx)).run Try.prog w' = .ok (.string sx) w' ∧ (convert 47 9 (.slice A0 b.length c0)).run Try.prog w' = .ok (.string sb) w') (ds := []) #[false, false, false, false, false, false, false, false, false, false, false, false, false, false] (by kernel_rfl) rfl rfl ⟨(by rw [← HSX.out]; exact cv (Kd.C_drew X7.out)), (by rw [← HSB.out]; exact cv (Kd.C_drew B7.out))⟩ (fun hHeld => ?_)
  refine pure_ (i := 0) (N := some 66) (v := ?_) (a' := ?_) #[true, false, false, false, false, false, false, false, false, false, false, false, false, false] rfl rfl (by kernel_rfl) (fun _ _ _ h => h) (Or.inl ⟨by rfl, ?_⟩) ?_ ?_
  rotate_left
  · intro w'
    go_simp
    with_reducible rfl
  rotate_left
  · simp only [Act.put, List.setIfInBounds_toArray, List.set_cons_zero, List.set_cons_succ, i64_w, i32_w]
    rfl
  refine pure_ (i := 1) (N := some 67) (v := ?_) (a' := ?_) #[true, true, false, false, false, false, false, false, false, false, false, false, false, false] rfl rfl (by kernel_rfl) (fun _ _ _ h => h) (Or.inl ⟨by rfl, ?_⟩) ?_ ?_
  rotate_left
  · intro w'
    go_simp
    with_reducible rfl
  rotate_left
  · simp only [Act.put, List.setIfInBounds_toArray, List.set_cons_zero, List.set_cons_succ, i64_w, i32_w]
    rfl
  refine pure_ (i := 2) (N := some 68) (v := ?_) (a' := ?_) #[true, true, true, false, false, false, false, false, false, false, false, false, false, false] rfl rfl (by kernel_rfl) (fun _ _ _ h => h) (Or.inl ⟨by rfl, ?_⟩) ?_ ?_
  rotate_left
  · intro w'
    go_simp
    with_reducible rfl
  rotate_left
  · simp only [Act.put, List.setIfInBounds_toArray, List.set_cons_zero, List.set_cons_succ, i64_w, i32_w]
    rfl
  refine pure_ (i := 3) (N := some 69) (v := ?_) (a' := ?_) #[true, true, true, true, false, false, false, false, false, false, false, false, false, false] rfl rfl (by kernel_rfl) (fun _ _ _ h => h) (Or.inl ⟨by rfl, ?_⟩) ?_ ?_
  rotate_left
  · intro w'
    go_simp
    with_reducible rfl
  rotate_left
  · simp only [Act.put, List.setIfInBounds_toArray, List.set_cons_zero, List.set_cons_succ, i64_w, i32_w]
    rfl
  refine pure_ (i := 5) (N := some 71) (v := ?_) (a' := ?_) #[true, true, true, true, false, true, false, false, false, false, false, false, false, false] rfl rfl (by kernel_rfl) (fun _ _ _ h => h) (Or.inl ⟨by rfl, ?_⟩) ?_ ?_
  rotate_left
  · intro w'
    go_simp
    with_reducible rfl
  rotate_left
  · simp only [Act.put, List.setIfInBounds_toArray, List.set_cons_zero, List.set_cons_succ, i64_w, i32_w]
    rfl
  refine pure_ (i := 7) (N := some 73) (v := ?_) (a' := ?_) #[true, true, true, true, false, true, false, true, false, false, false, false, false, false] rfl rfl (by kernel_rfl) (fun _ _ _ h => h) (Or.inl ⟨by rfl, ?_⟩) ?_ ?_
  rotate_left
  · intro w'
    go_simp
    with_reducible rfl
  rotate_left
  · simp only [Act.put, List.setIfInBounds_toArray, List.set_cons_zero, List.set_cons_succ, i64_w, i32_w]
    rfl
  refine pure_ (i := 8) (N := some 74) (v := ?_) (a' := ?_) #[true, true, true, true, false, true, false, true, true, false, false, false, false, false] rfl rfl (by kernel_rfl) (fun _ _ _ h => h) (Or.inl ⟨by rfl, ?_⟩) ?_ ?_
  rotate_left
  · intro w'
    go_simp
    with_reducible rfl
  rotate_left
  · simp only [Act.put, List.setIfInBounds_toArray, List.set_cons_zero, List.set_cons_succ, i64_w, i32_w]
    rfl
  refine take_ (i := 4) (N := some 70) (v := ?_) (a' := ?_) #[true, true, true, true, true, true, false, true, true, false, false, false, false, false] rfl rfl (by kernel_rfl) (fun _ _ _ h => h) (Or.inl ⟨by rfl, ?_⟩) hHeld ?_ ?_
  rotate_left
  · rintro w' ⟨s0, s1⟩
    go_simp
    with_reducible rfl
  rotate_left
  · simp only [Act.put, List.setIfInBounds_toArray, List.set_cons_zero, List.set_cons_succ, i64_w, i32_w]
    rfl
  refine take_ (i := 6) (N := some 72) (v := ?_) (a' := ?_) #[true, true, true, true, true, true, true, true, true, false, false, false, false, false] rfl rfl (by kernel_rfl) (fun _ _ _ h => h) (Or.inl ⟨by rfl, ?_⟩) hHeld ?_ ?_
  rotate_left
  · rintro w' ⟨s0, s1⟩
    go_simp
    with_reducible rfl
  rotate_left
  · simp only [Act.put, List.setIfInBounds_toArray, List.set_cons_zero, List.set_cons_succ, i64_w, i32_w]
    rfl
  refine one_ (i := 9) (N := some 75) #[true, true, true, true, true, true, true, true, true, true, false, false, false, false] rfl rfl (by kernel_rfl) (by decide) (fun K hK => ?_)
  refine goes_ Try.func35 (by kernel_rfl) rfl #[.int .i64 m, .int .u64 n] (by rfl) rfl rfl (by simp only [List.map_toArray, List.map_cons, List.map_nil]; rfl) ?_
  with_reducible refine (bytes_calls _ m n hm8 H0.out HN.out).mono ?_
  rintro e w8 ⟨v8, rfl, hr8, hf8⟩
  refine ⟨_, rfl, ?_⟩
  obtain ⟨A8, c8, e8, _, hrd8⟩ := R_out hr8
  rw [be_length] at e8 hrd8
  subst e8
  have F8 := Aside0.mk ((F7.out.drew).on hf8)
  have Y8 := Aside0.mk (C_on (Kd.C_drew Y7.out) hf8)
  have B8 := Aside0.mk (C_on (Kd.C_drew B7.out) hf8)
  have cv8 := cv (c := c8) hrd8
  rw [HSY.out] at cv8
  refine hK.out _ _ ⟨(by rw [← HSX.out]; exact cv (C_on (Kd.C_drew X7.out) hf8)), (by rw [← HSB.out]; exact cv (C_on (Kd.C_drew B7.out) hf8))⟩ (fun hHeld => ?_)
  clear hK K
  refine norm_ (a' := ?_) ?_ ?_
  rotate_left
  · show Act.put _ (some 75) _ = _
    simp only [Act.put, List.setIfInBounds_toArray, List.set_cons_zero, List.set_cons_succ, i64_w, i32_w]
    rfl
  refine one_ (i := 10) (N := some 76) #[true, true, true, true, true, true, true, true, true, true, true, false, false, false] rfl rfl (by kernel_rfl) (by decide) (fun K hK => ?_)
  refine value_ (w1 := ?_) (v := ?_) (by rfl) rfl ?_ ?_
  rotate_left 2
  · go_simp
    constructor
    · rfl
    · rfl
  refine hK.out _ _ ⟨hHeld.1, hHeld.2⟩ (fun hHeld => ?_)
  clear hK K
  refine norm_ (a' := ?_) ?_ ?_
  rotate_left
  · show Act.put _ (some 76) _ = _
    simp only [Act.put, List.setIfInBounds_toArray, List.set_cons_zero, List.set_cons_succ, i64_w, i32_w]
    rfl
  refine pure_ (i := 11) (N := some 77) (v := ?_) (a' := ?_) #[true, true, true, true, true, true, true, true, true, true, true, true, false, false] rfl rfl (by kernel_rfl) (fun _ _ _ h => h) (Or.inl ⟨by rfl, ?_⟩) ?_ ?_
  rotate_left
  · intro w'
    go_simp
    with_reducible rfl
  rotate_left
  · simp only [Act.put, List.setIfInBounds_toArray, List.set_cons_zero, List.set_cons_succ, i64_w, i32_w]
    rfl
  refine pure_ (i := 12) (N := some 78) (v := ?_) (a' := ?_) #[true, true, true, true, true, true, true, true, true, true, true, true, true, false] rfl rfl (by kernel_rfl) (fun _ _ _ h => h) (Or.inl ⟨by rfl, ?_⟩) ?_ ?_
  rotate_left
  · intro w'
    go_simp
    with_reducible rfl
  rotate_left
  · simp only [Act.put, List.setIfInBounds_toArray, List.set_cons_zero, List.set_cons_succ, i64_w, i32_w]
    rfl
  refine pure_ (i := 13) (N := some 79) (v := ?_) (a' := ?_) #[true, true, true, true, true, true, true, true, true, true, true, true, true, true] rfl rfl (by kernel_rfl) (fun _ _ _ h => h) (Or.inl ⟨by rfl, ?_⟩) ?_ ?_
  rotate_left
  · intro w'
    go_simp
    with_reducible rfl
  rotate_left
  · simp only [Act.put, List.setIfInBounds_toArray, List.set_cons_zero, List.set_cons_succ, i64_w, i32_w]
    rfl
  refine done_ (by kernel_rfl) ?_
  clear cv8 hst hsz HSX HSB HSY F7 B7 X7 Y7 hr8 hrd8 hf8
  go_wp2_with (fail)
  go_ret
  exact ⟨rfl, F8.out⟩

set_option maxHeartbeats 8000000 in
set_option maxRecDepth 100000 in
theorem puts_not_short (w : World) (A0 : Option Addr) (c0 : Nat) (b : List Int) (m n : Int) (A3 : Option Addr) (c3 : Nat) (s : List Int) (hr0 : Kd.C (Kd.int .u8) w A0 b.length b) (hc0 : b.length ≤ c0) (hr3 : Kd.C (Kd.int .u8) w A3 s.length s) (hc3 : s.length ≤ c3)
    (h0 : 0 ≤ n) (hn : n < 18446744073709551616) (hb : b.length ≤ 2000) (hs : s.length ≤ 65535) (hno : ¬ (isW m ∧ fitsW m.toNat n)) :
    Calls Try.prog 5 #[.slice A0 b.length c0, .int .i64 m, .int .u64 n, .slice A3 s.length c3] w fun e w' => e = .returned (.bool true) ∧ Fr No w w' := by
  have HR0 := Aside0.mk hr0
  have HC0 := Aside0.mk hc0
  have HR3 := Aside0.mk hr3
  have HC3 := Aside0.mk hc3
  have H0 := Aside0.mk h0
  have HN := Aside0.mk hn
  have HNO := Aside0.mk hno
  have h1 : decide (2000 < b.length) = false := decide_eq_false (by omega)
  have h2 : decide (70000 < s.length) = false := decide_eq_false (by omega)
  have h3 : decide (65535 < s.length) = false := decide_eq_false (by omega)
  have h1i : decide (2000 < (b.length : Int)) = false := decide_eq_false (by omega)
  have h2i : decide (70000 < (s.length : Int)) = false := decide_eq_false (by omega)
  have h3i : decide (65535 < (s.length : Int)) = false := decide_eq_false (by omega)
  clear hr0 hc0 hr3 hc3 h0 hn hno
  go_enter Try.func5, Try.ntmps5
  go_wp2_with (fail)
  refine (up01 _).mono ?_
  rintro e w1 ⟨rfl, hf1⟩
  have F1 := Aside0.mk hf1
  have B1 := Aside0.mk (C_on HR0.out hf1)
  clear hf1
  go_wp2_with (first | ((with_reducible refine gate_dst (N := 27) rfl ?_); refine lit_bytes w1.heap.size rfl 27 rfl (fun _ => True) ?hr trivial (Nat.le_refl _) ?_; (case hr => first | (go_simp; done) | (go_simp; rfl)); intro v2 w2 hr2 hg2 _; have O2 := Aside0.mk hr2; have F12 := Aside0.mk (Fr.new hg2); have F2 := Aside0.mk (F1.out.on (Fr.new hg2)); have B2 := Aside0.mk (C_on B1.out (Fr.new hg2)); clear hr2 hg2) | ((with_reducible refine gate_builtin (b := .append) (xs := #[.tmp 27, .tmp 28]) rfl ?_); at_builtin; refine app_bytes w1.heap.size rfl 27 28 rfl v2 [] b _ _ _ (fun _ => True) rfl rfl O2.out B2.out (fun _ _ => trivial) F12.out.size ?hl ?_; (case hl => simp; omega); intro v3 w3 hr3 hg3 _; rw [List.nil_append] at hr3; have F13 := Aside0.mk (F12.out.own O2.out (Nat.le_refl _) hg3); have F3 := Aside0.mk (F1.out.on F13.out); have B3 := Aside0.mk (C_on B1.out F13.out); obtain ⟨Ao, co, rfl, hle, hrd⟩ := R_out hr3; have O3 := Aside0.mk hrd; have L3 := Aside0.mk hle; clear hr3 hg3 hrd hle))
  refine (put_no _ Ao co b m n O3.out L3.out H0.out HN.out HNO.out).mono ?_
  rintro e w4 ⟨v4, rfl, hr4, hf4⟩
  have F4 := Aside0.mk (F3.out.on hf4)
  have B4 := Aside0.mk (C_on B3.out hf4)
  have O4 := Aside0.mk (C_on O3.out hf4)
  obtain ⟨Ax, cx, e4, hle4, hrd4⟩ := R_out hr4
  replace e4 : v4 = .slice Ax 0 cx := e4
  subst e4
  have X4 := Aside0.mk hrd4
  clear hr4 hf4 hrd4 hle4 F3 O3 B3 F1 B1
  go_wp2_with (fail)
  refine (textp_yes _ Ao co b A3 c3 s O4.out L3.out (C_on HR3.out F4.out) HC3.out hs (by omega)).mono ?_
  rintro e w5 ⟨v5, rfl, hr5, hf5⟩
  have F5 := Aside0.mk (F4.out.on hf5)
  have B5 := Aside0.mk (C_on B4.out hf5)
  have X5 := Aside0.mk (C_on X4.out hf5)
  obtain ⟨Ay, cy, e5, hle5, hrd5⟩ := R_out hr5
  have e5l : (b ++ be 2 s.length ++ s).length = b.length + 2 + s.length := by rw [List.length_append, List.length_append, be_length]
  rw [e5l] at e5 hle5 hrd5
  clear e5l
  subst e5
  have Y5 := Aside0.mk hrd5
  have cv1 := cv (c := co) (C_on O4.out hf5)
  have cv2 := cv (c := c0) B5.out
  clear hr5 hf5 hrd5 hle5 F4 O4 B4 X4
  go_wp2_with (fail)
  clear cv1 cv2
  obtain ⟨bw, hbw⟩ : ∃ bw : Bool, bw = true ↔ isW m := by
    by_cases h : isW m
    · exact ⟨true, by simp [h]⟩
    · exact ⟨false, by simp [h]⟩
  have HBW := Aside0.mk hbw
  refine (wide_calls m _ bw hbw).mono ?_
  clear hbw
  rintro e w6 ⟨rfl, hd6⟩
  have f6 := Fr.of_below hd6.below No
  have F6 := Aside0.mk (F5.out.on f6)
  have B6 := Aside0.mk (C_on B5.out f6)
  have Y6 := Aside0.mk (C_on Y5.out f6)
  clear hd6 f6 F5 B5 X5 Y5
  cases bw
  · go_wp2_with (fail)
    go_wp2_with (fail)
    have hst : ((strOfNums (b ++ be 2 s.length ++ s)).toList == (strOfNums b ++ strOfNums (be 2 s.length ++ s)).toList) = true := by rw [List.append_assoc, str_add]; simp
    generalize hsx : strOfNums (b ++ be 2 s.length ++ s) = sx at hst
    generalize hsb : strOfNums b = sb at hst
    generalize hsy : strOfNums (be 2 s.length ++ s) = sy at hst
    have HSX := Aside0.mk hsx
    have HSB := Aside0.mk hsb
    have HSY := Aside0.mk hsy
    clear hsx hsb hsy
    have hsz : (9223372036854775807 < sb.size + sy.size) = False := by
      rw [← HSB.out, ← HSY.out, strOfNums_size, strOfNums_size, List.length_append, be_length]; exact eq_false (by omega)
    refine start_ (n := 17) (S := fun w' => (convert 47 9 (.slice Ay (b.length + 2 + s.length) cy)).run Try.prog w' = .ok (.string sx) w' ∧ (convert 47 9 (.slice A0 b.length c0)).run Try.prog w' = .ok (.string sb) w') (ds := []) #[false, false, false, false, false, false, false, false, false, false, false, false, false, false, false, false, false] (by kernel_rfl) rfl rfl ⟨(by rw [← HSX.out]; exact cv (Kd.C_drew Y6.out)), (by rw [← HSB.out]; exact cv (Kd.C_drew B6.out))⟩ (fun hHeld => ?_)
    refine pure_ (i := 0) (N := some 94) (v := ?_) (a' := ?_) #[true, false, false, false, false, false, false, false, false, false, false, false, false, false, false, false, false] rfl rfl (by kernel_rfl) (fun _ _ _ h => h) (Or.inl ⟨by rfl, ?_⟩) ?_ ?_
    rotate_left
    · intro w'
      go_simp
      with_reducible rfl
    rotate_left
    · simp only [Act.put, List.setIfInBounds_toArray, List.set_cons_zero, List.set_cons_succ, i64_w, i32_w]
      rfl
    refine pure_ (i := 1) (N := some 95) (v := ?_) (a' := ?_) #[true, true, false, false, false, false, false, false, false, false, false, false, false, false, false, false, false] rfl rfl (by kernel_rfl) (fun _ _ _ h => h) (Or.inl ⟨by rfl, ?_⟩) ?_ ?_
    rotate_left
    · intro w'
      go_simp
      with_reducible rfl
    rotate_left
    · simp only [Act.put, List.setIfInBounds_toArray, List.set_cons_zero, List.set_cons_succ, i64_w, i32_w]
      rfl
    refine pure_ (i := 2) (N := some 96) (v := ?_) (a' := ?_) #[true, true, true, false, false, false, false, false, false, false, false, false, false, false, false, false, false] rfl rfl (by kernel_rfl) (fun _ _ _ h => h) (Or.inl ⟨by rfl, ?_⟩) ?_ ?_
    rotate_left
    · intro w'
      go_simp
      with_reducible rfl
    rotate_left
    · simp only [Act.put, List.setIfInBounds_toArray, List.set_cons_zero, List.set_cons_succ, i64_w, i32_w]
      rfl
    refine pure_ (i := 3) (N := some 97) (v := ?_) (a' := ?_) #[true, true, true, true, false, false, false, false, false, false, false, false, false, false, false, false, false] rfl rfl (by kernel_rfl) (fun _ _ _ h => h) (Or.inl ⟨by rfl, ?_⟩) ?_ ?_
    rotate_left
    · intro w'
      go_simp
      with_reducible rfl
    rotate_left
    · simp only [Act.put, List.setIfInBounds_toArray, List.set_cons_zero, List.set_cons_succ, i64_w, i32_w]
      rfl
    refine pure_ (i := 4) (N := some 98) (v := ?_) (a' := ?_) #[true, true, true, true, true, false, false, false, false, false, false, false, false, false, false, false, false] rfl rfl (by kernel_rfl) (fun _ _ _ h => h) (Or.inl ⟨by rfl, ?_⟩) ?_ ?_
    rotate_left
    · intro w'
      go_simp
      with_reducible rfl
    rotate_left
    · simp only [Act.put, List.setIfInBounds_toArray, List.set_cons_zero, List.set_cons_succ, i64_w, i32_w]
      rfl
    refine pure_ (i := 5) (N := some 99) (v := ?_) (a' := ?_) #[true, true, true, true, true, true, false, false, false, false, false, false, false, false, false, false, false] rfl rfl (by kernel_rfl) (fun _ _ _ h => h) (Or.inl ⟨by rfl, ?_⟩) ?_ ?_
    rotate_left
    · intro w'
      go_simp
      with_reducible rfl
    rotate_left
    · simp only [Act.put, List.setIfInBounds_toArray, List.set_cons_zero, List.set_cons_succ, i64_w, i32_w]
      rfl
    refine pure_ (i := 6) (N := some 100) (v := ?_) (a' := ?_) #[true, true, true, true, true, true, true, false, false, false, false, false, false, false, false, false, false] rfl rfl (by kernel_rfl) (fun _ _ _ h => h) (Or.inl ⟨by rfl, ?_⟩) ?_ ?_
    rotate_left
    · intro w'
      go_simp
      with_reducible rfl
    rotate_left
    · simp only [Act.put, List.setIfInBounds_toArray, List.set_cons_zero, List.set_cons_succ, i64_w, i32_w]
      rfl
    refine pure_ (i := 8) (N := some 102) (v := ?_) (a' := ?_) #[true, true, true, true, true, true, true, false, true, false, false, false, false, false, false, false, false] rfl rfl (by kernel_rfl) (fun _ _ _ h => h) (Or.inl ⟨by rfl, ?_⟩) ?_ ?_
    rotate_left
    · intro w'
      go_simp
      with_reducible rfl
    rotate_left
    · simp only [Act.put, List.setIfInBounds_toArray, List.set_cons_zero, List.set_cons_succ, i64_w, i32_w]
      rfl
    refine pure_ (i := 10) (N := some 104) (v := ?_) (a' := ?_) #[true, true, true, true, true, true, true, false, true, false, true, false, false, false, false, false, false] rfl rfl (by kernel_rfl) (fun _ _ _ h => h) (Or.inl ⟨by rfl, ?_⟩) ?_ ?_
    rotate_left
    · intro w'
      go_simp
      with_reducible rfl
    rotate_left
    · simp only [Act.put, List.setIfInBounds_toArray, List.set_cons_zero, List.set_cons_succ, i64_w, i32_w]
      rfl
    refine take_ (i := 7) (N := some 101) (v := ?_) (a' := ?_) #[true, true, true, true, true, true, true, true, true, false, true, false, false, false, false, false, false] rfl rfl (by kernel_rfl) (fun _ _ _ h => h) (Or.inl ⟨by rfl, ?_⟩) hHeld ?_ ?_
    rotate_left
    · rintro w' ⟨s0, s1⟩
      go_simp
      with_reducible rfl
    rotate_left
    · simp only [Act.put, List.setIfInBounds_toArray, List.set_cons_zero, List.set_cons_succ, i64_w, i32_w]
      rfl
    refine take_ (i := 9) (N := some 103) (v := ?_) (a' := ?_) #[true, true, true, true, true, true, true, true, true, true, true, false, false, false, false, false, false] rfl rfl (by kernel_rfl) (fun _ _ _ h => h) (Or.inl ⟨by rfl, ?_⟩) hHeld ?_ ?_
    rotate_left
    · rintro w' ⟨s0, s1⟩
      go_simp
      with_reducible rfl
    rotate_left
    · simp only [Act.put, List.setIfInBounds_toArray, List.set_cons_zero, List.set_cons_succ, i64_w, i32_w]
      rfl
    refine one_ (i := 11) (N := some 105) #[true, true, true, true, true, true, true, true, true, true, true, true, false, false, false, false, false] rfl rfl (by kernel_rfl) (by decide) (fun K hK => ?_)
    refine goes_ Try.func36 (by kernel_rfl) rfl #[.slice A3 s.length c3] (by rfl) rfl rfl (by simp only [List.map_toArray, List.map_cons, List.map_nil]; rfl) ?_
    with_reducible refine (rtext_calls _ A3 c3 s (C_on HR3.out F6.out.drew) HC3.out hs).mono ?_
    rintro e w9 ⟨v9, rfl, hr9, hf9⟩
    refine ⟨_, rfl, ?_⟩
    obtain ⟨A9, c9, e9, _, hrd9⟩ := R_out hr9
    have F9 := Aside0.mk ((F6.out.drew).on hf9)
    rw [List.length_append, be_length] at e9 hrd9
    subst e9
    have cv9 := cv (c := c9) hrd9
    rw [HSY.out] at cv9
    refine hK.out _ _ ⟨(by rw [← HSX.out]; exact cv (C_on (Kd.C_drew Y6.out) hf9)), (by rw [← HSB.out]; exact cv (C_on (Kd.C_drew B6.out) hf9))⟩ (fun hHeld => ?_)
    clear hK K
    refine norm_ (a' := ?_) ?_ ?_
    rotate_left
    · show Act.put _ (some 105) _ = _
      simp only [Act.put, List.setIfInBounds_toArray, List.set_cons_zero, List.set_cons_succ, i64_w, i32_w]
      rfl
    refine one_ (i := 12) (N := some 106) #[true, true, true, true, true, true, true, true, true, true, true, true, true, false, false, false, false] rfl rfl (by kernel_rfl) (by decide) (fun K hK => ?_)
    refine value_ (w1 := ?_) (v := ?_) (by rfl) rfl ?_ ?_
    rotate_left 2
    · go_simp
      constructor
      · rfl
      · rfl
    refine hK.out _ _ ⟨hHeld.1, hHeld.2⟩ (fun hHeld => ?_)
    clear hK K
    refine norm_ (a' := ?_) ?_ ?_
    rotate_left
    · show Act.put _ (some 106) _ = _
      simp only [Act.put, List.setIfInBounds_toArray, List.set_cons_zero, List.set_cons_succ, i64_w, i32_w]
      rfl
    refine pure_ (i := 13) (N := some 107) (v := ?_) (a' := ?_) #[true, true, true, true, true, true, true, true, true, true, true, true, true, true, false, false, false] rfl rfl (by kernel_rfl) (fun _ _ _ h => h) (Or.inl ⟨by rfl, ?_⟩) ?_ ?_
    rotate_left
    · intro w'
      go_simp
      with_reducible rfl
    rotate_left
    · simp only [Act.put, List.setIfInBounds_toArray, List.set_cons_zero, List.set_cons_succ, i64_w, i32_w]
      rfl
    refine pure_ (i := 14) (N := some 108) (v := ?_) (a' := ?_) #[true, true, true, true, true, true, true, true, true, true, true, true, true, true, true, false, false] rfl rfl (by kernel_rfl) (fun _ _ _ h => h) (Or.inl ⟨by rfl, ?_⟩) ?_ ?_
    rotate_left
    · intro w'
      go_simp
      with_reducible rfl
    rotate_left
    · simp only [Act.put, List.setIfInBounds_toArray, List.set_cons_zero, List.set_cons_succ, i64_w, i32_w]
      rfl
    refine pure_ (i := 15) (N := some 109) (v := ?_) (a' := ?_) #[true, true, true, true, true, true, true, true, true, true, true, true, true, true, true, true, false] rfl rfl (by kernel_rfl) (fun _ _ _ h => h) (Or.inl ⟨by rfl, ?_⟩) ?_ ?_
    rotate_left
    · intro w'
      go_simp
      with_reducible rfl
    rotate_left
    · simp only [Act.put, List.setIfInBounds_toArray, List.set_cons_zero, List.set_cons_succ, i64_w, i32_w]
      rfl
    refine pure_ (i := 16) (N := some 8) (v := ?_) (a' := ?_) #[true, true, true, true, true, true, true, true, true, true, true, true, true, true, true, true, true] rfl rfl (by kernel_rfl) (fun _ _ _ h => h) (Or.inl ⟨by rfl, ?_⟩) ?_ ?_
    rotate_left
    · intro w'
      go_simp
      with_reducible rfl
    rotate_left
    · simp only [Act.put, List.setIfInBounds_toArray, List.set_cons_zero, List.set_cons_succ, i64_w, i32_w]
      rfl
    refine done_ (by kernel_rfl) ?_
    go_wp2_with (fail)
    go_ret
    exact ⟨rfl, F9.out⟩
  · have hw := HBW.out.mp rfl
    obtain ⟨k, hk, hk1, hk8⟩ := isW_cases hw
    have hnf : ¬ fitsW k n := fun h => HNO.out ⟨hw, by rw [hk]; simpa using h⟩
    have HNF := Aside0.mk hnf
    clear hnf hw
    subst hk
    go_wp2_with (fail)
    refine (fitsr_calls k n _ false hk8 H0.out HN.out (by simp [HNF.out])).mono ?_
    rintro e w7 ⟨rfl, hd7⟩
    have f7 := Fr.of_below hd7.below No
    have F7 := Aside0.mk (F6.out.on f7)
    have B7 := Aside0.mk (C_on B6.out f7)
    have Y7 := Aside0.mk (C_on Y6.out f7)
    clear hd7 f7 F6 B6 Y6
    go_wp2_with (fail)
    have hst : ((strOfNums (b ++ be 2 s.length ++ s)).toList == (strOfNums b ++ strOfNums (be 2 s.length ++ s)).toList) = true := by rw [List.append_assoc, str_add]; simp
    generalize hsx : strOfNums (b ++ be 2 s.length ++ s) = sx at hst
    generalize hsb : strOfNums b = sb at hst
    generalize hsy : strOfNums (be 2 s.length ++ s) = sy at hst
    have HSX := Aside0.mk hsx
    have HSB := Aside0.mk hsb
    have HSY := Aside0.mk hsy
    clear hsx hsb hsy
    have hsz : (9223372036854775807 < sb.size + sy.size) = False := by
      rw [← HSB.out, ← HSY.out, strOfNums_size, strOfNums_size, List.length_append, be_length]; exact eq_false (by omega)
    refine start_ (n := 17) (S := fun w' => (convert 47 9 (.slice Ay (b.length + 2 + s.length) cy)).run Try.prog w' = .ok (.string sx) w' ∧ (convert 47 9 (.slice A0 b.length c0)).run Try.prog w' = .ok (.string sb) w') (ds := []) #[false, false, false, false, false, false, false, false, false, false, false, false, false, false, false, false, false] (by kernel_rfl) rfl rfl ⟨(by rw [← HSX.out]; exact cv (Kd.C_drew Y7.out)), (by rw [← HSB.out]; exact cv (Kd.C_drew B7.out))⟩ (fun hHeld => ?_)
    refine pure_ (i := 0) (N := some 94) (v := ?_) (a' := ?_) #[true, false, false, false, false, false, false, false, false, false, false, false, false, false, false, false, false] rfl rfl (by kernel_rfl) (fun _ _ _ h => h) (Or.inl ⟨by rfl, ?_⟩) ?_ ?_
    rotate_left
    · intro w'
      go_simp
      with_reducible rfl
    rotate_left
    · simp only [Act.put, List.setIfInBounds_toArray, List.set_cons_zero, List.set_cons_succ, i64_w, i32_w]
      rfl
    refine pure_ (i := 1) (N := some 95) (v := ?_) (a' := ?_) #[true, true, false, false, false, false, false, false, false, false, false, false, false, false, false, false, false] rfl rfl (by kernel_rfl) (fun _ _ _ h => h) (Or.inl ⟨by rfl, ?_⟩) ?_ ?_
    rotate_left
    · intro w'
      go_simp
      with_reducible rfl
    rotate_left
    · simp only [Act.put, List.setIfInBounds_toArray, List.set_cons_zero, List.set_cons_succ, i64_w, i32_w]
      rfl
    refine pure_ (i := 2) (N := some 96) (v := ?_) (a' := ?_) #[true, true, true, false, false, false, false, false, false, false, false, false, false, false, false, false, false] rfl rfl (by kernel_rfl) (fun _ _ _ h => h) (Or.inl ⟨by rfl, ?_⟩) ?_ ?_
    rotate_left
    · intro w'
      go_simp
      with_reducible rfl
    rotate_left
    · simp only [Act.put, List.setIfInBounds_toArray, List.set_cons_zero, List.set_cons_succ, i64_w, i32_w]
      rfl
    refine pure_ (i := 3) (N := some 97) (v := ?_) (a' := ?_) #[true, true, true, true, false, false, false, false, false, false, false, false, false, false, false, false, false] rfl rfl (by kernel_rfl) (fun _ _ _ h => h) (Or.inl ⟨by rfl, ?_⟩) ?_ ?_
    rotate_left
    · intro w'
      go_simp
      with_reducible rfl
    rotate_left
    · simp only [Act.put, List.setIfInBounds_toArray, List.set_cons_zero, List.set_cons_succ, i64_w, i32_w]
      rfl
    refine pure_ (i := 4) (N := some 98) (v := ?_) (a' := ?_) #[true, true, true, true, true, false, false, false, false, false, false, false, false, false, false, false, false] rfl rfl (by kernel_rfl) (fun _ _ _ h => h) (Or.inl ⟨by rfl, ?_⟩) ?_ ?_
    rotate_left
    · intro w'
      go_simp
      with_reducible rfl
    rotate_left
    · simp only [Act.put, List.setIfInBounds_toArray, List.set_cons_zero, List.set_cons_succ, i64_w, i32_w]
      rfl
    refine pure_ (i := 5) (N := some 99) (v := ?_) (a' := ?_) #[true, true, true, true, true, true, false, false, false, false, false, false, false, false, false, false, false] rfl rfl (by kernel_rfl) (fun _ _ _ h => h) (Or.inl ⟨by rfl, ?_⟩) ?_ ?_
    rotate_left
    · intro w'
      go_simp
      with_reducible rfl
    rotate_left
    · simp only [Act.put, List.setIfInBounds_toArray, List.set_cons_zero, List.set_cons_succ, i64_w, i32_w]
      rfl
    refine pure_ (i := 6) (N := some 100) (v := ?_) (a' := ?_) #[true, true, true, true, true, true, true, false, false, false, false, false, false, false, false, false, false] rfl rfl (by kernel_rfl) (fun _ _ _ h => h) (Or.inl ⟨by rfl, ?_⟩) ?_ ?_
    rotate_left
    · intro w'
      go_simp
      with_reducible rfl
    rotate_left
    · simp only [Act.put, List.setIfInBounds_toArray, List.set_cons_zero, List.set_cons_succ, i64_w, i32_w]
      rfl
    refine pure_ (i := 8) (N := some 102) (v := ?_) (a' := ?_) #[true, true, true, true, true, true, true, false, true, false, false, false, false, false, false, false, false] rfl rfl (by kernel_rfl) (fun _ _ _ h => h) (Or.inl ⟨by rfl, ?_⟩) ?_ ?_
    rotate_left
    · intro w'
      go_simp
      with_reducible rfl
    rotate_left
    · simp only [Act.put, List.setIfInBounds_toArray, List.set_cons_zero, List.set_cons_succ, i64_w, i32_w]
      rfl
    refine pure_ (i := 10) (N := some 104) (v := ?_) (a' := ?_) #[true, true, true, true, true, true, true, false, true, false, true, false, false, false, false, false, false] rfl rfl (by kernel_rfl) (fun _ _ _ h => h) (Or.inl ⟨by rfl, ?_⟩) ?_ ?_
    rotate_left
    · intro w'
      go_simp
      with_reducible rfl
    rotate_left
    · simp only [Act.put, List.setIfInBounds_toArray, List.set_cons_zero, List.set_cons_succ, i64_w, i32_w]
      rfl
    refine take_ (i := 7) (N := some 101) (v := ?_) (a' := ?_) #[true, true, true, true, true, true, true, true, true, false, true, false, false, false, false, false, false] rfl rfl (by kernel_rfl) (fun _ _ _ h => h) (Or.inl ⟨by rfl, ?_⟩) hHeld ?_ ?_
    rotate_left
    · rintro w' ⟨s0, s1⟩
      go_simp
      with_reducible rfl
    rotate_left
    · simp only [Act.put, List.setIfInBounds_toArray, List.set_cons_zero, List.set_cons_succ, i64_w, i32_w]
      rfl
    refine take_ (i := 9) (N := some 103) (v := ?_) (a' := ?_) #[true, true, true, true, true, true, true, true, true, true, true, false, false, false, false, false, false] rfl rfl (by kernel_rfl) (fun _ _ _ h => h) (Or.inl ⟨by rfl, ?_⟩) hHeld ?_ ?_
    rotate_left
    · rintro w' ⟨s0, s1⟩
      go_simp
      with_reducible rfl
    rotate_left
    · simp only [Act.put, List.setIfInBounds_toArray, List.set_cons_zero, List.set_cons_succ, i64_w, i32_w]
      rfl
    refine one_ (i := 11) (N := some 105) #[true, true, true, true, true, true, true, true, true, true, true, true, false, false, false, false, false] rfl rfl (by kernel_rfl) (by decide) (fun K hK => ?_)
    refine goes_ Try.func36 (by kernel_rfl) rfl #[.slice A3 s.length c3] (by rfl) rfl rfl (by simp only [List.map_toArray, List.map_cons, List.map_nil]; rfl) ?_
    with_reducible refine (rtext_calls _ A3 c3 s (C_on HR3.out F7.out.drew) HC3.out hs).mono ?_
    rintro e w9 ⟨v9, rfl, hr9, hf9⟩
    refine ⟨_, rfl, ?_⟩
    obtain ⟨A9, c9, e9, _, hrd9⟩ := R_out hr9
    have F9 := Aside0.mk ((F7.out.drew).on hf9)
    rw [List.length_append, be_length] at e9 hrd9
    subst e9
    have cv9 := cv (c := c9) hrd9
    rw [HSY.out] at cv9
    refine hK.out _ _ ⟨(by rw [← HSX.out]; exact cv (C_on (Kd.C_drew Y7.out) hf9)), (by rw [← HSB.out]; exact cv (C_on (Kd.C_drew B7.out) hf9))⟩ (fun hHeld => ?_)
    clear hK K
    refine norm_ (a' := ?_) ?_ ?_
    rotate_left
    · show Act.put _ (some 105) _ = _
      simp only [Act.put, List.setIfInBounds_toArray, List.set_cons_zero, List.set_cons_succ, i64_w, i32_w]
      rfl
    refine one_ (i := 12) (N := some 106) #[true, true, true, true, true, true, true, true, true, true, true, true, true, false, false, false, false] rfl rfl (by kernel_rfl) (by decide) (fun K hK => ?_)
    refine value_ (w1 := ?_) (v := ?_) (by rfl) rfl ?_ ?_
    rotate_left 2
    · go_simp
      constructor
      · rfl
      · rfl
    refine hK.out _ _ ⟨hHeld.1, hHeld.2⟩ (fun hHeld => ?_)
    clear hK K
    refine norm_ (a' := ?_) ?_ ?_
    rotate_left
    · show Act.put _ (some 106) _ = _
      simp only [Act.put, List.setIfInBounds_toArray, List.set_cons_zero, List.set_cons_succ, i64_w, i32_w]
      rfl
    refine pure_ (i := 13) (N := some 107) (v := ?_) (a' := ?_) #[true, true, true, true, true, true, true, true, true, true, true, true, true, true, false, false, false] rfl rfl (by kernel_rfl) (fun _ _ _ h => h) (Or.inl ⟨by rfl, ?_⟩) ?_ ?_
    rotate_left
    · intro w'
      go_simp
      with_reducible rfl
    rotate_left
    · simp only [Act.put, List.setIfInBounds_toArray, List.set_cons_zero, List.set_cons_succ, i64_w, i32_w]
      rfl
    refine pure_ (i := 14) (N := some 108) (v := ?_) (a' := ?_) #[true, true, true, true, true, true, true, true, true, true, true, true, true, true, true, false, false] rfl rfl (by kernel_rfl) (fun _ _ _ h => h) (Or.inl ⟨by rfl, ?_⟩) ?_ ?_
    rotate_left
    · intro w'
      go_simp
      with_reducible rfl
    rotate_left
    · simp only [Act.put, List.setIfInBounds_toArray, List.set_cons_zero, List.set_cons_succ, i64_w, i32_w]
      rfl
    refine pure_ (i := 15) (N := some 109) (v := ?_) (a' := ?_) #[true, true, true, true, true, true, true, true, true, true, true, true, true, true, true, true, false] rfl rfl (by kernel_rfl) (fun _ _ _ h => h) (Or.inl ⟨by rfl, ?_⟩) ?_ ?_
    rotate_left
    · intro w'
      go_simp
      with_reducible rfl
    rotate_left
    · simp only [Act.put, List.setIfInBounds_toArray, List.set_cons_zero, List.set_cons_succ, i64_w, i32_w]
      rfl
    refine pure_ (i := 16) (N := some 8) (v := ?_) (a' := ?_) #[true, true, true, true, true, true, true, true, true, true, true, true, true, true, true, true, true] rfl rfl (by kernel_rfl) (fun _ _ _ h => h) (Or.inl ⟨by rfl, ?_⟩) ?_ ?_
    rotate_left
    · intro w'
      go_simp
      with_reducible rfl
    rotate_left
    · simp only [Act.put, List.setIfInBounds_toArray, List.set_cons_zero, List.set_cons_succ, i64_w, i32_w]
      rfl
    refine done_ (by kernel_rfl) ?_
    go_wp2_with (fail)
    go_ret
    exact ⟨rfl, F9.out⟩

set_option maxHeartbeats 8000000 in
set_option maxRecDepth 100000 in
theorem puts_not_long (w : World) (A0 : Option Addr) (c0 : Nat) (b : List Int) (m n : Int) (A3 : Option Addr) (c3 : Nat) (s : List Int) (hr0 : Kd.C (Kd.int .u8) w A0 b.length b) (hc0 : b.length ≤ c0) (hr3 : Kd.C (Kd.int .u8) w A3 s.length s) (hc3 : s.length ≤ c3)
    (h0 : 0 ≤ n) (hn : n < 18446744073709551616) (hb : b.length ≤ 2000) (hs : 65535 < s.length) (hs2 : s.length ≤ 70000) (hno : ¬ (isW m ∧ fitsW m.toNat n)) :
    Calls Try.prog 5 #[.slice A0 b.length c0, .int .i64 m, .int .u64 n, .slice A3 s.length c3] w fun e w' => e = .returned (.bool true) ∧ Fr No w w' := by
  have HR0 := Aside0.mk hr0
  have HC0 := Aside0.mk hc0
  have HR3 := Aside0.mk hr3
  have HC3 := Aside0.mk hc3
  have H0 := Aside0.mk h0
  have HN := Aside0.mk hn
  have HNO := Aside0.mk hno
  have h1 : decide (2000 < b.length) = false := decide_eq_false (by omega)
  have h2 : decide (70000 < s.length) = false := decide_eq_false (by omega)
  have h3 : decide (65535 < s.length) = true := decide_eq_true (by omega)
  have h1i : decide (2000 < (b.length : Int)) = false := decide_eq_false (by omega)
  have h2i : decide (70000 < (s.length : Int)) = false := decide_eq_false (by omega)
  have h3i : decide (65535 < (s.length : Int)) = true := decide_eq_true (by omega)
  clear hr0 hc0 hr3 hc3 h0 hn hno
  go_enter Try.func5, Try.ntmps5
  go_wp2_with (fail)
  refine (up01 _).mono ?_
  rintro e w1 ⟨rfl, hf1⟩
  have F1 := Aside0.mk hf1
  have B1 := Aside0.mk (C_on HR0.out hf1)
  clear hf1
  go_wp2_with (first | ((with_reducible refine gate_dst (N := 27) rfl ?_); refine lit_bytes w1.heap.size rfl 27 rfl (fun _ => True) ?hr trivial (Nat.le_refl _) ?_; (case hr => first | (go_simp; done) | (go_simp; rfl)); intro v2 w2 hr2 hg2 _; have O2 := Aside0.mk hr2; have F12 := Aside0.mk (Fr.new hg2); have F2 := Aside0.mk (F1.out.on (Fr.new hg2)); have B2 := Aside0.mk (C_on B1.out (Fr.new hg2)); clear hr2 hg2) | ((with_reducible refine gate_builtin (b := .append) (xs := #[.tmp 27, .tmp 28]) rfl ?_); at_builtin; refine app_bytes w1.heap.size rfl 27 28 rfl v2 [] b _ _ _ (fun _ => True) rfl rfl O2.out B2.out (fun _ _ => trivial) F12.out.size ?hl ?_; (case hl => simp; omega); intro v3 w3 hr3 hg3 _; rw [List.nil_append] at hr3; have F13 := Aside0.mk (F12.out.own O2.out (Nat.le_refl _) hg3); have F3 := Aside0.mk (F1.out.on F13.out); have B3 := Aside0.mk (C_on B1.out F13.out); obtain ⟨Ao, co, rfl, hle, hrd⟩ := R_out hr3; have O3 := Aside0.mk hrd; have L3 := Aside0.mk hle; clear hr3 hg3 hrd hle))
  refine (put_no _ Ao co b m n O3.out L3.out H0.out HN.out HNO.out).mono ?_
  rintro e w4 ⟨v4, rfl, hr4, hf4⟩
  have F4 := Aside0.mk (F3.out.on hf4)
  have B4 := Aside0.mk (C_on B3.out hf4)
  have O4 := Aside0.mk (C_on O3.out hf4)
  obtain ⟨Ax, cx, e4, hle4, hrd4⟩ := R_out hr4
  replace e4 : v4 = .slice Ax 0 cx := e4
  subst e4
  have X4 := Aside0.mk hrd4
  clear hr4 hf4 hrd4 hle4 F3 O3 B3 F1 B1
  go_wp2_with (fail)
  refine (textp_no _ Ao co b A3 c3 s O4.out L3.out (C_on HR3.out F4.out) HC3.out hs).mono ?_
  rintro e w5 ⟨v5, rfl, hr5, hf5⟩
  have F5 := Aside0.mk (F4.out.on hf5)
  have B5 := Aside0.mk (C_on B4.out hf5)
  have X5 := Aside0.mk (C_on X4.out hf5)
  obtain ⟨Ay, cy, e5, hle5, hrd5⟩ := R_out hr5
  replace e5 : v5 = .slice Ay 0 cy := e5
  subst e5
  have Y5 := Aside0.mk hrd5
  have cv1 := cv (c := co) (C_on O4.out hf5)
  have cv2 := cv (c := c0) B5.out
  clear hr5 hf5 hrd5 hle5 F4 O4 B4 X4
  go_wp2_with (fail)
  clear cv1 cv2
  obtain ⟨bw, hbw⟩ : ∃ bw : Bool, bw = true ↔ isW m := by
    by_cases h : isW m
    · exact ⟨true, by simp [h]⟩
    · exact ⟨false, by simp [h]⟩
  have HBW := Aside0.mk hbw
  refine (wide_calls m _ bw hbw).mono ?_
  clear hbw
  rintro e w6 ⟨rfl, hd6⟩
  have f6 := Fr.of_below hd6.below No
  have F6 := Aside0.mk (F5.out.on f6)
  have B6 := Aside0.mk (C_on B5.out f6)
  have Y6 := Aside0.mk (C_on Y5.out f6)
  clear hd6 f6 F5 B5 X5 Y5
  cases bw
  · go_wp2_with (fail)
    go_wp2_with (fail)
    go_ret
    exact ⟨rfl, F6.out⟩
  · have hw := HBW.out.mp rfl
    obtain ⟨k, hk, hk1, hk8⟩ := isW_cases hw
    have hnf : ¬ fitsW k n := fun h => HNO.out ⟨hw, by rw [hk]; simpa using h⟩
    have HNF := Aside0.mk hnf
    clear hnf hw
    subst hk
    go_wp2_with (fail)
    refine (fitsr_calls k n _ false hk8 H0.out HN.out (by simp [HNF.out])).mono ?_
    rintro e w7 ⟨rfl, hd7⟩
    have f7 := Fr.of_below hd7.below No
    have F7 := Aside0.mk (F6.out.on f7)
    have B7 := Aside0.mk (C_on B6.out f7)
    have Y7 := Aside0.mk (C_on Y6.out f7)
    clear hd7 f7 F6 B6 Y6
    go_wp2_with (fail)
    go_ret
    exact ⟨rfl, F7.out⟩

theorem int_u64 {n : Int} (h : (Lit.int .u64 n).wf = true) : 0 ≤ n ∧ n < 18446744073709551616 := by
  have := bounds_u64 h
  omega
theorem wordPuts_walk (a0 : Option Addr) (len0 cap0 : Nat) (z0 : List Int) (m n : Int) (a3 : Option Addr) (len3 cap3 : Nat) (z3 : List Int) (w : World) (w0 : IsRow .u8 w a0 len0 cap0 z0) (y0 : len0 * 1 ≤ 140737488351232) (w1 : (Lit.int .i64 m).wf = true) (w2 : (Lit.int .u64 n).wf = true) (w3 : IsRow .u8 w a3 len3 cap3 z3) (y3 : len3 * 1 ≤ 140737488351232) :
    Calls Try.prog 5 #[.slice a0 len0 cap0, .int .i64 m, .int .u64 n, .slice a3 len3 cap3] w fun e w' => e = .returned (.bool true) ∧ Below w.heap.size w w' := by
  obtain ⟨b, rfl, hr0, hc0, _⟩ := w0.reads
  obtain ⟨s, rfl, hr3, hc3, _⟩ := w3.reads
  obtain ⟨h0, hn⟩ := int_u64 w2
  have fin : ∀ {x y}, (Calls Try.prog 5 #[.slice a0 b.length cap0, .int .i64 m, .int .u64 n, .slice a3 s.length cap3] w fun e w' => e = .returned (.bool x) ∧ Fr No w w') → x = y → Calls Try.prog 5 #[.slice a0 b.length cap0, .int .i64 m, .int .u64 n, .slice a3 s.length cap3] w fun e w' => e = .returned (.bool y) ∧ Below w.heap.size w w' :=
    fun h e => h.mono fun _ _ ⟨h1, h2⟩ => ⟨by rw [h1, e], h2.no⟩
  by_cases he : 2000 < b.length ∨ 70000 < s.length
  · exact fin (puts_early w a0 cap0 b m n a3 cap3 s (by omega) (by omega) he) rfl
  by_cases hf : isW m ∧ fitsW m.toNat n
  · obtain ⟨k, rfl, _, _⟩ := isW_cases hf.1
    have hf2 : fitsW k n := by simpa using hf.2
    by_cases hs : s.length ≤ 65535
    · exact fin (puts_fit_short w a0 cap0 b k n a3 cap3 s hr0 hc0 hr3 hc3 h0 hn (by omega) hs hf.1 hf2) rfl
    · exact fin (puts_fit_long w a0 cap0 b k n a3 cap3 s hr0 hc0 hr3 hc3 h0 hn (by omega) (by omega) (by omega) hf.1 hf2) rfl
  · by_cases hs : s.length ≤ 65535
    · exact fin (puts_not_short w a0 cap0 b m n a3 cap3 s hr0 hc0 hr3 hc3 h0 hn (by omega) hs hf) rfl
    · exact fin (puts_not_long w a0 cap0 b m n a3 cap3 s hr0 hc0 hr3 hc3 h0 hn (by omega) (by omega) (by omega) hf) rfl


end Go.Proofs.Ythlcognpfangkaa
