/- What the law HeapPlays keeps of Items, in plain Lean; the walks of first and pick; '!=' of Items (the Items readable). -/
import Derived.Test.YthlcognpfangkaaIc
import Derived.Test.YthlcognpfangkaaOp
import Derived.Test.YthlcognpfangkaaWEqStruct
import Derived.ChangeSlices
namespace Go.Proofs.Ythlcognpfangkaa
open Go.RowKit Go.Proofs.YthlcognpfangkaaW.PrintWords Go.Proofs.YthlcognpfangkaaW.PrintLast Go.Proofs.YthlcognpfangkaaW.PrintMore
set_option linter.unusedVariables false
set_option linter.unusedSimpArgs false

abbrev zI : Int × ByteArray := (0, ByteArray.empty)
def keyI (L : List (Int × ByteArray)) (q : Nat) : Int := (L.getD q zI).1
/-- The place of the first one that is least. -/
def FirstAt (L : List (Int × ByteArray)) (k : Nat) (b : Int) : Prop := (k = 0 ∧ b = -1) ∨ ∃ j : Nat, b = (j : Int) ∧ j < k ∧ (∀ q, q < k → keyI L j ≤ keyI L q) ∧ (∀ q, q < j → keyI L j < keyI L q)
theorem FirstAt.one (L : List (Int × ByteArray)) : FirstAt L 1 (0 : Nat) := by
  refine .inr ⟨0, rfl, by omega, fun q hq => ?_, fun q hq => by omega⟩
  obtain rfl : q = 0 := by omega
  exact Int.le_refl _
theorem FirstAt.yes {L : List (Int × ByteArray)} {k j : Nat} (h : FirstAt L k j) (hl : keyI L k < keyI L j) : FirstAt L (k + 1) k := by
  rcases h with ⟨_, h⟩ | ⟨i, hi, hik, h1, h2⟩
  · omega
  · obtain rfl : i = j := by omega
    refine .inr ⟨k, rfl, by omega, fun q hq => ?_, fun q hq => ?_⟩
    · by_cases hqk : q = k
      · rw [hqk]; exact Int.le_refl _
      · have := h1 q (by omega); omega
    · have := h1 q hq; omega
theorem FirstAt.no {L : List (Int × ByteArray)} {k j : Nat} (h : FirstAt L k j) (hl : ¬ keyI L k < keyI L j) : FirstAt L (k + 1) j := by
  rcases h with ⟨_, h⟩ | ⟨i, hi, hik, h1, h2⟩
  · omega
  · obtain rfl : i = j := by omega
    refine .inr ⟨i, rfl, by omega, fun q hq => ?_, h2⟩
    by_cases hqk : q = k
    · rw [hqk]; omega
    · exact h1 q (by omega)

/-- What was pushed, in its order, and the entries. -/
def PW (want : List (Int × ByteArray)) (l : List ((Int × ByteArray) × Int)) (t : Int) : Prop :=
  ∃ ts : List Int, ts.length = want.length ∧ (want.zip ts).Perm l ∧ ts.Pairwise (· < ·) ∧ ∀ x ∈ ts, x ≤ t
theorem PW.nil : PW [] [] 0 := ⟨[], rfl, List.Perm.refl _, List.Pairwise.nil, fun x hx => by cases hx⟩
theorem PW.len {want : List (Int × ByteArray)} {l : List ((Int × ByteArray) × Int)} {t : Int} (h : PW want l t) : l.length = want.length := by
  obtain ⟨ts, h1, h2, _⟩ := h
  rw [← h2.length_eq, List.length_zip]; omega
theorem PW.push {want : List (Int × ByteArray)} {l l' : List ((Int × ByteArray) × Int)} {t : Int} (h : PW want l t) (x : Int × ByteArray) (hp : l'.Perm (l ++ [(x, t + 1)])) : PW (want ++ [x]) l' (t + 1) := by
  obtain ⟨ts, h1, h2, h3, h4⟩ := h
  refine ⟨ts ++ [t + 1], by simp [h1], ?_, ?_, fun y hy => ?_⟩
  · rw [List.zip_append h1.symm]
    exact (h2.append_right _).trans hp.symm
  · rw [List.pairwise_append]
    exact ⟨h3, List.pairwise_singleton _ _, fun a ha b hb => by rw [List.mem_singleton.1 hb]; have := h4 a ha; omega⟩
  · rcases List.mem_append.1 hy with hy | hy
    · have := h4 y hy; omega
    · rw [List.mem_singleton.1 hy]; omega
theorem PW.pop {want : List (Int × ByteArray)} {l l' : List ((Int × ByteArray) × Int)} {t : Int} {j : Nat} (h : PW want l t) (hh : HeapL kP tP z3 l) (hf : FirstAt want want.length (j : Int)) (hp : l.Perm (l.getD 0 z3 :: l')) :
    j < want.length ∧ (l.getD 0 z3).1 = want.getD j zI ∧ PW (want.take j ++ want.drop (j + 1)) l' t := by
  obtain ⟨ts, h1, h2, h3, h4⟩ := h
  rcases hf with ⟨_, h⟩ | ⟨i, hi, hik, hk1, hk2⟩
  · omega
  obtain rfl : i = j := by omega
  have hit : i < ts.length := by omega
  have hzl : (want.zip ts).length = want.length := by rw [List.length_zip]; omega
  have hzi : (want.zip ts)[i]'(by omega) = (want[i], ts[i]) := by simp
  have hmem : (want[i], ts[i]) ∈ l := h2.mem_iff.1 (by rw [← hzi]; exact List.getElem_mem _)
  have hmin := hh.min_at hmem (fun x hx hne => by
    have hx2 := h2.mem_iff.2 hx
    obtain ⟨q, hq, rfl⟩ := List.mem_iff_getElem.1 hx2
    have hqw : q < want.length := by omega
    have hqt : q < ts.length := by omega
    have e : (want.zip ts)[q] = (want[q], ts[q]) := by simp
    rw [e] at hne ⊢
    have hqi : q ≠ i := fun e2 => hne (by subst e2; rfl)
    have a1 := hk1 q hqw
    have a2 := hk2 q
    unfold keyI at a1 a2
    rw [getD_at zI want i hik, getD_at zI want q hqw] at a1 a2
    have a3 : i < q → ts[i] < ts[q] := fun hlt => (List.pairwise_iff_getElem.1 h3) i q hit hqt hlt
    unfold hlt kP tP
    simp only
    rcases Nat.lt_or_gt_of_ne hqi with hlt | hgt
    · have := a2 hlt; omega
    · have := a3 hgt; omega)
  rw [hmin] at hp ⊢
  refine ⟨hik, by rw [getD_at zI want i hik], ts.take i ++ ts.drop (i + 1), ?_, ?_, ?_, fun x hx => ?_⟩
  · simp only [List.length_append, List.length_take, List.length_drop]; omega
  · have hs : (want.zip ts) = (want.zip ts).take i ++ (want[i], ts[i]) :: (want.zip ts).drop (i + 1) := by
      rw [← hzi, List.getElem_cons_drop, List.take_append_drop]
    have hz : (want.take i ++ want.drop (i + 1)).zip (ts.take i ++ ts.drop (i + 1)) = (want.zip ts).take i ++ (want.zip ts).drop (i + 1) := by
      rw [List.zip_append (by simp only [List.length_take]; omega)]
      simp only [List.zip_eq_zipWith, List.take_zipWith, List.drop_zipWith]
    rw [hz]
    have hp2 : ((want[i], ts[i]) :: ((want.zip ts).take i ++ (want.zip ts).drop (i + 1))).Perm ((want[i], ts[i]) :: l') := by
      refine (List.perm_middle.symm.trans ?_).trans (h2.trans hp)
      rw [← hs]
    exact hp2.cons_inv
  · refine List.Pairwise.sublist ?_ h3
    rw [← List.eraseIdx_eq_take_drop_succ]
    exact List.eraseIdx_sublist _ _
  · rcases List.mem_append.1 hx with hx | hx
    · exact h4 x (List.mem_of_mem_take hx)
    · exact h4 x (List.mem_of_mem_drop hx)

/-! The walks. -/
theorem EI_get {w : World} {A : Option Addr} {xs : List (Int × ByteArray)} (h : EI.C w A xs.length xs) (i : Nat) (hi : i < xs.length) :
    ∃ ad, A = some ad ∧ w.cell? (ad.add (i * 2)) = some (.int .i64 (xs.getD i zI).1) ∧ w.cell? (ad.add (i * 2 + 1)) = some (.string (xs.getD i zI).2) := by
  obtain ⟨ad, c, e, hl, hK, hc⟩ := Kd.C_get h zI (i : Int) (by omega) (by omega)
  rw [Int.toNat_natCast] at hK hc
  obtain ⟨c0, c1, rfl, h0, h1⟩ := hK
  obtain rfl := (show c0 = [Value.int .i64 _] from h0)
  obtain rfl := (show c1 = [Value.string _] from h1)
  exact ⟨ad, e, by have := hc 0 _ rfl; exact this, by have := hc 1 _ rfl; exact this⟩
theorem pick09 (w : World) (c : Int) (h0 : -9223372036854775808 ≤ c) (h1 : c ≤ 9223372036854775807) : Calls Try.prog 21 #[.int .i64 c, .int .i64 3] w fun e w' => ∃ r : Nat, r < 3 ∧ e = .returned (.int .i64 r) ∧ w = w' := by
  have h60 : ((3 : Int) == 0) = false := rfl
  by_cases hc : c < 0
  · have hb : decide (c < 0) = true := decide_eq_true hc
    obtain ⟨k, hk⟩ : ∃ k : Nat, -(c + 1) = k := ⟨(-(c + 1)).toNat, by omega⟩
    have hw1 : IntKind.i64.wrap (c + 1) = c + 1 := IntWalk.i64_in _ (by omega)
    have hw2 : IntKind.i64.wrap (-(c + 1)) = k := by rw [hk]; exact IntWalk.i64_in _ (by omega)
    have ht : Int.tmod (k : Int) 3 = ((k % 3 : Nat) : Int) := rfl
    have hlt : k % 3 < 3 := Nat.mod_lt _ (by omega)
    generalize k % 3 = r at ht hlt
    go_enter Try.func21, Try.ntmps21
    go_wp2
    go_ret
    exact ⟨r, hlt, rfl, rfl⟩
  · have hb : decide (c < 0) = false := decide_eq_false hc
    obtain ⟨k, rfl⟩ := Int.eq_ofNat_of_zero_le (show 0 ≤ c by omega)
    have ht : Int.tmod (k : Int) 3 = ((k % 3 : Nat) : Int) := rfl
    have hlt : k % 3 < 3 := Nat.mod_lt _ (by omega)
    generalize k % 3 = r at ht hlt
    go_enter Try.func21, Try.ntmps21
    go_wp2
    go_ret
    exact ⟨r, hlt, rfl, rfl⟩

theorem str_beq (s : ByteArray) : (s == s) = true := by
  cases s with | mk d =>
  show (d == d) = true
  exact beq_self_eq_true d
theorem itemEq_in (d : Nat) (w : World) (k : Int) (s : ByteArray) : (Op.equalIn (d + 2) 27 (.agg #[.int .i64 k, .string s]) (.agg #[.int .i64 k, .string s])).run Try.prog w = .ok true w := by
  refine eqA_of Try.underlying27 (by kernel_rfl) ?_
  have h1 : (Op.equalIn (d + 1) 3 (.int .i64 k) (.int .i64 k)).run Try.prog w = .ok true w := by simp [Op.equalIn, run_underlying Try.underlying3]
  have h2 : (Op.equalIn (d + 1) 9 (.string s) (.string s)).run Try.prog w = .ok true w := by
    simp [Op.equalIn, run_underlying Try.underlying9]
    exact str_beq s
  have := eqf_cons (P := Try.prog) (d := d + 1) (xs := #[.int .i64 k, .string s]) (ys := #[.int .i64 k, .string s]) (f := { name := "Key", type := 3, offset := 0, embedded := false, tag := "", pkgPath := "", byteOffset := 0 }) (fs := [{ name := "Name", type := 9, offset := 1, embedded := false, tag := "", pkgPath := "", byteOffset := 8 }]) (a := .int .i64 k) (b := .int .i64 k) (r := true) (s := true) (w := w) rfl
    (by simp [part, go_sem, Try.underlying3]) (by simp [part, go_sem, Try.underlying3]) h1
    (eqf_last rfl (a := .string s) (b := .string s) (by simp [part, go_sem, Try.underlying9]) (by simp [part, go_sem, Try.underlying9]) h2)
  exact this
@[go_sem] theorem item_ne (w : World) (k : Int) (s : ByteArray) : (binOp .neq 27 (.agg #[.int .i64 k, .string s]) (.agg #[.int .i64 k, .string s])).run Try.prog w = .ok (.bool false) w := by
  simp only [binOp]
  simp [Op.equal, Op.maxDepth, itemEq_in 9998 w k s]

set_option maxRecDepth 100000 in
theorem first_calls (w : World) (A : Option Addr) (c : Nat) (L : List (Int × ByteArray)) (hr : EI.C w A L.length L) (hn : L.length ≤ 1000000) :
    Calls Try.prog 20 #[.slice A L.length c] w fun e w' => ∃ b, e = .returned (.int .i64 b) ∧ FirstAt L L.length b ∧ Drawn0 w w' := by
  have HR := Aside0.mk hr
  clear hr
  go_enter Try.func20, Try.ntmps20
  go_wp2_with (fail)
  go_loopg [3, 4] L.length (fun kq v3 v4 w' => ∃ (k : Nat) (b : Int), k + kq = L.length ∧ v4 = .int .i64 k ∧ v3 = .int .i64 b ∧ Aside0 (FirstAt L k b) ∧ Aside0 (Drawn0 w w'))
  case atStart => exact ⟨0, -1, by omega, rfl, rfl, ⟨.inl ⟨rfl, rfl⟩⟩, ⟨Drawn0.refl _⟩⟩
  case round =>
    obtain ⟨k, b, hk, rfl, rfl, FF, DD⟩ := hrel
    by_cases hlt : k < L.length
    · have hb : decide ((k : Int) < L.length) = true := decide_eq_true (by omega)
      have hb2 : decide (k < L.length) = true := decide_eq_true hlt
      obtain ⟨ad, rfl, x1, -⟩ := EI_get (Kd.C_below HR.out DD.out.below) k hlt
      have i0 : (0 : Int) ≤ k := by omega
      have i1 : (k : Int) < L.length := by omega
      have HLT := Aside0.mk hlt
      rcases FF.out with ⟨h0, rfl⟩ | ⟨j, rfl, hjk, _, _⟩
      · have hc1 : decide ((-1 : Int) < 0) = true := rfl
        have hcl : decide ((L.getD k zI).1 < (L.getD k zI).1) = false := decide_eq_false (by omega)
        have H0 := Aside0.mk h0
        generalize (L.getD k zI).1 = xk at x1 hcl
        clear h0 hlt
        go_wp2_with (fail)
        go_quiet (fail)
        go_wp2_with (fail)
        go_roundg (L.length - (k + 1))
        case measure => have := HLT.out; omega
        case rel => exact ⟨k + 1, k, by have := HLT.out; omega, by go_num, rfl, ⟨by rw [H0.out]; exact FirstAt.one L⟩, ⟨DD.out.step _⟩⟩
      · obtain ⟨ad', e', x2, -⟩ := EI_get (Kd.C_below HR.out DD.out.below) j (by omega)
        obtain rfl : ad = ad' := by simpa using e'
        have hc1 : decide ((j : Int) < 0) = false := decide_eq_false (by omega)
        have i2 : (0 : Int) ≤ j := by omega
        have i3 : (j : Int) < L.length := by omega
        clear e' hlt
        by_cases hcm : keyI L k < keyI L j
        · have HC := Aside0.mk hcm
          have hcl : decide ((L.getD k zI).1 < (L.getD j zI).1) = true := decide_eq_true hcm
          generalize (L.getD k zI).1 = xk at x1 hcl
          generalize (L.getD j zI).1 = xj at x2 hcl
          clear hcm
          go_wp2_with (fail)
          go_quiet (fail)
          go_wp2_with (fail)
          go_roundg (L.length - (k + 1))
          case measure => have := HLT.out; omega
          case rel => exact ⟨k + 1, k, by have := HLT.out; omega, by go_num, rfl, ⟨FF.out.yes HC.out⟩, ⟨DD.out.step _⟩⟩
        · have HC := Aside0.mk hcm
          have hcl : decide ((L.getD k zI).1 < (L.getD j zI).1) = false := decide_eq_false hcm
          generalize (L.getD k zI).1 = xk at x1 hcl
          generalize (L.getD j zI).1 = xj at x2 hcl
          clear hcm
          go_wp2_with (fail)
          go_quiet (fail)
          go_wp2_with (fail)
          go_roundg (L.length - (k + 1))
          case measure => have := HLT.out; omega
          case rel => exact ⟨k + 1, j, by have := HLT.out; omega, by go_num, rfl, ⟨FF.out.no (by have := HC.out; omega)⟩, ⟨DD.out.step _⟩⟩
    · have hb : decide ((k : Int) < L.length) = false := decide_eq_false (by omega)
      have hb2 : decide (k < L.length) = false := decide_eq_false hlt
      obtain rfl : k = L.length := by omega
      go_wp2_with (fail)
      go_ret
      exact ⟨b, rfl, FF.out, DD.out⟩

end Go.Proofs.Ythlcognpfangkaa
