/- The walk of the law HeapSorts: it returns true (the slice readable, each number in its range). -/
import Derived.Test.YthlcognpfangkaaHx
namespace Go.Proofs.Ythlcognpfangkaa
open Go.RowKit Go.Proofs.YthlcognpfangkaaW.PrintWords Go.Proofs.YthlcognpfangkaaW.PrintLast Go.Proofs.YthlcognpfangkaaW.PrintMore
set_option linter.unusedVariables false
set_option linter.unusedSimpArgs false

/-- The key of a place. -/
def keyS (L : List Int) (a : Int) : Int := L.getD a.toNat 0
def inS (n : Nat) (a : Int) : Prop := 0 ≤ a ∧ a < n
theorem L_at {w : World} {A : Option Addr} {L : List Int} (h : Kd.C (Kd.int .i64) w A L.length L) (i : Nat) (hi : i < L.length) : ∃ ad, A = some ad ∧ w.cell? (ad.add i) = some (.int .i64 (keyS L i)) := by
  obtain ⟨ad, c, e, hl, hK, hc⟩ := Kd.C_get h 0 (i : Int) (by omega) (by omega)
  obtain rfl := (show c = [Value.int .i64 _] from hK)
  have := hc 0 _ rfl
  rw [Int.toNat_natCast] at this
  refine ⟨ad, e, ?_⟩
  rw [show i * (Kd.int .i64).sz + 0 = i from by show i * 1 + 0 = i; omega] at this
  unfold keyS
  rw [Int.toNat_natCast]
  exact this
/-- The list's own block, and its numbers. -/
structure LB (w : World) (gc : Nat) (A : Option Addr) (c : Nat) (L : List Int) : Prop where
  q : w.cell? ⟨gc, 0, none⟩ = some (.slice A L.length c)
  r : Kd.C (Kd.int .i64) w A L.length L
theorem LB.no {w W : World} {gc : Nat} {A : Option Addr} {c : Nat} {L : List Int} (h : LB w gc A c L) (hf : Fr No w W) : LB W gc A c L := ⟨pw_cell_below hf.no h.q, Kd.C_below h.r hf.no⟩
theorem lessV27 {w0 : World} {gc : Nat} {A : Option Addr} {c : Nat} {L : List Int} (h : LB w0 gc A c L) : LessV w0 (.func (.func 27) #[] #[.pointer (some ⟨gc, 0, none⟩)]) (keyS L) (inS L.length) := by
  refine ⟨27, Try.f27, #[.pointer (some ⟨gc, 0, none⟩)], rfl, Try.func27, by kernel_rfl, rfl, fun W hW a b ha hb => ?_⟩
  obtain ⟨i, rfl⟩ := Int.eq_ofNat_of_zero_le ha.1
  obtain ⟨k, rfl⟩ := Int.eq_ofNat_of_zero_le hb.1
  have hi : i < L.length := by have := ha.2; omega
  have hk : k < L.length := by have := hb.2; omega
  have h2 := h.no hW
  obtain ⟨ad, rfl, x1⟩ := L_at h2.r i hi
  obtain ⟨ad', e', x2⟩ := L_at h2.r k hk
  obtain rfl : ad = ad' := by simpa using e'
  exact (less27 i k L.length c gc ad _ _ W h2.q hi hk x1 x2).mono fun e w' ⟨he, hd⟩ => ⟨he, Fr.of_below hd.below No⟩

/-- The entry of a place. -/
def entS (j : Nat) : Int × Int := ((j : Int), (j : Int) + 1)
/-- What is left, and the one popped last. -/
structure HSo (L : List Int) (k : Nat) (last : Int) (l : List (Int × Int)) : Prop where
  len : l.length + k = L.length
  ok : ∀ e ∈ l, ∃ j : Nat, j < L.length ∧ e = entS j
  nd : l.Nodup
  la : (k = 0 ∧ last = -1) ∨ ∃ j : Nat, j < L.length ∧ last = (j : Int) ∧ ∀ e ∈ l, keyS L j < keyS L e.1 ∨ (keyS L j = keyS L e.1 ∧ (j : Int) < e.1)
theorem HSo.start (L : List Int) (l : List (Int × Int)) (h : l.Perm ((List.range L.length).map entS)) : HSo L 0 (-1) l where
  len := by rw [h.length_eq]; simp
  ok := fun e he => by
    have := h.mem_iff.1 he
    obtain ⟨j, hj, rfl⟩ := List.mem_map.1 this
    exact ⟨j, List.mem_range.1 hj, rfl⟩
  nd := h.nodup_iff.2 (by
    refine List.Pairwise.map _ (fun a b hab e => hab ?_) List.nodup_range
    unfold entS at e
    simp only [Prod.mk.injEq] at e
    omega)
  la := .inl ⟨rfl, rfl⟩
theorem HSo.inD {L : List Int} {k : Nat} {last : Int} {l : List (Int × Int)} (h : HSo L k last l) : ∀ e ∈ l, inS L.length e.1 := fun e he => by
  obtain ⟨j, hj, rfl⟩ := h.ok e he
  exact ⟨by show (0 : Int) ≤ j; omega, by show (j : Int) < L.length; omega⟩
/-- The next one is popped. -/
theorem HSo.next {L : List Int} {k : Nat} {last : Int} {l l' : List (Int × Int)} (h : HSo L k last l) (hh : HeapL (kE (keyS L)) tE (0, 0) l) (hk : k < L.length) (hp : l.Perm (l.getD 0 (0, 0) :: l')) :
    ∃ j : Nat, j < L.length ∧ (l.getD 0 (0, 0)).1 = (j : Int) ∧ HSo L (k + 1) j l' ∧ (last < 0 ∨ ∃ q : Nat, q < L.length ∧ last = (q : Int) ∧ (keyS L q < keyS L j ∨ (keyS L q = keyS L j ∧ q < j))) := by
  have hl : 0 < l.length := by have := h.len; omega
  have h0 := getD0_mem (z := ((0 : Int), (0 : Int))) hl
  have hmin := hh.head_mem
  generalize l.getD 0 (0, 0) = e0 at hp h0 hmin ⊢
  obtain ⟨j, hj, rfl⟩ := h.ok e0 h0
  have hnd := hp.nodup_iff.1 h.nd
  have hsub : ∀ e ∈ l', e ∈ l := fun e he => hp.mem_iff.2 (List.mem_cons_of_mem _ he)
  have hl2 := hp.length_eq
  rw [List.length_cons] at hl2
  refine ⟨j, hj, rfl, ⟨by have := h.len; omega, fun e he => h.ok e (hsub e he), (List.nodup_cons.1 hnd).2, .inr ⟨j, hj, rfl, fun e he => ?_⟩⟩, ?_⟩
  · obtain ⟨q, hq, rfl⟩ := h.ok e (hsub e he)
    have hne : q ≠ j := fun e2 => (List.nodup_cons.1 hnd).1 (by rw [← e2]; exact he)
    have := hmin _ (hsub _ he)
    unfold hlt kE tE entS at this
    unfold entS
    simp only at this ⊢
    omega
  · rcases h.la with ⟨_, rfl⟩ | ⟨q, hq, rfl, hall⟩
    · exact .inl (by omega)
    · refine .inr ⟨q, hq, rfl, ?_⟩
      have := hall _ h0
      unfold entS at this
      simp only at this
      omega

set_option maxRecDepth 100000 in
theorem sorts_early (w : World) (A : Option Addr) (c n : Nat) (h : 300 < n) (hm : n ≤ 9223372036854775807) : Calls Try.prog 4 #[.slice A n c] w fun e w' => e = .returned (.bool true) ∧ Fr No w w' := by
  have hb : decide (300 < n) = true := decide_eq_true h
  have hb2 : decide (300 < (n : Int)) = true := decide_eq_true (by omega)
  have hcell : ∀ W, Fr No (w.alloc (.cells #[.slice A n c] 39)) W → W.cell? ⟨w.heap.size, 0, none⟩ = some (.slice A n c) := fun W hW => pw_cell_below hW.no ((blk_cell (blk_new w _) 0).trans rfl)
  have HC := Aside0.mk hcell
  clear hcell
  go_enter Try.func4, Try.ntmps4
  go_wp2_with (fail)
  refine (up09 _).mono ?_
  rintro e w1 ⟨rfl, hf⟩
  have q1 := HC.out w1 hf
  have F1 := Aside0.mk (((Fr.refl No w).alloc (.cells #[.slice A n c] 39)).on hf)
  clear hf
  go_wp2
  go_ret
  exact ⟨rfl, F1.out⟩

set_option maxHeartbeats 8000000 in
set_option maxRecDepth 100000 in
theorem sorts_main (w : World) (A : Option Addr) (c : Nat) (L : List Int) (hr : Kd.C (Kd.int .i64) w A L.length L) (hn : L.length ≤ 300) : Calls Try.prog 4 #[.slice A L.length c] w fun e w' => e = .returned (.bool true) ∧ Fr No w w' := by
  have hb : decide (300 < L.length) = false := decide_eq_false (by omega)
  have hb2 : decide (300 < (L.length : Int)) = false := decide_eq_false (by omega)
  have HR := Aside0.mk hr
  have hmf : ∀ (fn : Fn) (first cap : Array Value) (w : World), (Instr.makeFunc fn first cap).run Try.prog w = .ok (.func fn first cap) w := fun _ _ _ _ => rfl
  clear hr
  go_enter Try.func4, Try.ntmps4
  go_wp2_with (fail)
  refine (up09 _).mono ?_
  rintro e w1 ⟨rfl, hf⟩
  have F1 := Aside0.mk (((Fr.refl No w).alloc (.cells #[.slice A L.length c] 39)).on hf)
  have B1 := Aside0.mk (show LB w1 w.heap.size A c L from ⟨pw_cell_below hf.no ((blk_cell (blk_new w _) 0).trans rfl), Kd.C_below HR.out F1.out.no⟩)
  have HV := Aside0.mk (lessV27 B1.out)
  generalize w.heap.size = gc at B1 HV ⊢
  clear hf HR
  have q1 := B1.out.q
  go_wp2_with (fail)
  refine (hnew w1 27 _ (Fr.refl No w1)).mono ?_
  rintro e w2 ⟨g, rfl, h2⟩
  have H2 := Aside0.mk h2
  clear h2 q1 hb hb2
  go_wp2_with (fail)
  go_loopg [5] L.length (fun kq v5 w' => ∃ (k : Nat) (A' : Option Addr) (c' : Nat) (l' : List (Int × Int)), k + kq = L.length ∧ v5 = .int .i64 k ∧ Aside0 (HI w1 w' g (.func (.func 27) #[] #[.pointer (some ⟨gc, 0, none⟩)]) A' c' l' k) ∧ Aside0 (HeapL (kE (keyS L)) tE (0, 0) l' ∧ l'.Perm ((List.range k).map entS)))
  case atStart => exact ⟨0, none, 0, [], by omega, rfl, H2, ⟨HeapL.nil, by simp⟩⟩
  case round =>
    clear H2
    obtain ⟨k, A', c', l', hk, rfl, HH, PP⟩ := hrel
    have q1 := (B1.out.no HH.out.fr).q
    by_cases hlt : k < L.length
    · have hb : decide ((k : Int) < L.length) = true := decide_eq_true (by omega)
      have hb2 : decide (k < L.length) = true := decide_eq_true hlt
      have HLT := Aside0.mk hlt
      clear hlt
      go_wp2_with (fail)
      refine (HI.push HH.out HV.out (fun e he => by
        have := PP.out.2.mem_iff.1 he
        obtain ⟨j, hj, rfl⟩ := List.mem_map.1 this
        have := List.mem_range.1 hj
        have := HLT.out
        exact ⟨by show (0 : Int) ≤ j; omega, by show (j : Int) < L.length; omega⟩) k ⟨by omega, by have := HLT.out; omega⟩ PP.out.1 (by omega) (by have := HLT.out; omega) (by rw [PP.out.2.length_eq]; simp; have := HLT.out; omega)).mono ?_
      rintro e w3 ⟨rfl, A3, c3, l3, h3, hh3, hp3⟩
      have H3 := Aside0.mk (show HI w1 w3 g (.func (.func 27) #[] #[.pointer (some ⟨gc, 0, none⟩)]) A3 c3 l3 ((k + 1 : Nat) : Int) from h3)
      have P3 := Aside0.mk (And.intro hh3 (show l3.Perm ((List.range (k + 1)).map entS) from by rw [List.range_succ, List.map_append]; exact hp3.trans (PP.out.2.append_right _)))
      clear h3 hh3 hp3 q1
      go_wp2_with (fail)
      go_roundg (L.length - (k + 1))
      case measure => have := HLT.out; omega
      case rel => exact ⟨k + 1, A3, c3, l3, by have := HLT.out; omega, by go_num, H3, P3⟩
    · have hb : decide ((k : Int) < L.length) = false := decide_eq_false (by omega)
      have hb2 : decide (k < L.length) = false := decide_eq_false hlt
      obtain rfl : k = L.length := by omega
      have HS0 := Aside0.mk (HSo.start L l' PP.out.2)
      have HH0 := Aside0.mk PP.out.1
      clear PP
      go_wp2_with (fail)
      clear q1
      go_loopg [6, 7] L.length (fun kq v6 v7 w' => ∃ (k : Nat) (last : Int) (l : List (Int × Int)), k + kq = L.length ∧ v6 = .int .i64 last ∧ v7 = .int .i64 k ∧ Aside0 (HI w1 w' g (.func (.func 27) #[] #[.pointer (some ⟨gc, 0, none⟩)]) A' c' l L.length) ∧ Aside0 (HeapL (kE (keyS L)) tE (0, 0) l) ∧ Aside0 (HSo L k last l))
      case atStart => exact ⟨0, -1, l', by omega, rfl, rfl, HH, HH0, HS0⟩
      case round =>
        clear HH HH0 HS0 hlt hb hb2
        obtain ⟨k, last, l, hk, rfl, rfl, HH, PP, SS⟩ := hrel
        have q1 := (B1.out.no HH.out.fr).q
        by_cases hlt : k < L.length
        · have hb : decide ((k : Int) < L.length) = true := decide_eq_true (by omega)
          have hb2 : decide (k < L.length) = true := decide_eq_true hlt
          have HLT := Aside0.mk hlt
          clear hlt
          go_wp2_with (fail)
          refine (HI.pop (L.length - k - 1) HH.out HV.out SS.out.inD PP.out (by have := SS.out.len; have := HLT.out; omega) (by omega)).mono ?_
          rintro e w3 ⟨rfl, l3, h3, hh3, hp3⟩
          obtain ⟨j, hj, ej, hs3, hlast⟩ := SS.out.next PP.out HLT.out hp3
          rw [ej]
          have H3 := Aside0.mk h3
          have P3 := Aside0.mk hh3
          have S3 := Aside0.mk hs3
          have HJ := Aside0.mk hj
          have LB3 := Aside0.mk (B1.out.no h3.fr)
          clear h3 hh3 hp3 hs3 q1 ej HH PP SS
          have q1 := LB3.out.q
          have hj0 : decide ((j : Int) < 0) = false := decide_eq_false (by omega)
          have hj1 : decide ((L.length : Int) ≤ j) = false := decide_eq_false (by omega)
          have hj2 : decide (L.length ≤ j) = false := decide_eq_false (by omega)
          rcases hlast with hlast | ⟨q, hq, rfl, hcmp⟩
          · have hl0 : decide (0 ≤ last) = false := decide_eq_false (by omega)
            clear hj
            go_wp2_with (fail)
            go_roundg (L.length - (k + 1))
            case measure => have := HLT.out; omega
            case rel => exact ⟨k + 1, j, l3, by have := HLT.out; omega, rfl, by go_num, H3, P3, S3⟩
          · have hl0 : decide ((0 : Int) ≤ (q : Int)) = true := decide_eq_true (by omega)
            obtain ⟨ad, rfl, x1⟩ := L_at LB3.out.r j hj
            obtain ⟨ad', e', x2⟩ := L_at LB3.out.r q hq
            obtain rfl : ad = ad' := by simpa using e'
            have i0 : (0 : Int) ≤ j := by omega
            have i1 : (j : Int) < L.length := by omega
            have i2 : (0 : Int) ≤ q := by omega
            have i3 : (q : Int) < L.length := by omega
            generalize keyS L j = xj at x1 hcmp
            generalize keyS L q = xq at x2 hcmp
            have hc1 : decide (xj < xq) = false := decide_eq_false (by omega)
            by_cases he : xj = xq
            · subst he
              have hc2 : ((xj : Int) == xj) = true := by simp
              have hc3 : decide ((j : Int) ≤ (q : Int)) = false := decide_eq_false (by omega)
              have hc4 : decide (j ≤ q) = false := decide_eq_false (by omega)
              clear hj hq hcmp e'
              go_wp2_with (fail)
              go_quiet (fail)
              go_wp2_with (fail)
              go_roundg (L.length - (k + 1))
              case measure => have := HLT.out; omega
              case rel => exact ⟨k + 1, j, l3, by have := HLT.out; omega, rfl, by go_num, ⟨H3.out.no ((Fr.refl No _).drewN _)⟩, P3, S3⟩
            · have hc2 : ((xj : Int) == xq) = false := by simpa using he
              clear hj hq hcmp e' he
              go_wp2_with (fail)
              go_quiet (fail)
              go_wp2_with (fail)
              go_roundg (L.length - (k + 1))
              case measure => have := HLT.out; omega
              case rel => exact ⟨k + 1, j, l3, by have := HLT.out; omega, rfl, by go_num, ⟨H3.out.no ((Fr.refl No _).drewN _)⟩, P3, S3⟩
        · have hb : decide ((k : Int) < L.length) = false := decide_eq_false (by omega)
          have hb2 : decide (k < L.length) = false := decide_eq_false hlt
          have HL0 := Aside0.mk (show l.length = 0 from by have := SS.out.len; omega)
          clear SS PP
          go_wp2_with (fail)
          refine (HI.pop_no HH.out HL0.out).mono ?_
          rintro e w3 ⟨rfl, rfl⟩
          go_wp2
          go_ret
          exact ⟨rfl, F1.out.on HH.out.fr⟩

theorem heapSorts_walk (a0 : Option Addr) (len0 cap0 : Nat) (z0 : List Int) (w : World) (w0 : IsRow .i64 w a0 len0 cap0 z0) (y0 : len0 * 8 ≤ 140737488351232) : Calls Try.prog 4 #[.slice a0 len0 cap0] w fun e w' => e = .returned (.bool true) ∧ Below w.heap.size w w' := by
  obtain ⟨L, rfl, hr0, hc0, hw0⟩ := w0.reads
  refine Calls.mono (R := fun e w' => e = .returned (.bool true) ∧ Fr No w w') ?_ (fun e w' h => ⟨h.1, h.2.no⟩)
  by_cases h : 300 < L.length
  · exact sorts_early w a0 cap0 _ h (by omega)
  · exact sorts_main w a0 cap0 L hr0 (by omega)

end Go.Proofs.Ythlcognpfangkaa
