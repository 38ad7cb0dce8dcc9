/- A tape that the call made: its methods' contracts, told of one state (no condition but that state). -/
import Derived.Test.YthlcognpfangkaaTp
import Derived.Lib.SlBytesConst
namespace Go.Proofs.Ythlcognpfangkaa
open Go.RowKit Go.Proofs.YthlcognpfangkaaW.PrintWords Go.Proofs.YthlcognpfangkaaW.PrintLast Go.Proofs.YthlcognpfangkaaW.PrintMore
set_option linter.unusedVariables false
set_option linter.unusedSimpArgs false
attribute [local go_sem] max2_int min2_int max_two min_two

/-- A tape that was made since w0, and its bytes. -/
structure TA (w0 w : World) (g : Nat) (A : Option Addr) (c : Nat) (l : List Int) (room s : Int) (down : Bool) (left : Int) : Prop where
  t : Tp w g (.slice A l.length c) room s down left
  r : Kd.R (Kd.int .u8) 5 w w0.heap.size (fun _ => True) (.slice A l.length c) l
  ge : w0.heap.size ≤ g
  fr : Fr No w0 w

theorem C_blk {k : IntKind} {w : World} {A : Option Addr} {n : Nat} {l : List Int} (h : Kd.C (Kd.int k) w A n l) (hn : 0 < n) : ∀ ad, A = some ad → ad.block < w.heap.size := by
  intro ad e
  obtain ⟨ad', e', hc⟩ := h.2.2 (by omega)
  rw [e] at e'
  cases e'
  have hl : 0 < l.length := by have := h.1; omega
  obtain ⟨c, hs, hr, hcell⟩ := hc 0 l[0] (List.getElem?_eq_getElem hl)
  have h1 : 0 < c.length := by rw [hs]; exact Nat.one_pos
  have hx := hcell 0 _ (List.getElem?_eq_getElem h1)
  have hb : (ad.add (0 * (Kd.int k).sz + 0)).block = ad.block := by unfold Addr.add; split <;> rfl
  have hlt := World.block_lt_of_cell? w _ hx
  rw [hb] at hlt
  exact hlt

section
variable {w0 w : World} {g c : Nat} {A : Option Addr} {l : List Int} {room s left : Int} {down : Bool}
theorem TA.no (h : TA w0 w g A c l room s down left) {W : World} (hf : Fr No w W) : TA w0 W g A c l room s down left :=
  ⟨hf.blk h.t (fun h => h.elim), hf.Rlow h.r (fun _ h => h.elim), h.ge, h.fr.on hf⟩
theorem TA.at_ (h : TA w0 w g A c l room s down left) {W : World} (hf : Fr (At g) w W) : Fr No w0 W := h.fr.trans hf (fun k (hk : k = g) => .inr (by rw [hk]; exact h.ge))

theorem TA.new (h : Fr No w0 w) (room : Int) (h1 : 1 ≤ room) (h2 : room ≤ 1048576) :
    Calls Try.prog 54 #[.int .i64 room] w fun e w' => ∃ g, e = .returned (.tuple #[.pointer (some ⟨g, 0, none⟩), .nilIface]) ∧ TA w0 w' g none 0 [] room 0 false (-1) :=
  (tnew w room h1 h2).mono fun e w' ⟨g, he, hg, ht, hf⟩ => ⟨g, he, ht, Kd.R_nil _ _ _ _ _, by rw [hg]; exact h.size, h.on hf⟩
theorem TA.app (h : TA w0 w g A c l room s down left) {B : Option Addr} {d : Nat} {m : List Int} (hm : Kd.C (Kd.int .u8) w B m.length m) (hB : ∀ ad, B = some ad → 0 < m.length → ad.block ≠ g) (hl : left ≤ 9223372036854775807) (hc : callC down left = 0) (hr0 : 0 ≤ room) (hr1 : room ≤ 1048576) (hn : l.length ≤ room) (hf : m.length ≤ room - l.length) :
    Calls Try.prog 55 #[.pointer (some ⟨g, 0, none⟩), .slice B m.length d] w fun e w' => e = .returned .nilIface ∧ ∃ A' c', TA w0 w' g A' c' (l ++ m) room s down (callL down left) ∧ Fr (TS g (.slice A l.length c)) w w' ∧
      ((Value.slice A' (l ++ m).length c').ownBlock = (Value.slice A l.length c).ownBlock ∨ ∃ b, (Value.slice A' (l ++ m).length c').ownBlock = some b ∧ w.heap.size ≤ b) := by
  refine (tappend w g A c l w0.heap.size room s left down B d m h.t h.r h.fr.size hm hB hl hc hr0 hr1 hn hf).mono ?_
  rintro e w' ⟨he, A', c', ht, hr, hf', ho⟩
  rw [← List.length_append] at ht hr ho
  refine ⟨he, A', c', ⟨ht, hr, h.ge, h.fr.trans hf' ?_⟩, hf', ho⟩
  rintro k (hk | hk)
  · exact .inr (by rw [hk]; exact h.ge)
  · obtain ⟨inner, ho⟩ := Kd.R_own h.r
    exact .inr (own_base ho k hk)
theorem TA.sync (h : TA w0 w g A c l room s down left) (hl : left ≤ 9223372036854775807) :
    Calls Try.prog 56 #[.pointer (some ⟨g, 0, none⟩)] w fun e w' => e = .returned (errOf (callC down left)) ∧ TA w0 w' g A c l room (if callC down left = 0 then (l.length : Int) else s) down (callL down left) ∧ Fr (At g) w w' :=
  (tsync w g A l.length c room s left down h.t hl).mono fun e w' ⟨he, ht, hf⟩ => ⟨he, ⟨ht, hf.Rtyp h.r h.t (by decide), h.ge, h.at_ hf⟩, hf⟩
theorem TA.up (h : TA w0 w g A c l room s down left) : Calls Try.prog 58 #[.pointer (some ⟨g, 0, none⟩)] w fun e w' => e = .returned (.tuple #[]) ∧ TA w0 w' g A c l room s false left ∧ Fr (At g) w w' :=
  (tup w g _ room s left down h.t).mono fun e w' ⟨he, ht, hf⟩ => ⟨he, ⟨ht, hf.Rtyp h.r h.t (by decide), h.ge, h.at_ hf⟩, hf⟩
theorem TA.fail (h : TA w0 w g A c l room s down left) (n : Int) : Calls Try.prog 65 #[.pointer (some ⟨g, 0, none⟩), .int .i64 n] w fun e w' => e = .returned (.tuple #[]) ∧ TA w0 w' g A c l room s down (failL n) ∧ Fr (At g) w w' :=
  (tfail w g _ room s left down n h.t).mono fun e w' ⟨he, ht, hf⟩ => ⟨he, ⟨ht, hf.Rtyp h.r h.t (by decide), h.ge, h.at_ hf⟩, hf⟩
theorem TA.read (h : TA w0 w g A c l room s false left) (hl : l.length ≤ 140737488355000) :
    Calls Try.prog 59 #[.pointer (some ⟨g, 0, none⟩)] w fun e w' => ∃ A' c', e = .returned (.tuple #[.slice A' l.length c', .nilIface]) ∧ Kd.C (Kd.int .u8) w' A' l.length l ∧ l.length ≤ c' ∧ TA w0 w' g A c l room s false left ∧ Fr No w w' :=
  (tread w g A c l w0.heap.size room s left h.t h.r hl).mono fun e w' ⟨v, he, hr, hf⟩ => by
    obtain ⟨A', c', e', hc', hrd⟩ := R_out hr
    subst e'
    exact ⟨A', c', he, hrd, hc', h.no hf, hf⟩
end
theorem TA.crash {w0 w : World} {g c : Nat} {A : Option Addr} {l : List Int} {room left : Int} {s : Nat} (h : TA w0 w g A c l room s false left) (hs : s ≤ l.length) (hlen : l.length ≤ 140737488355000) (keep : Int) :
    Calls Try.prog 57 #[.pointer (some ⟨g, 0, none⟩), .int .i64 keep] w fun e w' => e = .returned (.tuple #[]) ∧ TA w0 w' g A c (l.take (crashN l.length s keep)) room (crashN l.length s keep) true (-1) ∧ Fr (At g) w w' :=
  (tcrash w g A c l w0.heap.size room left keep s h.t h.r hs hlen).mono fun e w' ⟨he, ht, hr, hf⟩ => by
    have hl : (l.take (crashN l.length s keep)).length = crashN l.length s keep := by rw [List.length_take]; have := (crashN_le hs keep).1; omega
    exact ⟨he, ⟨by rw [hl]; exact ht, by rw [hl]; exact hr, h.ge, h.at_ hf⟩, hf⟩

set_option maxRecDepth 100000 in
theorem up07 (w : World) : Calls Try.prog 53 #[] w fun e w' => e = .returned (.bool true) ∧ Fr No w w' := by
  have kc := fun (w : World) (C : Array Value) (n c : Nat) => Lib.run_convert_bytes_const (P := Try.prog) w 47 5 C n c Try.underlying47 Try.underlying5
  go_enter Try.func53, Try.ntmps53
  go_wp2_with (fail)
  refine (TA.new (Fr.refl No w) 10 (by omega) (by omega)).mono ?_
  rintro e w1 ⟨g, rfl, ht⟩
  have T1 := Aside0.mk ht
  clear ht
  go_wp2_with (fail)
  refine (tnew_no w1 0 (by omega)).mono ?_
  rintro e w2 ⟨rfl, rfl⟩
  go_wp2_with (fail)
  have hne : ∀ {W : World} (hf : Fr No w1 W) (ad : Addr), some (⟨W.heap.size, 0, none⟩ : Addr) = some ad → ad.block ≠ g := by
    intro W hf ad e
    cases e
    have := blk_lt T1.out.t
    have := hf.size
    show W.heap.size ≠ g
    omega
  have N1 := Aside0.mk (T1.out.no ((Fr.refl No w1).alloc (.cells ([97, 98].map (Value.int .u8)).toArray 5 (2, 3))))
  refine (TA.app (m := [97, 98]) N1.out (lit_reads w1 [97, 98] (2, 3) (by simp)) (fun ad e _ => hne (Fr.refl _ _) ad e) (by omega) rfl (by omega) (by omega) (by simp) (by simp)).mono ?_
  rintro e w3 ⟨rfl, A3, c3, ht3, hf3, -⟩
  have T3 := Aside0.mk ht3
  have F3 := Aside0.mk (show Fr No w w3 from ht3.fr)
  clear ht3 hf3 N1
  go_wp2_with (fail)
  refine (TA.sync T3.out (by decide)).mono ?_
  rintro e w4 ⟨rfl, ht4, -⟩
  have T4 := Aside0.mk ht4
  have e4 : errOf (callC false (callL false (-1))) = .nilIface := rfl
  rw [e4]
  clear ht4 T3 e4
  go_wp2_with (fail)
  have N4 := Aside0.mk (T4.out.no ((Fr.refl No w4).alloc (.cells ([99, 100].map (Value.int .u8)).toArray 5 (2, 3))))
  have hne4 : ∀ (ad : Addr), some (⟨w4.heap.size, 0, none⟩ : Addr) = some ad → ad.block ≠ g := by
    intro ad e
    cases e
    have := blk_lt T4.out.t
    show w4.heap.size ≠ g
    omega
  refine (TA.app (m := [99, 100]) N4.out (lit_reads w4 [99, 100] (2, 3) (by simp)) (fun ad e _ => hne4 ad e) (by decide) rfl (by omega) (by omega) (by simp) (by simp)).mono ?_
  rintro e w5 ⟨rfl, A5, c5, ht5, hf5, -⟩
  have T5 := Aside0.mk ht5
  clear ht5 hf5 N4 T4 hne4 hne
  go_wp2_with (fail)
  refine (TA.crash (s := 2) T5.out (by simp) (by simp) 1).mono ?_
  rintro e w6 ⟨rfl, ht6, -⟩
  have T6 := Aside0.mk (show TA w w6 g A5 c5 [97, 98, 99] 10 3 true (-1) from ht6)
  clear ht6 T5
  go_wp2_with (fail)
  refine (TA.sync T6.out (by omega)).mono ?_
  rintro e w7 ⟨rfl, ht7, -⟩
  have T7 := Aside0.mk ht7
  have e7 : errOf (callC true (-1)) = .iface 56 (.int .i64 9) := rfl
  rw [e7]
  clear ht7 T6 e7
  go_wp2_with (fail)
  refine (TA.up T7.out).mono ?_
  rintro e w8 ⟨rfl, ht8, -⟩
  have T8 := Aside0.mk ht8
  clear ht8 T7
  go_wp2_with (fail)
  refine (TA.read T8.out (by simp)).mono ?_
  rintro e w9 ⟨A9, c9, rfl, hr9, -, ht9, -⟩
  have F9 := Aside0.mk ht9.fr
  have cv9 := cv (c := c9) hr9
  clear hr9 ht9 T8 F3 kc
  simp only [List.length_cons, List.length_nil] at cv9 ⊢
  have hs : strOfNums [97, 98, 99] = ⟨#[97, 98, 99]⟩ := by decide +kernel
  rw [hs] at cv9
  go_wp2
  go_ret
  exact ⟨rfl, F9.out⟩

end Go.Proofs.Ythlcognpfangkaa
