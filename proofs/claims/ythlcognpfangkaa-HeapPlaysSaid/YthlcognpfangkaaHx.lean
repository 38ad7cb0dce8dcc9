/- The example of layer 9, and the law HeapSorts (the slice readable, each number in its range). -/
import Derived.Test.YthlcognpfangkaaHq
namespace Go.Proofs.Ythlcognpfangkaa
open Go.RowKit Go.Proofs.YthlcognpfangkaaW.PrintWords Go.Proofs.YthlcognpfangkaaW.PrintLast Go.Proofs.YthlcognpfangkaaW.PrintMore
set_option linter.unusedVariables false
set_option linter.unusedSimpArgs false

section
variable {E : Type} {κ τ : E → Int} {z : E}
theorem getD0_mem {l : List E} (h : 0 < l.length) : l.getD 0 z ∈ l := by rw [getD_at z l 0 h]; exact List.getElem_mem h
theorem HeapL.min_at {l : List E} (h : HeapL κ τ z l) {e : E} (he : e ∈ l) (hmin : ∀ x ∈ l, x ≠ e → hlt κ τ e x) : l.getD 0 z = e := by
  refine Classical.byContradiction fun hne => ?_
  have hl : 0 < l.length := List.length_pos_of_mem he
  exact h.head_mem e he (hmin _ (getD0_mem hl) hne)
end
theorem lessV79 (w0 : World) : LessV w0 (.func (.func 79) #[] #[]) (fun a => a) (fun _ => True) :=
  ⟨79, Try.f79, #[], rfl, Try.func79, by kernel_rfl, rfl, fun W _ a b _ _ => (less79 a b W).mono fun e w' ⟨he, hw⟩ => ⟨he, by rw [← hw]; exact Fr.refl _ _⟩⟩

set_option maxRecDepth 100000 in
theorem up09 (w : World) : Calls Try.prog 17 #[] w fun e w' => e = .returned (.bool true) ∧ Fr No w w' := by
  have HV := Aside0.mk (lessV79 w)
  go_enter Try.func17, Try.ntmps17
  go_wp2_with (fail)
  refine (hnew w 79 #[] (Fr.refl No w)).mono ?_
  rintro e w1 ⟨g, rfl, h1⟩
  have H1 := Aside0.mk h1
  clear h1
  go_wp2_with (fail)
  refine (HI.push H1.out HV.out (fun e he => trivial) 3 trivial HeapL.nil (by omega) (by omega) (by simp)).mono ?_
  rintro e w2 ⟨rfl, A2, c2, l2, h2, hh2, hp2⟩
  have H2 := Aside0.mk h2
  have HH2 := Aside0.mk hh2
  have P2 := Aside0.mk hp2
  clear h2 hh2 hp2 H1
  go_wp2_with (fail)
  refine (HI.push H2.out HV.out (fun e he => trivial) 1 trivial HH2.out (by omega) (by omega) (by rw [P2.out.length_eq]; simp)).mono ?_
  rintro e w3 ⟨rfl, A3, c3, l3, h3, hh3, hp3⟩
  have H3 := Aside0.mk h3
  have HH3 := Aside0.mk hh3
  have P3 := Aside0.mk (hp3.trans (P2.out.append_right _))
  clear h3 hh3 hp3 H2 HH2 P2
  go_wp2_with (fail)
  refine (HI.push H3.out HV.out (fun e he => trivial) 2 trivial HH3.out (by omega) (by omega) (by rw [P3.out.length_eq]; simp)).mono ?_
  rintro e w4 ⟨rfl, A4, c4, l4, h4, hh4, hp4⟩
  have H4 := Aside0.mk h4
  have HH4 := Aside0.mk hh4
  have P4 := Aside0.mk (show l4.Perm [(3, 1), (1, 2), (2, 3)] from hp4.trans (P3.out.append_right _))
  clear h4 hh4 hp4 H3 HH3 P3
  have hm := HH4.out.min_at (e := (1, 2)) (P4.out.mem_iff.2 (by decide)) (fun x hx hne => by
    have := P4.out.mem_iff.1 hx
    simp only [List.mem_cons, List.not_mem_nil, or_false] at this
    rcases this with rfl | rfl | rfl
    · decide
    · exact absurd rfl hne
    · decide)
  have HM := Aside0.mk hm
  clear hm
  go_wp2_with (fail)
  refine (HI.pop 2 H4.out HV.out (fun e he => trivial) HH4.out (by rw [P4.out.length_eq]; rfl) (by omega)).mono ?_
  rw [HM.out]
  rintro e w5 ⟨rfl, l5, h5, hh5, hp5⟩
  have H5 := Aside0.mk h5
  have HH5 := Aside0.mk hh5
  have P5 := Aside0.mk (show l5.Perm [(3, 1), (2, 3)] from ((hp5.symm.trans P4.out).trans (List.Perm.swap (1, 2) (3, 1) [(2, 3)])).cons_inv)
  clear h5 hh5 hp5 H4 HH4 P4 HM
  have hm := HH5.out.min_at (e := (2, 3)) (P5.out.mem_iff.2 (by decide)) (fun x hx hne => by
    have := P5.out.mem_iff.1 hx
    simp only [List.mem_cons, List.not_mem_nil, or_false] at this
    rcases this with rfl | rfl
    · decide
    · exact absurd rfl hne)
  have HM := Aside0.mk hm
  clear hm
  go_wp2_with (fail)
  refine (HI.peek H5.out (by rw [P5.out.length_eq]; decide)).mono ?_
  rw [HM.out]
  rintro e w6 ⟨rfl, rfl⟩
  have hlen := H5.out.len
  rw [P5.out.length_eq] at hlen
  have HLEN := Aside0.mk hlen
  clear hlen
  go_wp2_with (go_at_call 81; refine HLEN.out.mono ?_; rintro e w7 ⟨rfl, rfl⟩)
  go_ret
  exact ⟨rfl, H5.out.fr⟩
end Go.Proofs.Ythlcognpfangkaa
