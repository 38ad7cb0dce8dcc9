/- The walk of the law WalPlays: it returns true (the arguments' cells readable, each integer in its range). -/
import Derived.Test.YthlcognpfangkaaRh
namespace Go.Proofs.Ythlcognpfangkaa
open Go.RowKit Go.Proofs.YthlcognpfangkaaW.PrintWords Go.Proofs.YthlcognpfangkaaW.PrintLast Go.Proofs.YthlcognpfangkaaW.PrintMore
set_option linter.unusedVariables false
set_option linter.unusedSimpArgs false

set_option maxRecDepth 100000 in
theorem wplays_no (w : World) (room : Int) (A : Option Addr) (n c : Nat) (B : Option Addr) (m d : Nat) (h : room < 1 ∨ 1048576 < room) :
    Calls Try.prog 16 #[.int .i64 room, .slice A n c, .slice B m d] w fun e w' => e = .returned (.bool true) ∧ Fr No w w' := by
  go_enter Try.func16, Try.ntmps16
  go_wp2_with (fail)
  refine (up08 _).mono ?_
  rintro e w1 ⟨rfl, hf⟩
  have F1 := Aside0.mk hf
  clear hf
  go_wp2_with (fail)
  refine (tnew_no w1 room h).mono ?_
  rintro e w2 ⟨rfl, rfl⟩
  go_wp2
  go_ret
  exact ⟨rfl, F1.out⟩
set_option maxRecDepth 100000 in
theorem wplays_long (w : World) (room : Int) (A : Option Addr) (n c : Nat) (B : Option Addr) (m d : Nat) (h1 : 1 ≤ room) (h2 : room ≤ 1048576) (h : 50000 < room ∨ 3000 < n ∨ 60 < m) (hn : n ≤ 9223372036854775807) (hm : m ≤ 9223372036854775807) :
    Calls Try.prog 16 #[.int .i64 room, .slice A n c, .slice B m d] w fun e w' => e = .returned (.bool true) ∧ Fr No w w' := by
  by_cases ha : 50000 < room
  · have hb : decide (50000 < room) = true := decide_eq_true ha
    clear h
    go_enter Try.func16, Try.ntmps16
    go_wp2_with (fail)
    refine (up08 _).mono ?_
    rintro e w1 ⟨rfl, hf⟩
    have F1 := Aside0.mk hf
    clear hf
    go_wp2_with (fail)
    refine (TA.new F1.out room h1 h2).mono ?_
    rintro e w2 ⟨g, rfl, ht⟩
    have F2 := Aside0.mk ht.fr
    clear ht F1
    go_wp2
    go_ret
    exact ⟨rfl, F2.out⟩
  have hb : decide (50000 < room) = false := decide_eq_false ha
  by_cases hc : 3000 < n
  · have hb2 : decide (3000 < n) = true := decide_eq_true hc
    have hb3 : decide (3000 < (n : Int)) = true := decide_eq_true (by omega)
    clear h ha
    go_enter Try.func16, Try.ntmps16
    go_wp2_with (fail)
    refine (up08 _).mono ?_
    rintro e w1 ⟨rfl, hf⟩
    have F1 := Aside0.mk hf
    clear hf
    go_wp2_with (fail)
    refine (TA.new F1.out room h1 h2).mono ?_
    rintro e w2 ⟨g, rfl, ht⟩
    have F2 := Aside0.mk ht.fr
    clear ht F1
    go_wp2
    go_ret
    exact ⟨rfl, F2.out⟩
  have hb2 : decide (3000 < n) = false := decide_eq_false hc
  have hb3 : decide (3000 < (n : Int)) = false := decide_eq_false (by omega)
  have hb4 : decide (60 < m) = true := decide_eq_true (by omega)
  have hb5 : decide (60 < (m : Int)) = true := decide_eq_true (by omega)
  clear h ha hc
  go_enter Try.func16, Try.ntmps16
  go_wp2_with (fail)
  refine (up08 _).mono ?_
  rintro e w1 ⟨rfl, hf⟩
  have F1 := Aside0.mk hf
  clear hf
  go_wp2_with (fail)
  refine (TA.new F1.out room h1 h2).mono ?_
  rintro e w2 ⟨g, rfl, ht⟩
  have F2 := Aside0.mk ht.fr
  clear ht F1
  go_wp2
  go_ret
  exact ⟨rfl, F2.out⟩

/-- The local variable's block of a deed. -/
def Xb3 (w : World) (g : Nat) (wh n : Int) (B : Option Addr) (m c : Nat) : Prop := w.heap[g]? = some (.cells #[.int .i64 wh, .int .i64 n, .slice B m c] 111 (0, 0))
theorem Xb3.cells {w : World} {g : Nat} {wh n : Int} {B : Option Addr} {m c : Nat} (h : Xb3 w g wh n B m c) : w.cell? ⟨g, 0, none⟩ = some (.int .i64 wh) ∧ w.cell? ⟨g, 1, none⟩ = some (.int .i64 n) ∧ w.cell? ⟨g, 2, none⟩ = some (.slice B m c) :=
  ⟨(blk_cell h 0).trans rfl, (blk_cell h 1).trans rfl, (blk_cell h 2).trans rfl⟩
theorem apL_bytes {c : Nat} {l m : List Int} (hl : isBytes l) (hm : isBytes m) : isBytes (apL c l m) := by
  unfold apL
  split
  · intro x hx
    rcases List.mem_append.1 hx with hx | hx
    · exact hl x hx
    · exact hm x hx
  · exact hl
theorem lapO_sz {c : Nat} {l b : List Int} {o : List (List Int)} (h : sizeL o = l.length) : sizeL (lapO c o b) = (lapL c l b).length := by
  unfold lapO lapL
  split
  · rw [sizeL_app, List.length_append, recL_length, h]
  · exact h


set_option maxHeartbeats 16000000 in
set_option maxRecDepth 100000 in
theorem wplays_main (w : World) (room : Int) (A1 : Option Addr) (c1 : Nat) (fb : List Int) (A : Option Addr) (n c : Nat) (Wh N : Nat → Int) (X : Nat → Option Addr × Nat × List Int) (hf0 : Kd.C (Kd.int .u8) w A1 fb.length fb) (hfc : fb.length ≤ c1) (hfb : isBytes fb) (hfl : fb.length ≤ 3000) (hr : DeedRow3 w A n Wh N X) (h1 : 1 ≤ room) (h2 : room ≤ 50000) (hn : n ≤ 60) :
    Calls Try.prog 16 #[.int .i64 room, .slice A1 fb.length c1, .slice A n c] w fun e w' => e = .returned (.bool true) ∧ Fr No w w' := by
  have hb : decide (50000 < room) = false := decide_eq_false (by omega)
  have hb2 : decide (3000 < fb.length) = false := decide_eq_false (by omega)
  have hb3 : decide (3000 < (fb.length : Int)) = false := decide_eq_false (by omega)
  have hb4 : decide (60 < n) = false := decide_eq_false (by omega)
  have hb5 : decide (60 < (n : Int)) = false := decide_eq_false (by omega)
  have HR := Aside0.mk hr
  have HF0 := Aside0.mk hf0
  have HFB := Aside0.mk hfb
  clear hr hf0 hfb
  go_enter Try.func16, Try.ntmps16
  go_wp2_with (fail)
  refine (up08 _).mono ?_
  rintro e w1 ⟨rfl, hf⟩
  have F1 := Aside0.mk hf
  clear hf
  go_wp2_with (fail)
  refine (TA.new F1.out room h1 (by omega)).mono ?_
  rintro e w2 ⟨g, rfl, ht⟩
  have T2 := Aside0.mk ht
  clear ht F1
  have hu92 := Try.underlying92
  go_wp2_with (fail)
  have F92 := (Fr.refl No w2).alloc (.cells #[.int .i64 room, .int .i64 0, .int .i64 (-1), .string ⟨#[]⟩, .bool false] 92)
  have F3 := Aside0.mk (F92.alloc (.cells #[.pointer (some ⟨w2.heap.size, 0, none⟩), .slice none 0 0] 116))
  have R3 := Aside0.mk (show RL ((w2.alloc (.cells #[.int .i64 room, .int .i64 0, .int .i64 (-1), .string ⟨#[]⟩, .bool false] 92)).alloc (.cells #[.pointer (some ⟨w2.heap.size, 0, none⟩), .slice none 0 0] 116)) w2.heap.size room 0 (-1) [] false from ((Fr.refl No _).alloc _).blk (blk_new w2 _) (fun h => h.elim))
  have B3 := Aside0.mk (show Rlb ((w2.alloc (.cells #[.int .i64 room, .int .i64 0, .int .i64 (-1), .string ⟨#[]⟩, .bool false] 92)).alloc (.cells #[.pointer (some ⟨w2.heap.size, 0, none⟩), .slice none 0 0] 116)) (w2.heap.size + 1) w2.heap.size (.slice none 0 0) from by have := blk_new (w2.alloc (.cells #[.int .i64 room, .int .i64 0, .int .i64 (-1), .string ⟨#[]⟩, .bool false] 92)) (.cells #[.pointer (some ⟨w2.heap.size, 0, none⟩), .slice none 0 0] 116); rw [show (w2.alloc (.cells #[.int .i64 room, .int .i64 0, .int .i64 (-1), .string ⟨#[]⟩, .bool false] 92)).heap.size = w2.heap.size + 1 from by simp] at this; exact this)
  have T3 := Aside0.mk (T2.out.no F3.out)
  have G2 := Aside0.mk (show w.heap.size ≤ w2.heap.size from T2.out.fr.size)
  have HG2 := Aside0.mk (show w.heap.size ≤ w2.heap.size + 1 ∧ w.heap.size ≤ w2.heap.size from ⟨by have := G2.out; omega, G2.out⟩)
  clear F92 F3 T2
  generalize (w2.alloc (.cells #[.int .i64 room, .int .i64 0, .int .i64 (-1), .string ⟨#[]⟩, .bool false] 92)).alloc (.cells #[.pointer (some ⟨w2.heap.size, 0, none⟩), .slice none 0 0] 116) = w3 at T3 R3 B3 ⊢
  generalize w2.heap.size + 1 = gl2 at B3 HG2 ⊢
  generalize w2.heap.size = g2 at R3 B3 G2 HG2 ⊢
  clear hb hb2 hb3 hb4 hb5
  refine (TA.app_any T3.out (C_on HF0.out T3.out.fr) (fun ad e h0 hg => by have := C_blk HF0.out h0 ad e; have := T3.out.ge; omega) (by omega) (by omega) (by omega) (by simp; omega) (by omega)).mono ?_
  rintro e w4 ⟨rfl, A4, c4, ht4, hf4, -⟩
  have T4 := Aside0.mk ht4
  have R4 := Aside0.mk (show RL w4 g2 room 0 (-1) [] false from hf4.blk R3.out (fun hk => hk.elim (fun e => blk_ne R3.out T3.out.t (by decide) e) (fun e => by cases e)))
  have B4 := Aside0.mk (show Rlb w4 gl2 g2 (.slice none 0 0) from hf4.blk B3.out (fun hk => hk.elim (fun e => blk_ne B3.out T3.out.t (by decide) e) (fun e => by cases e)))
  clear ht4 hf4 T3 R3 B3
  go_wp2_with (fail)
  have TD := Aside0.mk (T4.out.no (Fr.refl No w4).drew)
  have RD := Aside0.mk (show RL w4.drew g2 room 0 (-1) [] false from R4.out)
  have BD := Aside0.mk (show Rlb w4.drew gl2 g2 (.slice none 0 0) from B4.out)
  have hq := RL.app_any RD.out (m := fb) (by omega) (by simp) (by omega)
  have hBL := apL_len false (-1) room [] fb (by simp; omega)
  generalize hsf : strOfNums fb = sf at hq ⊢
  have HSF := Aside0.mk hsf
  have HQ := Aside0.mk hq
  have CVD := Aside0.mk (show (convert 47 9 (.slice A1 fb.length c1)).run Try.prog w4.drew = .ok (.string sf) w4.drew from by rw [← hsf]; exact cv (C_on HF0.out TD.out.fr))
  clear hq hsf T4 R4 B4
  refine start_ (n := 7) (S := fun w' => w'.cell? ⟨gl2, 0, none⟩ = some (.pointer (some ⟨g2, 0, none⟩)) ∧ (convert 47 9 (.slice A1 fb.length c1)).run Try.prog w' = .ok (.string sf) w') (ds := []) #[false, false, false, false, false, false, false] (by kernel_rfl) rfl rfl ⟨BD.out.cells.1, CVD.out⟩ (fun hHeld => ?_)
  refine pure_ (i := 0) (N := some 59) (v := ?_) (a' := ?_) #[true, false, false, false, false, false, false] rfl rfl (by kernel_rfl) (fun _ _ _ h => h) (Or.inl ⟨by rfl, ?_⟩) ?_ ?_
  rotate_left
  · intro w'
    go_simp
    with_reducible rfl
  rotate_left
  · simp only [Act.put, List.setIfInBounds_toArray, List.set_cons_zero, List.set_cons_succ, i64_w, i32_w]
    rfl
  refine pure_ (i := 1) (N := some 60) (v := ?_) (a' := ?_) #[true, true, false, false, false, false, false] rfl rfl (by kernel_rfl) (fun _ _ _ h => h) (Or.inl ⟨by rfl, ?_⟩) ?_ ?_
  rotate_left
  · intro w'
    go_simp
    with_reducible rfl
  rotate_left
  · simp only [Act.put, List.setIfInBounds_toArray, List.set_cons_zero, List.set_cons_succ, i64_w, i32_w]
    rfl
  refine pure_ (i := 2) (N := some 61) (v := ?_) (a' := ?_) #[true, true, true, false, false, false, false] rfl rfl (by kernel_rfl) (fun _ _ _ h => h) (Or.inl ⟨by rfl, ?_⟩) ?_ ?_
  rotate_left
  · intro w'
    go_simp
    with_reducible rfl
  rotate_left
  · simp only [Act.put, List.setIfInBounds_toArray, List.set_cons_zero, List.set_cons_succ, i64_w, i32_w]
    rfl
  refine pure_ (i := 4) (N := some 63) (v := ?_) (a' := ?_) #[true, true, true, false, true, false, false] rfl rfl (by kernel_rfl) (fun _ _ _ h => h) (Or.inl ⟨by rfl, ?_⟩) ?_ ?_
  rotate_left
  · intro w'
    go_simp
    with_reducible rfl
  rotate_left
  · simp only [Act.put, List.setIfInBounds_toArray, List.set_cons_zero, List.set_cons_succ, i64_w, i32_w]
    rfl
  refine take_ (i := 3) (N := some 62) (v := ?_) (a' := ?_) #[true, true, true, true, true, false, false] rfl rfl (by kernel_rfl) (fun _ _ _ h => h) (Or.inl ⟨by rfl, ?_⟩) hHeld ?_ ?_
  rotate_left
  · rintro w' ⟨s0, s1⟩
    go_simp
    with_reducible rfl
  rotate_left
  · simp only [Act.put, List.setIfInBounds_toArray, List.set_cons_zero, List.set_cons_succ, i64_w, i32_w]
    rfl
  refine take_ (i := 5) (N := some 64) (v := ?_) (a' := ?_) #[true, true, true, true, true, true, false] rfl rfl (by kernel_rfl) (fun _ _ _ h => h) (Or.inl ⟨by rfl, ?_⟩) hHeld ?_ ?_
  rotate_left
  · rintro w' ⟨s0, s1⟩
    go_simp
    with_reducible rfl
  rotate_left
  · simp only [Act.put, List.setIfInBounds_toArray, List.set_cons_zero, List.set_cons_succ, i64_w, i32_w]
    rfl
  refine one_ (i := 6) (N := some 65) #[true, true, true, true, true, true, true] rfl rfl (by kernel_rfl) (by decide) (fun K hK => ?_)
  refine goes_ Try.func61 (by kernel_rfl) rfl #[.pointer (some ⟨g2, 0, none⟩), .string sf] (by rfl) rfl rfl (by simp only [List.map_toArray, List.map_cons, List.map_nil]; rfl) ?_
  with_reducible refine (HQ.out).mono ?_
  rintro e w5 ⟨rfl, hr5, hf5⟩
  refine ⟨_, rfl, ?_⟩
  have R5 := Aside0.mk hr5
  have B5 := Aside0.mk (show Rlb w5 gl2 g2 (.slice none 0 0) from hf5.blk BD.out (fun (e : gl2 = g2) => blk_ne BD.out RD.out (by decide) e))
  have T5 := Aside0.mk (TD.out.ref hf5 RD.out G2.out)
  clear hr5 hf5
  refine hK.out _ _ ⟨B5.out.cells.1, (by rw [← HSF.out]; exact cv (C_on HF0.out T5.out.fr))⟩ (fun hHeld => ?_)
  clear hK K
  refine norm_ (a' := ?_) ?_ ?_
  rotate_left
  · show Act.put _ (some 65) _ = _
    simp only [Act.put, List.setIfInBounds_toArray, List.set_cons_zero, List.set_cons_succ, i64_w, i32_w]
    rfl
  refine done_ (by kernel_rfl) ?_
  have hBY : isBytes (apL (apC false (-1) room ([] : List Int).length fb.length) [] fb) := apL_bytes (fun x hx => by cases hx) HFB.out
  have hLF : callL false (-1) ≤ 9223372036854775807 := callL_le (by omega)
  generalize apL (apC false (-1) room ([] : List Int).length fb.length) [] fb = l1 at T5 R5 hBY hBL
  generalize callL false (-1) = lf1 at T5 R5 hLF
  have HBY := Aside0.mk hBY
  have HBL := Aside0.mk (And.intro hBL.2 hLF)
  clear hBY hBL hLF TD RD BD CVD HQ HSF
  go_wp2_with (fail)
  refine (open_LG (s := 0) T5.out HBY.out HBL.out.1 (by omega) HBL.out.2).mono ?_
  rintro e w6 ⟨gl, v, rfl, hl6, hgl6, hf6⟩
  have L6 := Aside0.mk hl6
  have R6 := Aside0.mk (R5.out.far hf6 T5.out.t)
  have B6 := Aside0.mk (show Rlb w6 gl2 g2 (.slice none 0 0) from hf6.blk B5.out (fun (e : gl2 = g) => blk_ne B5.out T5.out.t (by decide) e))
  have HL1 := Aside0.mk (show l1.length ≤ 1048576 from by have := HBL.out; omega)
  clear hl6 hgl6 hf6 T5 R5 B5
  go_wp2_with (fail)
  refine (ropen_calls (w0 := w) B6.out R6.out HG2.out.1 HG2.out.2 L6.out.la.ta.fr HBY.out HL1.out).mono ?_
  rintro e w7 ⟨rfl, v2, hg7, hf7⟩
  have L7 := Aside0.mk (L6.out.off hf7 (off2 B6.out R6.out HG2.out.1 HG2.out.2))
  have G7 := Aside0.mk hg7
  clear hg7 hf7 L6 R6 B6 HL1 HBL HBY
  generalize l1.take (RS l1 0).2 = l at L7 G7
  generalize (RS l1 0).1 = o at L7 G7
  clear l1
  have LD := Aside0.mk (L7.out.no (Fr.refl No w7).drew)
  have GD := Aside0.mk (G7.out.no (Fr.refl No w7).drew)
  obtain ⟨A10, c10, e10⟩ := Kd.R_slice GD.out.r
  rw [List.length_map] at e10
  subst e10
  obtain ⟨A9, c9, e9⟩ := Kd.R_slice LD.out.la.r
  subst e9
  have HOL := Aside0.mk (show o.length ≤ 9223372036854775000 from by have := LD.out.len; omega)
  have HALL := Aside0.mk (all_calls _ gl g A9 c9 _ _ LD.out.la.lb (Kd.R_reads' LD.out.la.r).2.2 LD.out.recs)
  clear L7 G7
  go_wp2_with (fail)
  refine start_ (n := 16) (S := fun w' => w'.cell? ⟨gl2, 1, none⟩ = some (.slice A10 o.length c10)) (ds := []) #[false, false, false, false, false, false, false, false, false, false, false, false, false, false, false, false] (by kernel_rfl) rfl rfl (GD.out.rb.cells.2) (fun hHeld => ?_)
  refine pure_ (i := 0) (N := some 73) (v := ?_) (a' := ?_) #[true, false, false, false, false, false, false, false, false, false, false, false, false, false, false, false] rfl rfl (by kernel_rfl) (fun _ _ _ h => h) (Or.inl ⟨by rfl, ?_⟩) ?_ ?_
  rotate_left
  · intro w'
    go_simp
    with_reducible rfl
  rotate_left
  · simp only [Act.put, List.setIfInBounds_toArray, List.set_cons_zero, List.set_cons_succ, i64_w, i32_w]
    rfl
  refine pure_ (i := 1) (N := some 74) (v := ?_) (a' := ?_) #[true, true, false, false, false, false, false, false, false, false, false, false, false, false, false, false] rfl rfl (by kernel_rfl) (fun _ _ _ h => h) (Or.inl ⟨by rfl, ?_⟩) ?_ ?_
  rotate_left
  · intro w'
    go_simp
    with_reducible rfl
  rotate_left
  · simp only [Act.put, List.setIfInBounds_toArray, List.set_cons_zero, List.set_cons_succ, i64_w, i32_w]
    rfl
  refine pure_ (i := 2) (N := some 75) (v := ?_) (a' := ?_) #[true, true, true, false, false, false, false, false, false, false, false, false, false, false, false, false] rfl rfl (by kernel_rfl) (fun _ _ _ h => h) (Or.inl ⟨by rfl, ?_⟩) ?_ ?_
  rotate_left
  · intro w'
    go_simp
    with_reducible rfl
  rotate_left
  · simp only [Act.put, List.setIfInBounds_toArray, List.set_cons_zero, List.set_cons_succ, i64_w, i32_w]
    rfl
  refine pure_ (i := 3) (N := some 76) (v := ?_) (a' := ?_) #[true, true, true, true, false, false, false, false, false, false, false, false, false, false, false, false] rfl rfl (by kernel_rfl) (fun _ _ _ h => h) (Or.inl ⟨by rfl, ?_⟩) ?_ ?_
  rotate_left
  · intro w'
    go_simp
    with_reducible rfl
  rotate_left
  · simp only [Act.put, List.setIfInBounds_toArray, List.set_cons_zero, List.set_cons_succ, i64_w, i32_w]
    rfl
  refine pure_ (i := 4) (N := some 77) (v := ?_) (a' := ?_) #[true, true, true, true, true, false, false, false, false, false, false, false, false, false, false, false] rfl rfl (by kernel_rfl) (fun _ _ _ h => h) (Or.inl ⟨by rfl, ?_⟩) ?_ ?_
  rotate_left
  · intro w'
    go_simp
    with_reducible rfl
  rotate_left
  · simp only [Act.put, List.setIfInBounds_toArray, List.set_cons_zero, List.set_cons_succ, i64_w, i32_w]
    rfl
  refine pure_ (i := 5) (N := some 78) (v := ?_) (a' := ?_) #[true, true, true, true, true, true, false, false, false, false, false, false, false, false, false, false] rfl rfl (by kernel_rfl) (fun _ _ _ h => h) (Or.inl ⟨by rfl, ?_⟩) ?_ ?_
  rotate_left
  · intro w'
    go_simp
    with_reducible rfl
  rotate_left
  · simp only [Act.put, List.setIfInBounds_toArray, List.set_cons_zero, List.set_cons_succ, i64_w, i32_w]
    rfl
  refine pure_ (i := 6) (N := some 79) (v := ?_) (a' := ?_) #[true, true, true, true, true, true, true, false, false, false, false, false, false, false, false, false] rfl rfl (by kernel_rfl) (fun _ _ _ h => h) (Or.inl ⟨by rfl, ?_⟩) ?_ ?_
  rotate_left
  · intro w'
    go_simp
    with_reducible rfl
  rotate_left
  · simp only [Act.put, List.setIfInBounds_toArray, List.set_cons_zero, List.set_cons_succ, i64_w, i32_w]
    rfl
  refine pure_ (i := 7) (N := some 80) (v := ?_) (a' := ?_) #[true, true, true, true, true, true, true, true, false, false, false, false, false, false, false, false] rfl rfl (by kernel_rfl) (fun _ _ _ h => h) (Or.inl ⟨by rfl, ?_⟩) ?_ ?_
  rotate_left
  · intro w'
    go_simp
    with_reducible rfl
  rotate_left
  · simp only [Act.put, List.setIfInBounds_toArray, List.set_cons_zero, List.set_cons_succ, i64_w, i32_w]
    rfl
  refine pure_ (i := 9) (N := some 82) (v := ?_) (a' := ?_) #[true, true, true, true, true, true, true, true, false, true, false, false, false, false, false, false] rfl rfl (by kernel_rfl) (fun _ _ _ h => h) (Or.inl ⟨by rfl, ?_⟩) ?_ ?_
  rotate_left
  · intro w'
    go_simp
    with_reducible rfl
  rotate_left
  · simp only [Act.put, List.setIfInBounds_toArray, List.set_cons_zero, List.set_cons_succ, i64_w, i32_w]
    rfl
  refine pure_ (i := 10) (N := some 83) (v := ?_) (a' := ?_) #[true, true, true, true, true, true, true, true, false, true, true, false, false, false, false, false] rfl rfl (by kernel_rfl) (fun _ _ _ h => h) (Or.inl ⟨by rfl, ?_⟩) ?_ ?_
  rotate_left
  · intro w'
    go_simp
    with_reducible rfl
  rotate_left
  · simp only [Act.put, List.setIfInBounds_toArray, List.set_cons_zero, List.set_cons_succ, i64_w, i32_w]
    rfl
  refine pure_ (i := 11) (N := some 84) (v := ?_) (a' := ?_) #[true, true, true, true, true, true, true, true, false, true, true, true, false, false, false, false] rfl rfl (by kernel_rfl) (fun _ _ _ h => h) (Or.inl ⟨by rfl, ?_⟩) ?_ ?_
  rotate_left
  · intro w'
    go_simp
    with_reducible rfl
  rotate_left
  · simp only [Act.put, List.setIfInBounds_toArray, List.set_cons_zero, List.set_cons_succ, i64_w, i32_w]
    rfl
  refine take_ (i := 12) (N := some 85) (v := ?_) (a' := ?_) #[true, true, true, true, true, true, true, true, false, true, true, true, true, false, false, false] rfl rfl (by kernel_rfl) (fun _ _ _ h => h) (Or.inl ⟨by rfl, ?_⟩) hHeld ?_ ?_
  rotate_left
  · intro w' s0
    go_simp
    with_reducible rfl
  rotate_left
  · simp only [Act.put, List.setIfInBounds_toArray, List.set_cons_zero, List.set_cons_succ, i64_w, i32_w]
    rfl
  refine one_ (i := 8) (N := some 81) #[true, true, true, true, true, true, true, true, true, true, true, true, true, false, false, false] rfl rfl (by kernel_rfl) (by decide) (fun K hK => ?_)
  refine goes_ Try.func74 (by kernel_rfl) rfl #[.pointer (some ⟨gl, 0, none⟩)] (by rfl) rfl rfl (by simp only [List.map_toArray, List.map_cons, List.map_nil]; rfl) ?_
  with_reducible refine (HALL.out).mono ?_
  rintro e w11 ⟨v11, rfl, hr11, hf11⟩
  refine ⟨_, rfl, ?_⟩
  have L11 := Aside0.mk (LD.out.no hf11)
  have G11 := Aside0.mk (GD.out.no hf11)
  obtain ⟨A12, c12, e12⟩ := Kd.R_slice hr11
  subst e12
  have P11 := Aside0.mk (Kd.R_reads' hr11).2.2
  have S11 := Aside0.mk (show Kd.string.C w11 A10 o.length (o.map strOfNums) from by have := (Kd.R_reads' G11.out.r).2.2; rw [List.length_map] at this; exact this)
  clear hr11 hf11
  refine hK.out _ _ (G11.out.rb.cells.2) (fun hHeld => ?_)
  clear hK K
  refine norm_ (a' := ?_) ?_ ?_
  rotate_left
  · show Act.put _ (some 81) _ = _
    simp only [Act.put, List.setIfInBounds_toArray, List.set_cons_zero, List.set_cons_succ, i64_w, i32_w]
    rfl
  refine one_ (i := 13) (N := some 86) #[true, true, true, true, true, true, true, true, true, true, true, true, true, true, false, false] rfl rfl (by kernel_rfl) (by decide) (fun K hK => ?_)
  refine goes_ Try.func70 (by kernel_rfl) rfl #[.slice A12 o.length c12, .slice A10 o.length c10] (by rfl) rfl rfl (by simp only [List.map_toArray, List.map_cons, List.map_nil]; rfl) ?_
  with_reducible refine (alike_calls _ A12 c12 A10 c10 o P11.out S11.out HOL.out).mono ?_
  rintro e w12 ⟨rfl, hd⟩
  refine ⟨_, rfl, ?_⟩
  have L12 := Aside0.mk (L11.out.no (Fr.of_below hd.below No))
  have G12 := Aside0.mk (G11.out.no (Fr.of_below hd.below No))
  clear hd
  refine hK.out _ _ (G12.out.rb.cells.2) (fun hHeld => ?_)
  clear hK K
  refine norm_ (a' := ?_) ?_ ?_
  rotate_left
  · show Act.put _ (some 86) _ = _
    simp only [Act.put, List.setIfInBounds_toArray, List.set_cons_zero, List.set_cons_succ, i64_w, i32_w]
    rfl
  refine pure_ (i := 14) (N := some 87) (v := ?_) (a' := ?_) #[true, true, true, true, true, true, true, true, true, true, true, true, true, true, true, false] rfl rfl (by kernel_rfl) (fun _ _ _ h => h) (Or.inl ⟨by rfl, ?_⟩) ?_ ?_
  rotate_left
  · intro w'
    go_simp
    with_reducible rfl
  rotate_left
  · simp only [Act.put, List.setIfInBounds_toArray, List.set_cons_zero, List.set_cons_succ, i64_w, i32_w]
    rfl
  refine pure_ (i := 15) (N := some 88) (v := ?_) (a' := ?_) #[true, true, true, true, true, true, true, true, true, true, true, true, true, true, true, true] rfl rfl (by kernel_rfl) (fun _ _ _ h => h) (Or.inl ⟨by rfl, ?_⟩) ?_ ?_
  rotate_left
  · intro w'
    go_simp
    with_reducible rfl
  rotate_left
  · simp only [Act.put, List.setIfInBounds_toArray, List.set_cons_zero, List.set_cons_succ, i64_w, i32_w]
    rfl
  refine done_ (by kernel_rfl) ?_
  clear HALL HOL LD GD L11 G11 P11 S11
  go_wp2_with (fail)
  have L3 := L12
  have G3 := G12
  clear L12 G12
  go_loopg [11, 13] n (fun kq v11 v13 w' => ∃ (k gl c' : Nat) (A' : Option Addr) (v v2 : Value) (l : List Int) (o : List (List Int)) (left : Int), k + kq = n ∧ v11 = .pointer (some ⟨gl, 0, none⟩) ∧ v13 = .int .i64 k ∧ Aside0 (LG w w' gl g A' c' l room left v o) ∧ Aside0 (RG w w' gl2 g2 l room left v2 o))
  case atStart => exact ⟨0, gl, _, _, _, _, l, o, lf1, by omega, rfl, rfl, L3, G3⟩
  case round =>
    clear L3 G3
    obtain ⟨k, gl, c1, A1, v1, v2, l, o, left, hk, rfl, rfl, LL, GG⟩ := hrel
    by_cases hlt : k < n
    · obtain ⟨⟨ad, rfl, q0, q1, q2⟩, hxc, hwr, hnr⟩ := HR.out k hlt
      have p0 := pw_cell_below LL.out.la.ta.fr.no q0
      have p1 := pw_cell_below LL.out.la.ta.fr.no q1
      have p2 := pw_cell_below LL.out.la.ta.fr.no q2
      have XC := Aside0.mk hxc
      have XR := Aside0.mk (And.intro hwr hnr)
      generalize Wh k = wh at p0 XR
      generalize N k = nn at p1 XR
      generalize X k = x at p2 XC
      obtain ⟨B, cx, m⟩ := x
      rw [add_field _ _ 1 (by omega)] at p1
      rw [add_field _ _ 2 (by omega)] at p2
      dsimp only at p2 XC
      clear q0 q1 q2 hxc hwr hnr
      have hix : (0 : Int) ≤ k := by omega
      have hix2 : (k : Int) < n := by omega
      by_cases hm : 20000 < m.length
      · have hb5 : decide (20000 < m.length) = true := decide_eq_true hm
        have hb6 : decide (20000 < (m.length : Int)) = true := decide_eq_true (by omega)
        go_wp2
        go_ret
        exact ⟨rfl, LL.out.la.ta.fr.alloc _⟩
      have hb5 : decide (20000 < m.length) = false := decide_eq_false hm
      have hb6 : decide (20000 < (m.length : Int)) = false := decide_eq_false (by omega)
      go_wp2_with (fail)
      have F6 := Aside0.mk ((Fr.refl No wr).alloc (.cells #[.int .i64 wh, .int .i64 nn, .slice B m.length cx] 111))
      have X6 := Aside0.mk (show Xb3 (wr.alloc (.cells #[.int .i64 wh, .int .i64 nn, .slice B m.length cx] 111)) wr.heap.size wh nn B m.length cx from blk_new wr _)
      have L6 := Aside0.mk (LL.out.no F6.out)
      have G6 := Aside0.mk (GG.out.no F6.out)
      clear F6 LL GG p0 p1 p2
      generalize wr.alloc (.cells #[.int .i64 wh, .int .i64 nn, .slice B m.length cx] 111) = w6 at L6 G6 X6 ⊢
      generalize wr.heap.size = gx at X6 ⊢
      refine (pick08 w6 wh 5 (.inr rfl) XR.out.1.1 XR.out.1.2).mono ?_
      rintro e w7 ⟨r, hr5, rfl, rfl⟩
      obtain ⟨y0, y1, y2⟩ := X6.out.cells
      clear hb5 hb6
      obtain rfl | rfl | rfl | rfl | rfl : r = 0 ∨ r = 1 ∨ r = 2 ∨ r = 3 ∨ r = 4 := by omega
      · go_wp2_with (fail)
        have LD := Aside0.mk (L6.out.no (Fr.refl No w6).drew)
        have GD := Aside0.mk (G6.out.no (Fr.refl No w6).drew)
        have XD := Aside0.mk (show Xb3 w6.drew gx wh nn B m.length cx from X6.out)
        have CD := Aside0.mk (lapC_le left room l.length m)
        have happ := LG.app LD.out (LD.out.hbk XC.out.1) XC.out.2.1 XC.out.2.2.1
        generalize hcd : lapC left room l.length m = cd at happ CD
        have HCD := Aside0.mk hcd
        have HAPP := Aside0.mk happ
        generalize hsm : strOfNums m = sm
        have HSM := Aside0.mk hsm
        have HCVM := Aside0.mk (show ∀ W, Fr No w W → (convert 47 9 (.slice B m.length cx)).run Try.prog W = .ok (.string sm) W from fun W h => by rw [← hsm]; exact cv (C_on XC.out.1 h))
        have hcc : ((cd : Int) != cd) = false := by simp
        clear happ hcd hsm L6 G6 X6
        refine start_ (n := 11) (S := fun w' => w'.cell? ⟨gx, 2, none⟩ = some (.slice B m.length cx) ∧ (convert 47 9 (.slice B m.length cx)).run Try.prog w' = .ok (.string sm) w') (ds := []) #[false, false, false, false, false, false, false, false, false, false, false] (by kernel_rfl) rfl rfl ⟨XD.out.cells.2.2, (HCVM.out _ LD.out.la.ta.fr)⟩ (fun hHeld => ?_)
        refine pure_ (i := 0) (N := some 116) (v := ?_) (a' := ?_) #[true, false, false, false, false, false, false, false, false, false, false] rfl rfl (by kernel_rfl) (fun _ _ _ h => h) (Or.inl ⟨by rfl, ?_⟩) ?_ ?_
        rotate_left
        · intro w'
          go_simp
          with_reducible rfl
        rotate_left
        · simp only [Act.put, List.setIfInBounds_toArray, List.set_cons_zero, List.set_cons_succ, i64_w, i32_w]
          rfl
        refine pure_ (i := 1) (N := some 117) (v := ?_) (a' := ?_) #[true, true, false, false, false, false, false, false, false, false, false] rfl rfl (by kernel_rfl) (fun _ _ _ h => h) (Or.inl ⟨by rfl, ?_⟩) ?_ ?_
        rotate_left
        · intro w'
          go_simp
          with_reducible rfl
        rotate_left
        · simp only [Act.put, List.setIfInBounds_toArray, List.set_cons_zero, List.set_cons_succ, i64_w, i32_w]
          rfl
        refine pure_ (i := 5) (N := some 121) (v := ?_) (a' := ?_) #[true, true, false, false, false, true, false, false, false, false, false] rfl rfl (by kernel_rfl) (fun _ _ _ h => h) (Or.inl ⟨by rfl, ?_⟩) ?_ ?_
        rotate_left
        · intro w'
          go_simp
          with_reducible rfl
        rotate_left
        · simp only [Act.put, List.setIfInBounds_toArray, List.set_cons_zero, List.set_cons_succ, i64_w, i32_w]
          rfl
        refine pure_ (i := 6) (N := some 122) (v := ?_) (a' := ?_) #[true, true, false, false, false, true, true, false, false, false, false] rfl rfl (by kernel_rfl) (fun _ _ _ h => h) (Or.inl ⟨by rfl, ?_⟩) ?_ ?_
        rotate_left
        · intro w'
          go_simp
          with_reducible rfl
        rotate_left
        · simp only [Act.put, List.setIfInBounds_toArray, List.set_cons_zero, List.set_cons_succ, i64_w, i32_w]
          rfl
        refine take_ (i := 2) (N := some 118) (v := ?_) (a' := ?_) #[true, true, true, false, false, true, true, false, false, false, false] rfl rfl (by kernel_rfl) (fun _ _ _ h => h) (Or.inl ⟨by rfl, ?_⟩) hHeld ?_ ?_
        rotate_left
        · rintro w' ⟨s0, s1⟩
          go_simp
          with_reducible rfl
        rotate_left
        · simp only [Act.put, List.setIfInBounds_toArray, List.set_cons_zero, List.set_cons_succ, i64_w, i32_w]
          rfl
        refine take_ (i := 7) (N := some 123) (v := ?_) (a' := ?_) #[true, true, true, false, false, true, true, true, false, false, false] rfl rfl (by kernel_rfl) (fun _ _ _ h => h) (Or.inl ⟨by rfl, ?_⟩) hHeld ?_ ?_
        rotate_left
        · rintro w' ⟨s0, s1⟩
          go_simp
          with_reducible rfl
        rotate_left
        · simp only [Act.put, List.setIfInBounds_toArray, List.set_cons_zero, List.set_cons_succ, i64_w, i32_w]
          rfl
        refine take_ (i := 8) (N := some 124) (v := ?_) (a' := ?_) #[true, true, true, false, false, true, true, true, true, false, false] rfl rfl (by kernel_rfl) (fun _ _ _ h => h) (Or.inl ⟨by rfl, ?_⟩) hHeld ?_ ?_
        rotate_left
        · rintro w' ⟨s0, s1⟩
          go_simp
          with_reducible rfl
        rotate_left
        · simp only [Act.put, List.setIfInBounds_toArray, List.set_cons_zero, List.set_cons_succ, i64_w, i32_w]
          rfl
        refine one_ (i := 3) (N := some 119) #[true, true, true, true, false, true, true, true, true, false, false] rfl rfl (by kernel_rfl) (by decide) (fun K hK => ?_)
        refine goes_ Try.func73 (by kernel_rfl) rfl #[.pointer (some ⟨gl, 0, none⟩), .slice B m.length cx] (by rfl) rfl rfl (by simp only [List.map_toArray, List.map_cons, List.map_nil]; rfl) ?_
        with_reducible refine (HAPP.out).mono ?_
        rintro e w8 ⟨rfl, A8, c8, v8, hl8, hf8⟩
        refine ⟨_, rfl, ?_⟩
        have L8 := Aside0.mk hl8
        have G8 := Aside0.mk (GD.out.by_ LD.out hf8)
        have X8 := Aside0.mk (show Xb3 w8 gx wh nn B m.length cx from LD.out.blk XD.out (by decide) hf8)
        clear hl8 hf8
        refine hK.out _ _ ⟨X8.out.cells.2.2, (HCVM.out _ L8.out.la.ta.fr)⟩ (fun hHeld => ?_)
        clear hK K
        refine norm_ (a' := ?_) ?_ ?_
        rotate_left
        · show Act.put _ (some 119) _ = _
          simp only [Act.put, List.setIfInBounds_toArray, List.set_cons_zero, List.set_cons_succ, i64_w, i32_w]
          rfl
        refine one_ (i := 4) (N := some 120) #[true, true, true, true, true, true, true, true, true, false, false] rfl rfl (by kernel_rfl) (by decide) (fun K hK => ?_)
        refine goes_ Try.func51 (by kernel_rfl) rfl #[errOf cd] (by rfl) rfl rfl (by simp only [List.map_toArray, List.map_cons, List.map_nil]; rfl) ?_
        with_reducible refine (code_any _ cd CD.out).mono ?_
        rintro e w8b ⟨rfl, rfl⟩
        refine ⟨_, rfl, ?_⟩
        refine hK.out _ _ ⟨X8.out.cells.2.2, (HCVM.out _ L8.out.la.ta.fr)⟩ (fun hHeld => ?_)
        clear hK K
        refine norm_ (a' := ?_) ?_ ?_
        rotate_left
        · show Act.put _ (some 120) _ = _
          simp only [Act.put, List.setIfInBounds_toArray, List.set_cons_zero, List.set_cons_succ, i64_w, i32_w]
          rfl
        refine one_ (i := 9) (N := some 125) #[true, true, true, true, true, true, true, true, true, true, false] rfl rfl (by kernel_rfl) (by decide) (fun K hK => ?_)
        refine goes_ Try.func76 (by kernel_rfl) rfl #[.pointer (some ⟨gl2, 0, none⟩), .string sm] (by rfl) rfl rfl (by simp only [List.map_toArray, List.map_cons, List.map_nil]; rfl) ?_
        have hrapp := RG.app G8.out XC.out.2.2.1 LD.out.lf LD.out.r1 LD.out.r2 LD.out.sz
        rw [HSM.out, HCD.out] at hrapp
        have HRAPP := Aside0.mk hrapp
        clear hrapp
        with_reducible refine (HRAPP.out).mono ?_
        rintro e w9 ⟨rfl, v9, hr9, hf9⟩
        refine ⟨_, rfl, ?_⟩
        have L9 := Aside0.mk (L8.out.off hf9 G8.out.off)
        have X9 := Aside0.mk (show Xb3 w9 gx wh nn B m.length cx from G8.out.blk X8.out (by decide) hf9)
        have G9 := Aside0.mk hr9
        clear hr9 hf9 HRAPP
        refine hK.out _ _ ⟨X9.out.cells.2.2, (HCVM.out _ L9.out.la.ta.fr)⟩ (fun hHeld => ?_)
        clear hK K
        refine norm_ (a' := ?_) ?_ ?_
        rotate_left
        · show Act.put _ (some 125) _ = _
          simp only [Act.put, List.setIfInBounds_toArray, List.set_cons_zero, List.set_cons_succ, i64_w, i32_w]
          rfl
        refine pure_ (i := 10) (N := some 126) (v := ?_) (a' := ?_) #[true, true, true, true, true, true, true, true, true, true, true] rfl rfl (by kernel_rfl) (fun _ _ _ h => h) (Or.inl ⟨by rfl, ?_⟩) ?_ ?_
        rotate_left
        · intro w'
          go_simp
          with_reducible rfl
        rotate_left
        · simp only [Act.put, List.setIfInBounds_toArray, List.set_cons_zero, List.set_cons_succ, i64_w, i32_w]
          rfl
        refine done_ (by kernel_rfl) ?_
        have L10 := Aside0.mk L9.out
        have G10 := Aside0.mk G9.out
        clear L9 G9 X9 X8 L8 G8 XD LD GD HCVM HSM HAPP HCD CD y0 y1 y2
        generalize lapL cd l m = l9 at L10 G10
        generalize lapO cd o m = o9 at L10 G10
        generalize lapF left room l.length m = lf9 at L10 G10
        have hpk : ∃ (l : List Int) (o : List (List Int)) (left : Int), Aside0 (LG w w9 gl g A8 c8 l room left v8 o) ∧ Aside0 (RG w w9 gl2 g2 l room left v9 o) := ⟨l9, o9, lf9, L10, G10⟩
        clear L10 G10
        obtain ⟨l, o, left, L9, G9⟩ := hpk
        go_wp2_with (fail)
        clear hcc
        clear XC XR
        go_wp2_with (fail)
        refine (TA.read L9.out.la.ta (by have := L9.out.len; omega)).mono ?_
        rintro e w10 ⟨Ax, cx2, rfl, hrx, -, htx, hfx⟩
        have LN := Aside0.mk (L9.out.no hfx)
        have GN := Aside0.mk (G9.out.no hfx)
        clear htx hfx L9 G9
        have LD := Aside0.mk (LN.out.no (Fr.refl No w10).drew)
        have GD := Aside0.mk (GN.out.no (Fr.refl No w10).drew)
        obtain ⟨A10, c10, e10⟩ := Kd.R_slice GD.out.r
        rw [List.length_map] at e10
        subst e10
        obtain ⟨A9, c9, e9⟩ := Kd.R_slice LD.out.la.r
        subst e9
        have HOL := Aside0.mk (show o.length ≤ 9223372036854775000 from by have := LD.out.len; omega)
        have HALL := Aside0.mk (all_calls _ gl g A9 c9 _ _ LD.out.la.lb (Kd.R_reads' LD.out.la.r).2.2 LD.out.recs)
        have FRX := Aside0.mk (show Fr No w10 w10.drew from (Fr.refl No w10).drew)
        generalize hsx : strOfNums l = sx
        have XC3 := Aside0.mk (show ∀ W, RL W g2 room l.length left l false → W.cell? ⟨g2, 3, none⟩ = some (.string sx) from fun W h => by rw [← hsx]; exact h.cells.2.2.2.1)
        have CVX := Aside0.mk (show ∀ W, Fr No w10 W → (convert 47 9 (.slice Ax l.length cx2)).run Try.prog W = .ok (.string sx) W from fun W h => by rw [← hsx]; exact cv (C_on hrx h))
        have hss : (sx.toList == sx.toList) = true := by simp
        clear hrx hsx LN GN
        go_wp2_with (fail)
        refine start_ (n := 24) (S := fun w' => (convert 47 9 (.slice Ax l.length cx2)).run Try.prog w' = .ok (.string sx) w' ∧ w'.cell? ⟨gl2, 0, none⟩ = some (.pointer (some ⟨g2, 0, none⟩)) ∧ w'.cell? ⟨g2, 3, none⟩ = some (.string sx) ∧ w'.cell? ⟨gl2, 1, none⟩ = some (.slice A10 o.length c10)) (ds := []) #[false, false, false, false, false, false, false, false, false, false, false, false, false, false, false, false, false, false, false, false, false, false, false, false] (by kernel_rfl) rfl rfl ⟨(CVX.out _ FRX.out), GD.out.rb.cells.1, (XC3.out _ GD.out.rt), GD.out.rb.cells.2⟩ (fun hHeld => ?_)
        refine pure_ (i := 0) (N := some 181) (v := ?_) (a' := ?_) #[true, false, false, false, false, false, false, false, false, false, false, false, false, false, false, false, false, false, false, false, false, false, false, false] rfl rfl (by kernel_rfl) (fun _ _ _ h => h) (Or.inl ⟨by rfl, ?_⟩) ?_ ?_
        rotate_left
        · intro w'
          go_simp
          with_reducible rfl
        rotate_left
        · simp only [Act.put, List.setIfInBounds_toArray, List.set_cons_zero, List.set_cons_succ, i64_w, i32_w]
          rfl
        refine pure_ (i := 1) (N := some 182) (v := ?_) (a' := ?_) #[true, true, false, false, false, false, false, false, false, false, false, false, false, false, false, false, false, false, false, false, false, false, false, false] rfl rfl (by kernel_rfl) (fun _ _ _ h => h) (Or.inl ⟨by rfl, ?_⟩) ?_ ?_
        rotate_left
        · intro w'
          go_simp
          with_reducible rfl
        rotate_left
        · simp only [Act.put, List.setIfInBounds_toArray, List.set_cons_zero, List.set_cons_succ, i64_w, i32_w]
          rfl
        refine pure_ (i := 2) (N := some 183) (v := ?_) (a' := ?_) #[true, true, true, false, false, false, false, false, false, false, false, false, false, false, false, false, false, false, false, false, false, false, false, false] rfl rfl (by kernel_rfl) (fun _ _ _ h => h) (Or.inl ⟨by rfl, ?_⟩) ?_ ?_
        rotate_left
        · intro w'
          go_simp
          with_reducible rfl
        rotate_left
        · simp only [Act.put, List.setIfInBounds_toArray, List.set_cons_zero, List.set_cons_succ, i64_w, i32_w]
          rfl
        refine pure_ (i := 3) (N := some 184) (v := ?_) (a' := ?_) #[true, true, true, true, false, false, false, false, false, false, false, false, false, false, false, false, false, false, false, false, false, false, false, false] rfl rfl (by kernel_rfl) (fun _ _ _ h => h) (Or.inl ⟨by rfl, ?_⟩) ?_ ?_
        rotate_left
        · intro w'
          go_simp
          with_reducible rfl
        rotate_left
        · simp only [Act.put, List.setIfInBounds_toArray, List.set_cons_zero, List.set_cons_succ, i64_w, i32_w]
          rfl
        refine pure_ (i := 5) (N := some 186) (v := ?_) (a' := ?_) #[true, true, true, true, false, true, false, false, false, false, false, false, false, false, false, false, false, false, false, false, false, false, false, false] rfl rfl (by kernel_rfl) (fun _ _ _ h => h) (Or.inl ⟨by rfl, ?_⟩) ?_ ?_
        rotate_left
        · intro w'
          go_simp
          with_reducible rfl
        rotate_left
        · simp only [Act.put, List.setIfInBounds_toArray, List.set_cons_zero, List.set_cons_succ, i64_w, i32_w]
          rfl
        refine pure_ (i := 6) (N := some 187) (v := ?_) (a' := ?_) #[true, true, true, true, false, true, true, false, false, false, false, false, false, false, false, false, false, false, false, false, false, false, false, false] rfl rfl (by kernel_rfl) (fun _ _ _ h => h) (Or.inl ⟨by rfl, ?_⟩) ?_ ?_
        rotate_left
        · intro w'
          go_simp
          with_reducible rfl
        rotate_left
        · simp only [Act.put, List.setIfInBounds_toArray, List.set_cons_zero, List.set_cons_succ, i64_w, i32_w]
          rfl
        refine pure_ (i := 7) (N := some 188) (v := ?_) (a' := ?_) #[true, true, true, true, false, true, true, true, false, false, false, false, false, false, false, false, false, false, false, false, false, false, false, false] rfl rfl (by kernel_rfl) (fun _ _ _ h => h) (Or.inl ⟨by rfl, ?_⟩) ?_ ?_
        rotate_left
        · intro w'
          go_simp
          with_reducible rfl
        rotate_left
        · simp only [Act.put, List.setIfInBounds_toArray, List.set_cons_zero, List.set_cons_succ, i64_w, i32_w]
          rfl
        refine take_ (i := 4) (N := some 185) (v := ?_) (a' := ?_) #[true, true, true, true, true, true, true, true, false, false, false, false, false, false, false, false, false, false, false, false, false, false, false, false] rfl rfl (by kernel_rfl) (fun _ _ _ h => h) (Or.inl ⟨by rfl, ?_⟩) hHeld ?_ ?_
        rotate_left
        · rintro w' ⟨s0, s1, s2, s3⟩
          go_simp
          with_reducible rfl
        rotate_left
        · simp only [Act.put, List.setIfInBounds_toArray, List.set_cons_zero, List.set_cons_succ, i64_w, i32_w]
          rfl
        refine take_ (i := 8) (N := some 189) (v := ?_) (a' := ?_) #[true, true, true, true, true, true, true, true, true, false, false, false, false, false, false, false, false, false, false, false, false, false, false, false] rfl rfl (by kernel_rfl) (fun _ _ _ h => h) (Or.inl ⟨by rfl, ?_⟩) hHeld ?_ ?_
        rotate_left
        · rintro w' ⟨s0, s1, s2, s3⟩
          go_simp
          with_reducible rfl
        rotate_left
        · simp only [Act.put, List.setIfInBounds_toArray, List.set_cons_zero, List.set_cons_succ, i64_w, i32_w]
          rfl
        refine pure_ (i := 9) (N := some 190) (v := ?_) (a' := ?_) #[true, true, true, true, true, true, true, true, true, true, false, false, false, false, false, false, false, false, false, false, false, false, false, false] rfl rfl (by kernel_rfl) (fun _ _ _ h => h) (Or.inl ⟨by rfl, ?_⟩) ?_ ?_
        rotate_left
        · intro w'
          go_simp
          with_reducible rfl
        rotate_left
        · simp only [Act.put, List.setIfInBounds_toArray, List.set_cons_zero, List.set_cons_succ, i64_w, i32_w]
          rfl
        refine pure_ (i := 10) (N := some 191) (v := ?_) (a' := ?_) #[true, true, true, true, true, true, true, true, true, true, true, false, false, false, false, false, false, false, false, false, false, false, false, false] rfl rfl (by kernel_rfl) (fun _ _ _ h => h) (Or.inl ⟨by rfl, ?_⟩) ?_ ?_
        rotate_left
        · intro w'
          go_simp
          with_reducible rfl
        rotate_left
        · simp only [Act.put, List.setIfInBounds_toArray, List.set_cons_zero, List.set_cons_succ, i64_w, i32_w]
          rfl
        refine take_ (i := 11) (N := some 192) (v := ?_) (a' := ?_) #[true, true, true, true, true, true, true, true, true, true, true, true, false, false, false, false, false, false, false, false, false, false, false, false] rfl rfl (by kernel_rfl) (fun _ _ _ h => h) (Or.inl ⟨by rfl, ?_⟩) hHeld ?_ ?_
        rotate_left
        · rintro w' ⟨s0, s1, s2, s3⟩
          go_simp
          with_reducible rfl
        rotate_left
        · simp only [Act.put, List.setIfInBounds_toArray, List.set_cons_zero, List.set_cons_succ, i64_w, i32_w]
          rfl
        refine pure_ (i := 12) (N := some 193) (v := ?_) (a' := ?_) #[true, true, true, true, true, true, true, true, true, true, true, true, true, false, false, false, false, false, false, false, false, false, false, false] rfl rfl (by kernel_rfl) (fun _ _ _ h => h) (Or.inl ⟨by rfl, ?_⟩) ?_ ?_
        rotate_left
        · intro w'
          go_simp
          with_reducible rfl
        rotate_left
        · simp only [Act.put, List.setIfInBounds_toArray, List.set_cons_zero, List.set_cons_succ, i64_w, i32_w]
          rfl
        refine pure_ (i := 13) (N := some 194) (v := ?_) (a' := ?_) #[true, true, true, true, true, true, true, true, true, true, true, true, true, true, false, false, false, false, false, false, false, false, false, false] rfl rfl (by kernel_rfl) (fun _ _ _ h => h) (Or.inl ⟨by rfl, ?_⟩) ?_ ?_
        rotate_left
        · intro w'
          go_simp
          with_reducible rfl
        rotate_left
        · simp only [Act.put, List.setIfInBounds_toArray, List.set_cons_zero, List.set_cons_succ, i64_w, i32_w]
          rfl
        refine pure_ (i := 14) (N := some 195) (v := ?_) (a' := ?_) #[true, true, true, true, true, true, true, true, true, true, true, true, true, true, true, false, false, false, false, false, false, false, false, false] rfl rfl (by kernel_rfl) (fun _ _ _ h => h) (Or.inl ⟨by rfl, ?_⟩) ?_ ?_
        rotate_left
        · intro w'
          go_simp
          with_reducible rfl
        rotate_left
        · simp only [Act.put, List.setIfInBounds_toArray, List.set_cons_zero, List.set_cons_succ, i64_w, i32_w]
          rfl
        refine pure_ (i := 15) (N := some 196) (v := ?_) (a' := ?_) #[true, true, true, true, true, true, true, true, true, true, true, true, true, true, true, true, false, false, false, false, false, false, false, false] rfl rfl (by kernel_rfl) (fun _ _ _ h => h) (Or.inl ⟨by rfl, ?_⟩) ?_ ?_
        rotate_left
        · intro w'
          go_simp
          with_reducible rfl
        rotate_left
        · simp only [Act.put, List.setIfInBounds_toArray, List.set_cons_zero, List.set_cons_succ, i64_w, i32_w]
          rfl
        refine pure_ (i := 17) (N := some 198) (v := ?_) (a' := ?_) #[true, true, true, true, true, true, true, true, true, true, true, true, true, true, true, true, false, true, false, false, false, false, false, false] rfl rfl (by kernel_rfl) (fun _ _ _ h => h) (Or.inl ⟨by rfl, ?_⟩) ?_ ?_
        rotate_left
        · intro w'
          go_simp
          with_reducible rfl
        rotate_left
        · simp only [Act.put, List.setIfInBounds_toArray, List.set_cons_zero, List.set_cons_succ, i64_w, i32_w]
          rfl
        refine pure_ (i := 18) (N := some 199) (v := ?_) (a' := ?_) #[true, true, true, true, true, true, true, true, true, true, true, true, true, true, true, true, false, true, true, false, false, false, false, false] rfl rfl (by kernel_rfl) (fun _ _ _ h => h) (Or.inl ⟨by rfl, ?_⟩) ?_ ?_
        rotate_left
        · intro w'
          go_simp
          with_reducible rfl
        rotate_left
        · simp only [Act.put, List.setIfInBounds_toArray, List.set_cons_zero, List.set_cons_succ, i64_w, i32_w]
          rfl
        refine pure_ (i := 19) (N := some 200) (v := ?_) (a' := ?_) #[true, true, true, true, true, true, true, true, true, true, true, true, true, true, true, true, false, true, true, true, false, false, false, false] rfl rfl (by kernel_rfl) (fun _ _ _ h => h) (Or.inl ⟨by rfl, ?_⟩) ?_ ?_
        rotate_left
        · intro w'
          go_simp
          with_reducible rfl
        rotate_left
        · simp only [Act.put, List.setIfInBounds_toArray, List.set_cons_zero, List.set_cons_succ, i64_w, i32_w]
          rfl
        refine take_ (i := 20) (N := some 201) (v := ?_) (a' := ?_) #[true, true, true, true, true, true, true, true, true, true, true, true, true, true, true, true, false, true, true, true, true, false, false, false] rfl rfl (by kernel_rfl) (fun _ _ _ h => h) (Or.inl ⟨by rfl, ?_⟩) hHeld ?_ ?_
        rotate_left
        · rintro w' ⟨s0, s1, s2, s3⟩
          go_simp
          with_reducible rfl
        rotate_left
        · simp only [Act.put, List.setIfInBounds_toArray, List.set_cons_zero, List.set_cons_succ, i64_w, i32_w]
          rfl
        refine one_ (i := 16) (N := some 197) #[true, true, true, true, true, true, true, true, true, true, true, true, true, true, true, true, true, true, true, true, true, false, false, false] rfl rfl (by kernel_rfl) (by decide) (fun K hK => ?_)
        refine goes_ Try.func74 (by kernel_rfl) rfl #[.pointer (some ⟨gl, 0, none⟩)] (by rfl) rfl rfl (by simp only [List.map_toArray, List.map_cons, List.map_nil]; rfl) ?_
        with_reducible refine (HALL.out).mono ?_
        rintro e w11 ⟨v11, rfl, hr11, hf11⟩
        refine ⟨_, rfl, ?_⟩
        have L11 := Aside0.mk (LD.out.no hf11)
        have G11 := Aside0.mk (GD.out.no hf11)
        obtain ⟨A12, c12, e12⟩ := Kd.R_slice hr11
        subst e12
        have P11 := Aside0.mk (Kd.R_reads' hr11).2.2
        have S11 := Aside0.mk (show Kd.string.C w11 A10 o.length (o.map strOfNums) from by have := (Kd.R_reads' G11.out.r).2.2; rw [List.length_map] at this; exact this)
        have C11 := Aside0.mk (FRX.out.on hf11)
        clear hr11 hf11
        refine hK.out _ _ ⟨(CVX.out _ C11.out), G11.out.rb.cells.1, (XC3.out _ G11.out.rt), G11.out.rb.cells.2⟩ (fun hHeld => ?_)
        clear hK K
        refine norm_ (a' := ?_) ?_ ?_
        rotate_left
        · show Act.put _ (some 197) _ = _
          simp only [Act.put, List.setIfInBounds_toArray, List.set_cons_zero, List.set_cons_succ, i64_w, i32_w]
          rfl
        refine one_ (i := 21) (N := some 202) #[true, true, true, true, true, true, true, true, true, true, true, true, true, true, true, true, true, true, true, true, true, true, false, false] rfl rfl (by kernel_rfl) (by decide) (fun K hK => ?_)
        refine goes_ Try.func70 (by kernel_rfl) rfl #[.slice A12 o.length c12, .slice A10 o.length c10] (by rfl) rfl rfl (by simp only [List.map_toArray, List.map_cons, List.map_nil]; rfl) ?_
        with_reducible refine (alike_calls _ A12 c12 A10 c10 o P11.out S11.out HOL.out).mono ?_
        rintro e w12 ⟨rfl, hd⟩
        refine ⟨_, rfl, ?_⟩
        have L12 := Aside0.mk (L11.out.no (Fr.of_below hd.below No))
        have G12 := Aside0.mk (G11.out.no (Fr.of_below hd.below No))
        have C12 := Aside0.mk (C11.out.on (Fr.of_below hd.below No))
        clear hd
        refine hK.out _ _ ⟨(CVX.out _ C12.out), G12.out.rb.cells.1, (XC3.out _ G12.out.rt), G12.out.rb.cells.2⟩ (fun hHeld => ?_)
        clear hK K
        refine norm_ (a' := ?_) ?_ ?_
        rotate_left
        · show Act.put _ (some 202) _ = _
          simp only [Act.put, List.setIfInBounds_toArray, List.set_cons_zero, List.set_cons_succ, i64_w, i32_w]
          rfl
        refine pure_ (i := 22) (N := some 203) (v := ?_) (a' := ?_) #[true, true, true, true, true, true, true, true, true, true, true, true, true, true, true, true, true, true, true, true, true, true, true, false] rfl rfl (by kernel_rfl) (fun _ _ _ h => h) (Or.inl ⟨by rfl, ?_⟩) ?_ ?_
        rotate_left
        · intro w'
          go_simp
          with_reducible rfl
        rotate_left
        · simp only [Act.put, List.setIfInBounds_toArray, List.set_cons_zero, List.set_cons_succ, i64_w, i32_w]
          rfl
        refine pure_ (i := 23) (N := some 204) (v := ?_) (a' := ?_) #[true, true, true, true, true, true, true, true, true, true, true, true, true, true, true, true, true, true, true, true, true, true, true, true] rfl rfl (by kernel_rfl) (fun _ _ _ h => h) (Or.inl ⟨by rfl, ?_⟩) ?_ ?_
        rotate_left
        · intro w'
          go_simp
          with_reducible rfl
        rotate_left
        · simp only [Act.put, List.setIfInBounds_toArray, List.set_cons_zero, List.set_cons_succ, i64_w, i32_w]
          rfl
        refine done_ (by kernel_rfl) ?_
        clear hss CVX XC3 FRX C11 C12 L11 G11 P11 S11 LD GD HALL HOL
        go_wp2_with (fail)
        go_roundg (n - (k + 1))
        case measure => omega
        case rel => exact ⟨k + 1, gl, _, _, _, _, l, o, left, by omega, rfl, by go_num, L12, G12⟩
      · go_wp2_with (fail)
        have LD := Aside0.mk (L6.out.no (Fr.refl No w6).drew)
        have GD := Aside0.mk (G6.out.no (Fr.refl No w6).drew)
        have XD := Aside0.mk (show Xb3 w6.drew gx wh nn B m.length cx from X6.out)
        have CD := Aside0.mk (lapC_le left room l.length m)
        have happ := LG.app LD.out (LD.out.hbk XC.out.1) XC.out.2.1 XC.out.2.2.1
        generalize hcd : lapC left room l.length m = cd at happ CD
        have HCD := Aside0.mk hcd
        have HAPP := Aside0.mk happ
        generalize hsm : strOfNums m = sm
        have HSM := Aside0.mk hsm
        have HCVM := Aside0.mk (show ∀ W, Fr No w W → (convert 47 9 (.slice B m.length cx)).run Try.prog W = .ok (.string sm) W from fun W h => by rw [← hsm]; exact cv (C_on XC.out.1 h))
        have hcc : ((cd : Int) != cd) = false := by simp
        clear happ hcd hsm L6 G6 X6
        refine start_ (n := 11) (S := fun w' => w'.cell? ⟨gx, 2, none⟩ = some (.slice B m.length cx) ∧ (convert 47 9 (.slice B m.length cx)).run Try.prog w' = .ok (.string sm) w') (ds := []) #[false, false, false, false, false, false, false, false, false, false, false] (by kernel_rfl) rfl rfl ⟨XD.out.cells.2.2, (HCVM.out _ LD.out.la.ta.fr)⟩ (fun hHeld => ?_)
        refine pure_ (i := 0) (N := some 116) (v := ?_) (a' := ?_) #[true, false, false, false, false, false, false, false, false, false, false] rfl rfl (by kernel_rfl) (fun _ _ _ h => h) (Or.inl ⟨by rfl, ?_⟩) ?_ ?_
        rotate_left
        · intro w'
          go_simp
          with_reducible rfl
        rotate_left
        · simp only [Act.put, List.setIfInBounds_toArray, List.set_cons_zero, List.set_cons_succ, i64_w, i32_w]
          rfl
        refine pure_ (i := 1) (N := some 117) (v := ?_) (a' := ?_) #[true, true, false, false, false, false, false, false, false, false, false] rfl rfl (by kernel_rfl) (fun _ _ _ h => h) (Or.inl ⟨by rfl, ?_⟩) ?_ ?_
        rotate_left
        · intro w'
          go_simp
          with_reducible rfl
        rotate_left
        · simp only [Act.put, List.setIfInBounds_toArray, List.set_cons_zero, List.set_cons_succ, i64_w, i32_w]
          rfl
        refine pure_ (i := 5) (N := some 121) (v := ?_) (a' := ?_) #[true, true, false, false, false, true, false, false, false, false, false] rfl rfl (by kernel_rfl) (fun _ _ _ h => h) (Or.inl ⟨by rfl, ?_⟩) ?_ ?_
        rotate_left
        · intro w'
          go_simp
          with_reducible rfl
        rotate_left
        · simp only [Act.put, List.setIfInBounds_toArray, List.set_cons_zero, List.set_cons_succ, i64_w, i32_w]
          rfl
        refine pure_ (i := 6) (N := some 122) (v := ?_) (a' := ?_) #[true, true, false, false, false, true, true, false, false, false, false] rfl rfl (by kernel_rfl) (fun _ _ _ h => h) (Or.inl ⟨by rfl, ?_⟩) ?_ ?_
        rotate_left
        · intro w'
          go_simp
          with_reducible rfl
        rotate_left
        · simp only [Act.put, List.setIfInBounds_toArray, List.set_cons_zero, List.set_cons_succ, i64_w, i32_w]
          rfl
        refine take_ (i := 2) (N := some 118) (v := ?_) (a' := ?_) #[true, true, true, false, false, true, true, false, false, false, false] rfl rfl (by kernel_rfl) (fun _ _ _ h => h) (Or.inl ⟨by rfl, ?_⟩) hHeld ?_ ?_
        rotate_left
        · rintro w' ⟨s0, s1⟩
          go_simp
          with_reducible rfl
        rotate_left
        · simp only [Act.put, List.setIfInBounds_toArray, List.set_cons_zero, List.set_cons_succ, i64_w, i32_w]
          rfl
        refine take_ (i := 7) (N := some 123) (v := ?_) (a' := ?_) #[true, true, true, false, false, true, true, true, false, false, false] rfl rfl (by kernel_rfl) (fun _ _ _ h => h) (Or.inl ⟨by rfl, ?_⟩) hHeld ?_ ?_
        rotate_left
        · rintro w' ⟨s0, s1⟩
          go_simp
          with_reducible rfl
        rotate_left
        · simp only [Act.put, List.setIfInBounds_toArray, List.set_cons_zero, List.set_cons_succ, i64_w, i32_w]
          rfl
        refine take_ (i := 8) (N := some 124) (v := ?_) (a' := ?_) #[true, true, true, false, false, true, true, true, true, false, false] rfl rfl (by kernel_rfl) (fun _ _ _ h => h) (Or.inl ⟨by rfl, ?_⟩) hHeld ?_ ?_
        rotate_left
        · rintro w' ⟨s0, s1⟩
          go_simp
          with_reducible rfl
        rotate_left
        · simp only [Act.put, List.setIfInBounds_toArray, List.set_cons_zero, List.set_cons_succ, i64_w, i32_w]
          rfl
        refine one_ (i := 3) (N := some 119) #[true, true, true, true, false, true, true, true, true, false, false] rfl rfl (by kernel_rfl) (by decide) (fun K hK => ?_)
        refine goes_ Try.func73 (by kernel_rfl) rfl #[.pointer (some ⟨gl, 0, none⟩), .slice B m.length cx] (by rfl) rfl rfl (by simp only [List.map_toArray, List.map_cons, List.map_nil]; rfl) ?_
        with_reducible refine (HAPP.out).mono ?_
        rintro e w8 ⟨rfl, A8, c8, v8, hl8, hf8⟩
        refine ⟨_, rfl, ?_⟩
        have L8 := Aside0.mk hl8
        have G8 := Aside0.mk (GD.out.by_ LD.out hf8)
        have X8 := Aside0.mk (show Xb3 w8 gx wh nn B m.length cx from LD.out.blk XD.out (by decide) hf8)
        clear hl8 hf8
        refine hK.out _ _ ⟨X8.out.cells.2.2, (HCVM.out _ L8.out.la.ta.fr)⟩ (fun hHeld => ?_)
        clear hK K
        refine norm_ (a' := ?_) ?_ ?_
        rotate_left
        · show Act.put _ (some 119) _ = _
          simp only [Act.put, List.setIfInBounds_toArray, List.set_cons_zero, List.set_cons_succ, i64_w, i32_w]
          rfl
        refine one_ (i := 4) (N := some 120) #[true, true, true, true, true, true, true, true, true, false, false] rfl rfl (by kernel_rfl) (by decide) (fun K hK => ?_)
        refine goes_ Try.func51 (by kernel_rfl) rfl #[errOf cd] (by rfl) rfl rfl (by simp only [List.map_toArray, List.map_cons, List.map_nil]; rfl) ?_
        with_reducible refine (code_any _ cd CD.out).mono ?_
        rintro e w8b ⟨rfl, rfl⟩
        refine ⟨_, rfl, ?_⟩
        refine hK.out _ _ ⟨X8.out.cells.2.2, (HCVM.out _ L8.out.la.ta.fr)⟩ (fun hHeld => ?_)
        clear hK K
        refine norm_ (a' := ?_) ?_ ?_
        rotate_left
        · show Act.put _ (some 120) _ = _
          simp only [Act.put, List.setIfInBounds_toArray, List.set_cons_zero, List.set_cons_succ, i64_w, i32_w]
          rfl
        refine one_ (i := 9) (N := some 125) #[true, true, true, true, true, true, true, true, true, true, false] rfl rfl (by kernel_rfl) (by decide) (fun K hK => ?_)
        refine goes_ Try.func76 (by kernel_rfl) rfl #[.pointer (some ⟨gl2, 0, none⟩), .string sm] (by rfl) rfl rfl (by simp only [List.map_toArray, List.map_cons, List.map_nil]; rfl) ?_
        have hrapp := RG.app G8.out XC.out.2.2.1 LD.out.lf LD.out.r1 LD.out.r2 LD.out.sz
        rw [HSM.out, HCD.out] at hrapp
        have HRAPP := Aside0.mk hrapp
        clear hrapp
        with_reducible refine (HRAPP.out).mono ?_
        rintro e w9 ⟨rfl, v9, hr9, hf9⟩
        refine ⟨_, rfl, ?_⟩
        have L9 := Aside0.mk (L8.out.off hf9 G8.out.off)
        have X9 := Aside0.mk (show Xb3 w9 gx wh nn B m.length cx from G8.out.blk X8.out (by decide) hf9)
        have G9 := Aside0.mk hr9
        clear hr9 hf9 HRAPP
        refine hK.out _ _ ⟨X9.out.cells.2.2, (HCVM.out _ L9.out.la.ta.fr)⟩ (fun hHeld => ?_)
        clear hK K
        refine norm_ (a' := ?_) ?_ ?_
        rotate_left
        · show Act.put _ (some 125) _ = _
          simp only [Act.put, List.setIfInBounds_toArray, List.set_cons_zero, List.set_cons_succ, i64_w, i32_w]
          rfl
        refine pure_ (i := 10) (N := some 126) (v := ?_) (a' := ?_) #[true, true, true, true, true, true, true, true, true, true, true] rfl rfl (by kernel_rfl) (fun _ _ _ h => h) (Or.inl ⟨by rfl, ?_⟩) ?_ ?_
        rotate_left
        · intro w'
          go_simp
          with_reducible rfl
        rotate_left
        · simp only [Act.put, List.setIfInBounds_toArray, List.set_cons_zero, List.set_cons_succ, i64_w, i32_w]
          rfl
        refine done_ (by kernel_rfl) ?_
        have L10 := Aside0.mk L9.out
        have G10 := Aside0.mk G9.out
        clear L9 G9 X9 X8 L8 G8 XD LD GD HCVM HSM HAPP HCD CD y0 y1 y2
        generalize lapL cd l m = l9 at L10 G10
        generalize lapO cd o m = o9 at L10 G10
        generalize lapF left room l.length m = lf9 at L10 G10
        have hpk : ∃ (l : List Int) (o : List (List Int)) (left : Int), Aside0 (LG w w9 gl g A8 c8 l room left v8 o) ∧ Aside0 (RG w w9 gl2 g2 l room left v9 o) := ⟨l9, o9, lf9, L10, G10⟩
        clear L10 G10
        obtain ⟨l, o, left, L9, G9⟩ := hpk
        go_wp2_with (fail)
        clear hcc
        clear XC XR
        go_wp2_with (fail)
        refine (TA.read L9.out.la.ta (by have := L9.out.len; omega)).mono ?_
        rintro e w10 ⟨Ax, cx2, rfl, hrx, -, htx, hfx⟩
        have LN := Aside0.mk (L9.out.no hfx)
        have GN := Aside0.mk (G9.out.no hfx)
        clear htx hfx L9 G9
        have LD := Aside0.mk (LN.out.no (Fr.refl No w10).drew)
        have GD := Aside0.mk (GN.out.no (Fr.refl No w10).drew)
        obtain ⟨A10, c10, e10⟩ := Kd.R_slice GD.out.r
        rw [List.length_map] at e10
        subst e10
        obtain ⟨A9, c9, e9⟩ := Kd.R_slice LD.out.la.r
        subst e9
        have HOL := Aside0.mk (show o.length ≤ 9223372036854775000 from by have := LD.out.len; omega)
        have HALL := Aside0.mk (all_calls _ gl g A9 c9 _ _ LD.out.la.lb (Kd.R_reads' LD.out.la.r).2.2 LD.out.recs)
        have FRX := Aside0.mk (show Fr No w10 w10.drew from (Fr.refl No w10).drew)
        generalize hsx : strOfNums l = sx
        have XC3 := Aside0.mk (show ∀ W, RL W g2 room l.length left l false → W.cell? ⟨g2, 3, none⟩ = some (.string sx) from fun W h => by rw [← hsx]; exact h.cells.2.2.2.1)
        have CVX := Aside0.mk (show ∀ W, Fr No w10 W → (convert 47 9 (.slice Ax l.length cx2)).run Try.prog W = .ok (.string sx) W from fun W h => by rw [← hsx]; exact cv (C_on hrx h))
        have hss : (sx.toList == sx.toList) = true := by simp
        clear hrx hsx LN GN
        go_wp2_with (fail)
        refine start_ (n := 24) (S := fun w' => (convert 47 9 (.slice Ax l.length cx2)).run Try.prog w' = .ok (.string sx) w' ∧ w'.cell? ⟨gl2, 0, none⟩ = some (.pointer (some ⟨g2, 0, none⟩)) ∧ w'.cell? ⟨g2, 3, none⟩ = some (.string sx) ∧ w'.cell? ⟨gl2, 1, none⟩ = some (.slice A10 o.length c10)) (ds := []) #[false, false, false, false, false, false, false, false, false, false, false, false, false, false, false, false, false, false, false, false, false, false, false, false] (by kernel_rfl) rfl rfl ⟨(CVX.out _ FRX.out), GD.out.rb.cells.1, (XC3.out _ GD.out.rt), GD.out.rb.cells.2⟩ (fun hHeld => ?_)
        refine pure_ (i := 0) (N := some 181) (v := ?_) (a' := ?_) #[true, false, false, false, false, false, false, false, false, false, false, false, false, false, false, false, false, false, false, false, false, false, false, false] rfl rfl (by kernel_rfl) (fun _ _ _ h => h) (Or.inl ⟨by rfl, ?_⟩) ?_ ?_
        rotate_left
        · intro w'
          go_simp
          with_reducible rfl
        rotate_left
        · simp only [Act.put, List.setIfInBounds_toArray, List.set_cons_zero, List.set_cons_succ, i64_w, i32_w]
          rfl
        refine pure_ (i := 1) (N := some 182) (v := ?_) (a' := ?_) #[true, true, false, false, false, false, false, false, false, false, false, false, false, false, false, false, false, false, false, false, false, false, false, false] rfl rfl (by kernel_rfl) (fun _ _ _ h => h) (Or.inl ⟨by rfl, ?_⟩) ?_ ?_
        rotate_left
        · intro w'
          go_simp
          with_reducible rfl
        rotate_left
        · simp only [Act.put, List.setIfInBounds_toArray, List.set_cons_zero, List.set_cons_succ, i64_w, i32_w]
          rfl
        refine pure_ (i := 2) (N := some 183) (v := ?_) (a' := ?_) #[true, true, true, false, false, false, false, false, false, false, false, false, false, false, false, false, false, false, false, false, false, false, false, false] rfl rfl (by kernel_rfl) (fun _ _ _ h => h) (Or.inl ⟨by rfl, ?_⟩) ?_ ?_
        rotate_left
        · intro w'
          go_simp
          with_reducible rfl
        rotate_left
        · simp only [Act.put, List.setIfInBounds_toArray, List.set_cons_zero, List.set_cons_succ, i64_w, i32_w]
          rfl
        refine pure_ (i := 3) (N := some 184) (v := ?_) (a' := ?_) #[true, true, true, true, false, false, false, false, false, false, false, false, false, false, false, false, false, false, false, false, false, false, false, false] rfl rfl (by kernel_rfl) (fun _ _ _ h => h) (Or.inl ⟨by rfl, ?_⟩) ?_ ?_
        rotate_left
        · intro w'
          go_simp
          with_reducible rfl
        rotate_left
        · simp only [Act.put, List.setIfInBounds_toArray, List.set_cons_zero, List.set_cons_succ, i64_w, i32_w]
          rfl
        refine pure_ (i := 5) (N := some 186) (v := ?_) (a' := ?_) #[true, true, true, true, false, true, false, false, false, false, false, false, false, false, false, false, false, false, false, false, false, false, false, false] rfl rfl (by kernel_rfl) (fun _ _ _ h => h) (Or.inl ⟨by rfl, ?_⟩) ?_ ?_
        rotate_left
        · intro w'
          go_simp
          with_reducible rfl
        rotate_left
        · simp only [Act.put, List.setIfInBounds_toArray, List.set_cons_zero, List.set_cons_succ, i64_w, i32_w]
          rfl
        refine pure_ (i := 6) (N := some 187) (v := ?_) (a' := ?_) #[true, true, true, true, false, true, true, false, false, false, false, false, false, false, false, false, false, false, false, false, false, false, false, false] rfl rfl (by kernel_rfl) (fun _ _ _ h => h) (Or.inl ⟨by rfl, ?_⟩) ?_ ?_
        rotate_left
        · intro w'
          go_simp
          with_reducible rfl
        rotate_left
        · simp only [Act.put, List.setIfInBounds_toArray, List.set_cons_zero, List.set_cons_succ, i64_w, i32_w]
          rfl
        refine pure_ (i := 7) (N := some 188) (v := ?_) (a' := ?_) #[true, true, true, true, false, true, true, true, false, false, false, false, false, false, false, false, false, false, false, false, false, false, false, false] rfl rfl (by kernel_rfl) (fun _ _ _ h => h) (Or.inl ⟨by rfl, ?_⟩) ?_ ?_
        rotate_left
        · intro w'
          go_simp
          with_reducible rfl
        rotate_left
        · simp only [Act.put, List.setIfInBounds_toArray, List.set_cons_zero, List.set_cons_succ, i64_w, i32_w]
          rfl
        refine take_ (i := 4) (N := some 185) (v := ?_) (a' := ?_) #[true, true, true, true, true, true, true, true, false, false, false, false, false, false, false, false, false, false, false, false, false, false, false, false] rfl rfl (by kernel_rfl) (fun _ _ _ h => h) (Or.inl ⟨by rfl, ?_⟩) hHeld ?_ ?_
        rotate_left
        · rintro w' ⟨s0, s1, s2, s3⟩
          go_simp
          with_reducible rfl
        rotate_left
        · simp only [Act.put, List.setIfInBounds_toArray, List.set_cons_zero, List.set_cons_succ, i64_w, i32_w]
          rfl
        refine take_ (i := 8) (N := some 189) (v := ?_) (a' := ?_) #[true, true, true, true, true, true, true, true, true, false, false, false, false, false, false, false, false, false, false, false, false, false, false, false] rfl rfl (by kernel_rfl) (fun _ _ _ h => h) (Or.inl ⟨by rfl, ?_⟩) hHeld ?_ ?_
        rotate_left
        · rintro w' ⟨s0, s1, s2, s3⟩
          go_simp
          with_reducible rfl
        rotate_left
        · simp only [Act.put, List.setIfInBounds_toArray, List.set_cons_zero, List.set_cons_succ, i64_w, i32_w]
          rfl
        refine pure_ (i := 9) (N := some 190) (v := ?_) (a' := ?_) #[true, true, true, true, true, true, true, true, true, true, false, false, false, false, false, false, false, false, false, false, false, false, false, false] rfl rfl (by kernel_rfl) (fun _ _ _ h => h) (Or.inl ⟨by rfl, ?_⟩) ?_ ?_
        rotate_left
        · intro w'
          go_simp
          with_reducible rfl
        rotate_left
        · simp only [Act.put, List.setIfInBounds_toArray, List.set_cons_zero, List.set_cons_succ, i64_w, i32_w]
          rfl
        refine pure_ (i := 10) (N := some 191) (v := ?_) (a' := ?_) #[true, true, true, true, true, true, true, true, true, true, true, false, false, false, false, false, false, false, false, false, false, false, false, false] rfl rfl (by kernel_rfl) (fun _ _ _ h => h) (Or.inl ⟨by rfl, ?_⟩) ?_ ?_
        rotate_left
        · intro w'
          go_simp
          with_reducible rfl
        rotate_left
        · simp only [Act.put, List.setIfInBounds_toArray, List.set_cons_zero, List.set_cons_succ, i64_w, i32_w]
          rfl
        refine take_ (i := 11) (N := some 192) (v := ?_) (a' := ?_) #[true, true, true, true, true, true, true, true, true, true, true, true, false, false, false, false, false, false, false, false, false, false, false, false] rfl rfl (by kernel_rfl) (fun _ _ _ h => h) (Or.inl ⟨by rfl, ?_⟩) hHeld ?_ ?_
        rotate_left
        · rintro w' ⟨s0, s1, s2, s3⟩
          go_simp
          with_reducible rfl
        rotate_left
        · simp only [Act.put, List.setIfInBounds_toArray, List.set_cons_zero, List.set_cons_succ, i64_w, i32_w]
          rfl
        refine pure_ (i := 12) (N := some 193) (v := ?_) (a' := ?_) #[true, true, true, true, true, true, true, true, true, true, true, true, true, false, false, false, false, false, false, false, false, false, false, false] rfl rfl (by kernel_rfl) (fun _ _ _ h => h) (Or.inl ⟨by rfl, ?_⟩) ?_ ?_
        rotate_left
        · intro w'
          go_simp
          with_reducible rfl
        rotate_left
        · simp only [Act.put, List.setIfInBounds_toArray, List.set_cons_zero, List.set_cons_succ, i64_w, i32_w]
          rfl
        refine pure_ (i := 13) (N := some 194) (v := ?_) (a' := ?_) #[true, true, true, true, true, true, true, true, true, true, true, true, true, true, false, false, false, false, false, false, false, false, false, false] rfl rfl (by kernel_rfl) (fun _ _ _ h => h) (Or.inl ⟨by rfl, ?_⟩) ?_ ?_
        rotate_left
        · intro w'
          go_simp
          with_reducible rfl
        rotate_left
        · simp only [Act.put, List.setIfInBounds_toArray, List.set_cons_zero, List.set_cons_succ, i64_w, i32_w]
          rfl
        refine pure_ (i := 14) (N := some 195) (v := ?_) (a' := ?_) #[true, true, true, true, true, true, true, true, true, true, true, true, true, true, true, false, false, false, false, false, false, false, false, false] rfl rfl (by kernel_rfl) (fun _ _ _ h => h) (Or.inl ⟨by rfl, ?_⟩) ?_ ?_
        rotate_left
        · intro w'
          go_simp
          with_reducible rfl
        rotate_left
        · simp only [Act.put, List.setIfInBounds_toArray, List.set_cons_zero, List.set_cons_succ, i64_w, i32_w]
          rfl
        refine pure_ (i := 15) (N := some 196) (v := ?_) (a' := ?_) #[true, true, true, true, true, true, true, true, true, true, true, true, true, true, true, true, false, false, false, false, false, false, false, false] rfl rfl (by kernel_rfl) (fun _ _ _ h => h) (Or.inl ⟨by rfl, ?_⟩) ?_ ?_
        rotate_left
        · intro w'
          go_simp
          with_reducible rfl
        rotate_left
        · simp only [Act.put, List.setIfInBounds_toArray, List.set_cons_zero, List.set_cons_succ, i64_w, i32_w]
          rfl
        refine pure_ (i := 17) (N := some 198) (v := ?_) (a' := ?_) #[true, true, true, true, true, true, true, true, true, true, true, true, true, true, true, true, false, true, false, false, false, false, false, false] rfl rfl (by kernel_rfl) (fun _ _ _ h => h) (Or.inl ⟨by rfl, ?_⟩) ?_ ?_
        rotate_left
        · intro w'
          go_simp
          with_reducible rfl
        rotate_left
        · simp only [Act.put, List.setIfInBounds_toArray, List.set_cons_zero, List.set_cons_succ, i64_w, i32_w]
          rfl
        refine pure_ (i := 18) (N := some 199) (v := ?_) (a' := ?_) #[true, true, true, true, true, true, true, true, true, true, true, true, true, true, true, true, false, true, true, false, false, false, false, false] rfl rfl (by kernel_rfl) (fun _ _ _ h => h) (Or.inl ⟨by rfl, ?_⟩) ?_ ?_
        rotate_left
        · intro w'
          go_simp
          with_reducible rfl
        rotate_left
        · simp only [Act.put, List.setIfInBounds_toArray, List.set_cons_zero, List.set_cons_succ, i64_w, i32_w]
          rfl
        refine pure_ (i := 19) (N := some 200) (v := ?_) (a' := ?_) #[true, true, true, true, true, true, true, true, true, true, true, true, true, true, true, true, false, true, true, true, false, false, false, false] rfl rfl (by kernel_rfl) (fun _ _ _ h => h) (Or.inl ⟨by rfl, ?_⟩) ?_ ?_
        rotate_left
        · intro w'
          go_simp
          with_reducible rfl
        rotate_left
        · simp only [Act.put, List.setIfInBounds_toArray, List.set_cons_zero, List.set_cons_succ, i64_w, i32_w]
          rfl
        refine take_ (i := 20) (N := some 201) (v := ?_) (a' := ?_) #[true, true, true, true, true, true, true, true, true, true, true, true, true, true, true, true, false, true, true, true, true, false, false, false] rfl rfl (by kernel_rfl) (fun _ _ _ h => h) (Or.inl ⟨by rfl, ?_⟩) hHeld ?_ ?_
        rotate_left
        · rintro w' ⟨s0, s1, s2, s3⟩
          go_simp
          with_reducible rfl
        rotate_left
        · simp only [Act.put, List.setIfInBounds_toArray, List.set_cons_zero, List.set_cons_succ, i64_w, i32_w]
          rfl
        refine one_ (i := 16) (N := some 197) #[true, true, true, true, true, true, true, true, true, true, true, true, true, true, true, true, true, true, true, true, true, false, false, false] rfl rfl (by kernel_rfl) (by decide) (fun K hK => ?_)
        refine goes_ Try.func74 (by kernel_rfl) rfl #[.pointer (some ⟨gl, 0, none⟩)] (by rfl) rfl rfl (by simp only [List.map_toArray, List.map_cons, List.map_nil]; rfl) ?_
        with_reducible refine (HALL.out).mono ?_
        rintro e w11 ⟨v11, rfl, hr11, hf11⟩
        refine ⟨_, rfl, ?_⟩
        have L11 := Aside0.mk (LD.out.no hf11)
        have G11 := Aside0.mk (GD.out.no hf11)
        obtain ⟨A12, c12, e12⟩ := Kd.R_slice hr11
        subst e12
        have P11 := Aside0.mk (Kd.R_reads' hr11).2.2
        have S11 := Aside0.mk (show Kd.string.C w11 A10 o.length (o.map strOfNums) from by have := (Kd.R_reads' G11.out.r).2.2; rw [List.length_map] at this; exact this)
        have C11 := Aside0.mk (FRX.out.on hf11)
        clear hr11 hf11
        refine hK.out _ _ ⟨(CVX.out _ C11.out), G11.out.rb.cells.1, (XC3.out _ G11.out.rt), G11.out.rb.cells.2⟩ (fun hHeld => ?_)
        clear hK K
        refine norm_ (a' := ?_) ?_ ?_
        rotate_left
        · show Act.put _ (some 197) _ = _
          simp only [Act.put, List.setIfInBounds_toArray, List.set_cons_zero, List.set_cons_succ, i64_w, i32_w]
          rfl
        refine one_ (i := 21) (N := some 202) #[true, true, true, true, true, true, true, true, true, true, true, true, true, true, true, true, true, true, true, true, true, true, false, false] rfl rfl (by kernel_rfl) (by decide) (fun K hK => ?_)
        refine goes_ Try.func70 (by kernel_rfl) rfl #[.slice A12 o.length c12, .slice A10 o.length c10] (by rfl) rfl rfl (by simp only [List.map_toArray, List.map_cons, List.map_nil]; rfl) ?_
        with_reducible refine (alike_calls _ A12 c12 A10 c10 o P11.out S11.out HOL.out).mono ?_
        rintro e w12 ⟨rfl, hd⟩
        refine ⟨_, rfl, ?_⟩
        have L12 := Aside0.mk (L11.out.no (Fr.of_below hd.below No))
        have G12 := Aside0.mk (G11.out.no (Fr.of_below hd.below No))
        have C12 := Aside0.mk (C11.out.on (Fr.of_below hd.below No))
        clear hd
        refine hK.out _ _ ⟨(CVX.out _ C12.out), G12.out.rb.cells.1, (XC3.out _ G12.out.rt), G12.out.rb.cells.2⟩ (fun hHeld => ?_)
        clear hK K
        refine norm_ (a' := ?_) ?_ ?_
        rotate_left
        · show Act.put _ (some 202) _ = _
          simp only [Act.put, List.setIfInBounds_toArray, List.set_cons_zero, List.set_cons_succ, i64_w, i32_w]
          rfl
        refine pure_ (i := 22) (N := some 203) (v := ?_) (a' := ?_) #[true, true, true, true, true, true, true, true, true, true, true, true, true, true, true, true, true, true, true, true, true, true, true, false] rfl rfl (by kernel_rfl) (fun _ _ _ h => h) (Or.inl ⟨by rfl, ?_⟩) ?_ ?_
        rotate_left
        · intro w'
          go_simp
          with_reducible rfl
        rotate_left
        · simp only [Act.put, List.setIfInBounds_toArray, List.set_cons_zero, List.set_cons_succ, i64_w, i32_w]
          rfl
        refine pure_ (i := 23) (N := some 204) (v := ?_) (a' := ?_) #[true, true, true, true, true, true, true, true, true, true, true, true, true, true, true, true, true, true, true, true, true, true, true, true] rfl rfl (by kernel_rfl) (fun _ _ _ h => h) (Or.inl ⟨by rfl, ?_⟩) ?_ ?_
        rotate_left
        · intro w'
          go_simp
          with_reducible rfl
        rotate_left
        · simp only [Act.put, List.setIfInBounds_toArray, List.set_cons_zero, List.set_cons_succ, i64_w, i32_w]
          rfl
        refine done_ (by kernel_rfl) ?_
        clear hss CVX XC3 FRX C11 C12 L11 G11 P11 S11 LD GD HALL HOL
        go_wp2_with (fail)
        go_roundg (n - (k + 1))
        case measure => omega
        case rel => exact ⟨k + 1, gl, _, _, _, _, l, o, left, by omega, rfl, by go_num, L12, G12⟩
      · go_wp2_with (fail)
        refine (LG.fail L6.out nn XR.out.2.2).mono ?_
        rintro e w8 ⟨rfl, hl8, hf8⟩
        have G8 := Aside0.mk (G6.out.by_ L6.out hf8)
        have X8 := Aside0.mk (show Xb3 w8 gx wh nn B m.length cx from L6.out.blk X6.out (by decide) hf8)
        have L8 := Aside0.mk hl8
        clear hl8 hf8 L6 G6 X6 y0 y1 y2
        have GD := Aside0.mk (G8.out.no (Fr.refl No w8).drew)
        have XD := Aside0.mk (show Xb3 w8.drew gx wh nn B m.length cx from X8.out)
        have LD := Aside0.mk (L8.out.no (Fr.refl No w8).drew)
        obtain ⟨f0, f1, f2, f3, f4⟩ := (show Rf w8.drew g2 room l.length left (strOfNums l) false from GD.out.rt).free
        obtain ⟨r0, r1, r2, r3, r4⟩ := (show Rf w8.drew g2 room l.length left (strOfNums l) false from GD.out.rt).cells
        clear f0 f1 f3 f4 r0 r1 r3 r4
        go_wp2_with (fail)
        refine start_ (n := 9) (S := fun w' => w'.cell? ⟨gl2, 0, none⟩ = some (.pointer (some ⟨g2, 0, none⟩)) ∧ w'.cell? ⟨gx, 1, none⟩ = some (.int .i64 nn)) (ds := [8]) #[false, false, false, false, false, false, false, false, false] (by kernel_rfl) rfl rfl ⟨GD.out.rb.cells.1, XD.out.cells.2.1⟩ (fun hHeld => ?_)
        refine pure_ (i := 0) (N := some 133) (v := ?_) (a' := ?_) #[true, false, false, false, false, false, false, false, false] rfl rfl (by kernel_rfl) (fun _ _ _ h => h) (Or.inl ⟨by rfl, ?_⟩) ?_ ?_
        rotate_left
        · intro w'
          go_simp
          with_reducible rfl
        rotate_left
        · simp only [Act.put, List.setIfInBounds_toArray, List.set_cons_zero, List.set_cons_succ, i64_w, i32_w]
          rfl
        refine pure_ (i := 1) (N := some 134) (v := ?_) (a' := ?_) #[true, true, false, false, false, false, false, false, false] rfl rfl (by kernel_rfl) (fun _ _ _ h => h) (Or.inl ⟨by rfl, ?_⟩) ?_ ?_
        rotate_left
        · intro w'
          go_simp
          with_reducible rfl
        rotate_left
        · simp only [Act.put, List.setIfInBounds_toArray, List.set_cons_zero, List.set_cons_succ, i64_w, i32_w]
          rfl
        refine pure_ (i := 2) (N := some 135) (v := ?_) (a' := ?_) #[true, true, true, false, false, false, false, false, false] rfl rfl (by kernel_rfl) (fun _ _ _ h => h) (Or.inl ⟨by rfl, ?_⟩) ?_ ?_
        rotate_left
        · intro w'
          go_simp
          with_reducible rfl
        rotate_left
        · simp only [Act.put, List.setIfInBounds_toArray, List.set_cons_zero, List.set_cons_succ, i64_w, i32_w]
          rfl
        refine pure_ (i := 4) (N := some 137) (v := ?_) (a' := ?_) #[true, true, true, false, true, false, false, false, false] rfl rfl (by kernel_rfl) (fun _ _ _ h => h) (Or.inl ⟨by rfl, ?_⟩) ?_ ?_
        rotate_left
        · intro w'
          go_simp
          with_reducible rfl
        rotate_left
        · simp only [Act.put, List.setIfInBounds_toArray, List.set_cons_zero, List.set_cons_succ, i64_w, i32_w]
          rfl
        refine take_ (i := 3) (N := some 136) (v := ?_) (a' := ?_) #[true, true, true, true, true, false, false, false, false] rfl rfl (by kernel_rfl) (fun _ _ _ h => h) (Or.inl ⟨by rfl, ?_⟩) hHeld ?_ ?_
        rotate_left
        · rintro w' ⟨s0, s1⟩
          go_simp
          with_reducible rfl
        rotate_left
        · simp only [Act.put, List.setIfInBounds_toArray, List.set_cons_zero, List.set_cons_succ, i64_w, i32_w]
          rfl
        refine take_ (i := 5) (N := some 138) (v := ?_) (a' := ?_) #[true, true, true, true, true, true, false, false, false] rfl rfl (by kernel_rfl) (fun _ _ _ h => h) (Or.inl ⟨by rfl, ?_⟩) hHeld ?_ ?_
        rotate_left
        · rintro w' ⟨s0, s1⟩
          go_simp
          with_reducible rfl
        rotate_left
        · simp only [Act.put, List.setIfInBounds_toArray, List.set_cons_zero, List.set_cons_succ, i64_w, i32_w]
          rfl
        refine pure_ (i := 6) (N := some 139) (v := ?_) (a' := ?_) #[true, true, true, true, true, true, true, false, false] rfl rfl (by kernel_rfl) (fun _ _ _ h => h) (Or.inl ⟨by rfl, ?_⟩) ?_ ?_
        rotate_left
        · intro w'
          go_simp
          with_reducible rfl
        rotate_left
        · simp only [Act.put, List.setIfInBounds_toArray, List.set_cons_zero, List.set_cons_succ, i64_w, i32_w]
          rfl
        refine pure_ (i := 7) (N := some 140) (v := ?_) (a' := ?_) #[true, true, true, true, true, true, true, true, false] rfl rfl (by kernel_rfl) (fun _ _ _ h => h) (Or.inl ⟨by rfl, ?_⟩) ?_ ?_
        rotate_left
        · intro w'
          go_simp
          with_reducible rfl
        rotate_left
        · simp only [Act.put, List.setIfInBounds_toArray, List.set_cons_zero, List.set_cons_succ, i64_w, i32_w]
          rfl
        refine last_ (i := 8) (N := none) #[true, true, true, true, true, true, true, true, true] rfl rfl (by kernel_rfl) (by decide) (fun K hK => ?_)
        refine skip_ (w1 := ?_) (by rfl) rfl ?_ ?_
        rotate_left
        · go_simp
          rfl
        refine hK.out _ _ ?_
        clear hK K
        refine done_ (by kernel_rfl) ?_
        have hfS := ((Fr.refl (At g2) w8).setAt 2 (.int .i64 nn)).drew
        have G9 := Aside0.mk (G8.out.tape (show RL (w8.setCell ⟨g2, 2, none⟩ (.int .i64 nn)).drew g2 room l.length nn l false from G8.out.rt.set2 nn) rfl hfS)
        have L9 := Aside0.mk (L8.out.off (hfS.mono (fun q hq => .inr hq)) G8.out.off)
        have X9 := Aside0.mk (show Xb3 (w8.setCell ⟨g2, 2, none⟩ (.int .i64 nn)).drew gx wh nn B m.length cx from G8.out.blk X8.out (by decide) (hfS.mono (fun q hq => .inr hq)))
        clear hfS f2 r2
        generalize (w8.setCell ⟨g2, 2, none⟩ (.int .i64 nn)).drew = w9 at G9 L9 X9 ⊢
        clear GD LD XD X8 L8 G8
        obtain ⟨y0, y1, y2⟩ := X9.out.cells
        clear y0 y2
        by_cases hneg : nn < 0
        · have hnb : decide (nn < 0) = true := decide_eq_true hneg
          obtain ⟨f0, f1, f2, f3, f4⟩ := G9.out.rt.free
          obtain ⟨r0, r1, r2, r3, r4⟩ := G9.out.rt.cells
          obtain ⟨z0, z1⟩ := G9.out.rb.cells
          have hfS := (Fr.refl (At g2) w9).setAt 2 (.int .i64 (-1))
          have G10 := Aside0.mk (G9.out.tape (show RL _ g2 room l.length (-1) l false from G9.out.rt.set2 (-1)) rfl hfS)
          have L10 := Aside0.mk (show LG w _ gl g _ _ l room (-1) _ o from by have := L9.out.off (hfS.mono (fun q hq => .inr hq)) G9.out.off; rw [show failL nn = -1 from by unfold failL; rw [if_pos hneg]] at this; exact this)
          clear hfS f0 f1 f3 f4 r0 r1 r3 r4 z1 G9 L9 X9
          go_wp2_with (fail)
          clear y1 f2 r2 z0 hnb hneg
          generalize World.setCell _ _ _ = w10 at G10 L10 ⊢
          have hpk : ∃ left : Int, Aside0 (LG w w10 gl g _ _ l room left _ o) ∧ Aside0 (RG w w10 gl2 g2 l room left _ o) := ⟨-1, L10, G10⟩
          clear G10 L10
          obtain ⟨left, L9, G9⟩ := hpk
          clear XC XR
          go_wp2_with (fail)
          refine (TA.read L9.out.la.ta (by have := L9.out.len; omega)).mono ?_
          rintro e w10 ⟨Ax, cx2, rfl, hrx, -, htx, hfx⟩
          have LN := Aside0.mk (L9.out.no hfx)
          have GN := Aside0.mk (G9.out.no hfx)
          clear htx hfx L9 G9
          have LD := Aside0.mk (LN.out.no (Fr.refl No w10).drew)
          have GD := Aside0.mk (GN.out.no (Fr.refl No w10).drew)
          obtain ⟨A10, c10, e10⟩ := Kd.R_slice GD.out.r
          rw [List.length_map] at e10
          subst e10
          obtain ⟨A9, c9, e9⟩ := Kd.R_slice LD.out.la.r
          subst e9
          have HOL := Aside0.mk (show o.length ≤ 9223372036854775000 from by have := LD.out.len; omega)
          have HALL := Aside0.mk (all_calls _ gl g A9 c9 _ _ LD.out.la.lb (Kd.R_reads' LD.out.la.r).2.2 LD.out.recs)
          have FRX := Aside0.mk (show Fr No w10 w10.drew from (Fr.refl No w10).drew)
          generalize hsx : strOfNums l = sx
          have XC3 := Aside0.mk (show ∀ W, RL W g2 room l.length left l false → W.cell? ⟨g2, 3, none⟩ = some (.string sx) from fun W h => by rw [← hsx]; exact h.cells.2.2.2.1)
          have CVX := Aside0.mk (show ∀ W, Fr No w10 W → (convert 47 9 (.slice Ax l.length cx2)).run Try.prog W = .ok (.string sx) W from fun W h => by rw [← hsx]; exact cv (C_on hrx h))
          have hss : (sx.toList == sx.toList) = true := by simp
          clear hrx hsx LN GN
          go_wp2_with (fail)
          refine start_ (n := 24) (S := fun w' => (convert 47 9 (.slice Ax l.length cx2)).run Try.prog w' = .ok (.string sx) w' ∧ w'.cell? ⟨gl2, 0, none⟩ = some (.pointer (some ⟨g2, 0, none⟩)) ∧ w'.cell? ⟨g2, 3, none⟩ = some (.string sx) ∧ w'.cell? ⟨gl2, 1, none⟩ = some (.slice A10 o.length c10)) (ds := []) #[false, false, false, false, false, false, false, false, false, false, false, false, false, false, false, false, false, false, false, false, false, false, false, false] (by kernel_rfl) rfl rfl ⟨(CVX.out _ FRX.out), GD.out.rb.cells.1, (XC3.out _ GD.out.rt), GD.out.rb.cells.2⟩ (fun hHeld => ?_)
          refine pure_ (i := 0) (N := some 181) (v := ?_) (a' := ?_) #[true, false, false, false, false, false, false, false, false, false, false, false, false, false, false, false, false, false, false, false, false, false, false, false] rfl rfl (by kernel_rfl) (fun _ _ _ h => h) (Or.inl ⟨by rfl, ?_⟩) ?_ ?_
          rotate_left
          · intro w'
            go_simp
            with_reducible rfl
          rotate_left
          · simp only [Act.put, List.setIfInBounds_toArray, List.set_cons_zero, List.set_cons_succ, i64_w, i32_w]
            rfl
          refine pure_ (i := 1) (N := some 182) (v := ?_) (a' := ?_) #[true, true, false, false, false, false, false, false, false, false, false, false, false, false, false, false, false, false, false, false, false, false, false, false] rfl rfl (by kernel_rfl) (fun _ _ _ h => h) (Or.inl ⟨by rfl, ?_⟩) ?_ ?_
          rotate_left
          · intro w'
            go_simp
            with_reducible rfl
          rotate_left
          · simp only [Act.put, List.setIfInBounds_toArray, List.set_cons_zero, List.set_cons_succ, i64_w, i32_w]
            rfl
          refine pure_ (i := 2) (N := some 183) (v := ?_) (a' := ?_) #[true, true, true, false, false, false, false, false, false, false, false, false, false, false, false, false, false, false, false, false, false, false, false, false] rfl rfl (by kernel_rfl) (fun _ _ _ h => h) (Or.inl ⟨by rfl, ?_⟩) ?_ ?_
          rotate_left
          · intro w'
            go_simp
            with_reducible rfl
          rotate_left
          · simp only [Act.put, List.setIfInBounds_toArray, List.set_cons_zero, List.set_cons_succ, i64_w, i32_w]
            rfl
          refine pure_ (i := 3) (N := some 184) (v := ?_) (a' := ?_) #[true, true, true, true, false, false, false, false, false, false, false, false, false, false, false, false, false, false, false, false, false, false, false, false] rfl rfl (by kernel_rfl) (fun _ _ _ h => h) (Or.inl ⟨by rfl, ?_⟩) ?_ ?_
          rotate_left
          · intro w'
            go_simp
            with_reducible rfl
          rotate_left
          · simp only [Act.put, List.setIfInBounds_toArray, List.set_cons_zero, List.set_cons_succ, i64_w, i32_w]
            rfl
          refine pure_ (i := 5) (N := some 186) (v := ?_) (a' := ?_) #[true, true, true, true, false, true, false, false, false, false, false, false, false, false, false, false, false, false, false, false, false, false, false, false] rfl rfl (by kernel_rfl) (fun _ _ _ h => h) (Or.inl ⟨by rfl, ?_⟩) ?_ ?_
          rotate_left
          · intro w'
            go_simp
            with_reducible rfl
          rotate_left
          · simp only [Act.put, List.setIfInBounds_toArray, List.set_cons_zero, List.set_cons_succ, i64_w, i32_w]
            rfl
          refine pure_ (i := 6) (N := some 187) (v := ?_) (a' := ?_) #[true, true, true, true, false, true, true, false, false, false, false, false, false, false, false, false, false, false, false, false, false, false, false, false] rfl rfl (by kernel_rfl) (fun _ _ _ h => h) (Or.inl ⟨by rfl, ?_⟩) ?_ ?_
          rotate_left
          · intro w'
            go_simp
            with_reducible rfl
          rotate_left
          · simp only [Act.put, List.setIfInBounds_toArray, List.set_cons_zero, List.set_cons_succ, i64_w, i32_w]
            rfl
          refine pure_ (i := 7) (N := some 188) (v := ?_) (a' := ?_) #[true, true, true, true, false, true, true, true, false, false, false, false, false, false, false, false, false, false, false, false, false, false, false, false] rfl rfl (by kernel_rfl) (fun _ _ _ h => h) (Or.inl ⟨by rfl, ?_⟩) ?_ ?_
          rotate_left
          · intro w'
            go_simp
            with_reducible rfl
          rotate_left
          · simp only [Act.put, List.setIfInBounds_toArray, List.set_cons_zero, List.set_cons_succ, i64_w, i32_w]
            rfl
          refine take_ (i := 4) (N := some 185) (v := ?_) (a' := ?_) #[true, true, true, true, true, true, true, true, false, false, false, false, false, false, false, false, false, false, false, false, false, false, false, false] rfl rfl (by kernel_rfl) (fun _ _ _ h => h) (Or.inl ⟨by rfl, ?_⟩) hHeld ?_ ?_
          rotate_left
          · rintro w' ⟨s0, s1, s2, s3⟩
            go_simp
            with_reducible rfl
          rotate_left
          · simp only [Act.put, List.setIfInBounds_toArray, List.set_cons_zero, List.set_cons_succ, i64_w, i32_w]
            rfl
          refine take_ (i := 8) (N := some 189) (v := ?_) (a' := ?_) #[true, true, true, true, true, true, true, true, true, false, false, false, false, false, false, false, false, false, false, false, false, false, false, false] rfl rfl (by kernel_rfl) (fun _ _ _ h => h) (Or.inl ⟨by rfl, ?_⟩) hHeld ?_ ?_
          rotate_left
          · rintro w' ⟨s0, s1, s2, s3⟩
            go_simp
            with_reducible rfl
          rotate_left
          · simp only [Act.put, List.setIfInBounds_toArray, List.set_cons_zero, List.set_cons_succ, i64_w, i32_w]
            rfl
          refine pure_ (i := 9) (N := some 190) (v := ?_) (a' := ?_) #[true, true, true, true, true, true, true, true, true, true, false, false, false, false, false, false, false, false, false, false, false, false, false, false] rfl rfl (by kernel_rfl) (fun _ _ _ h => h) (Or.inl ⟨by rfl, ?_⟩) ?_ ?_
          rotate_left
          · intro w'
            go_simp
            with_reducible rfl
          rotate_left
          · simp only [Act.put, List.setIfInBounds_toArray, List.set_cons_zero, List.set_cons_succ, i64_w, i32_w]
            rfl
          refine pure_ (i := 10) (N := some 191) (v := ?_) (a' := ?_) #[true, true, true, true, true, true, true, true, true, true, true, false, false, false, false, false, false, false, false, false, false, false, false, false] rfl rfl (by kernel_rfl) (fun _ _ _ h => h) (Or.inl ⟨by rfl, ?_⟩) ?_ ?_
          rotate_left
          · intro w'
            go_simp
            with_reducible rfl
          rotate_left
          · simp only [Act.put, List.setIfInBounds_toArray, List.set_cons_zero, List.set_cons_succ, i64_w, i32_w]
            rfl
          refine take_ (i := 11) (N := some 192) (v := ?_) (a' := ?_) #[true, true, true, true, true, true, true, true, true, true, true, true, false, false, false, false, false, false, false, false, false, false, false, false] rfl rfl (by kernel_rfl) (fun _ _ _ h => h) (Or.inl ⟨by rfl, ?_⟩) hHeld ?_ ?_
          rotate_left
          · rintro w' ⟨s0, s1, s2, s3⟩
            go_simp
            with_reducible rfl
          rotate_left
          · simp only [Act.put, List.setIfInBounds_toArray, List.set_cons_zero, List.set_cons_succ, i64_w, i32_w]
            rfl
          refine pure_ (i := 12) (N := some 193) (v := ?_) (a' := ?_) #[true, true, true, true, true, true, true, true, true, true, true, true, true, false, false, false, false, false, false, false, false, false, false, false] rfl rfl (by kernel_rfl) (fun _ _ _ h => h) (Or.inl ⟨by rfl, ?_⟩) ?_ ?_
          rotate_left
          · intro w'
            go_simp
            with_reducible rfl
          rotate_left
          · simp only [Act.put, List.setIfInBounds_toArray, List.set_cons_zero, List.set_cons_succ, i64_w, i32_w]
            rfl
          refine pure_ (i := 13) (N := some 194) (v := ?_) (a' := ?_) #[true, true, true, true, true, true, true, true, true, true, true, true, true, true, false, false, false, false, false, false, false, false, false, false] rfl rfl (by kernel_rfl) (fun _ _ _ h => h) (Or.inl ⟨by rfl, ?_⟩) ?_ ?_
          rotate_left
          · intro w'
            go_simp
            with_reducible rfl
          rotate_left
          · simp only [Act.put, List.setIfInBounds_toArray, List.set_cons_zero, List.set_cons_succ, i64_w, i32_w]
            rfl
          refine pure_ (i := 14) (N := some 195) (v := ?_) (a' := ?_) #[true, true, true, true, true, true, true, true, true, true, true, true, true, true, true, false, false, false, false, false, false, false, false, false] rfl rfl (by kernel_rfl) (fun _ _ _ h => h) (Or.inl ⟨by rfl, ?_⟩) ?_ ?_
          rotate_left
          · intro w'
            go_simp
            with_reducible rfl
          rotate_left
          · simp only [Act.put, List.setIfInBounds_toArray, List.set_cons_zero, List.set_cons_succ, i64_w, i32_w]
            rfl
          refine pure_ (i := 15) (N := some 196) (v := ?_) (a' := ?_) #[true, true, true, true, true, true, true, true, true, true, true, true, true, true, true, true, false, false, false, false, false, false, false, false] rfl rfl (by kernel_rfl) (fun _ _ _ h => h) (Or.inl ⟨by rfl, ?_⟩) ?_ ?_
          rotate_left
          · intro w'
            go_simp
            with_reducible rfl
          rotate_left
          · simp only [Act.put, List.setIfInBounds_toArray, List.set_cons_zero, List.set_cons_succ, i64_w, i32_w]
            rfl
          refine pure_ (i := 17) (N := some 198) (v := ?_) (a' := ?_) #[true, true, true, true, true, true, true, true, true, true, true, true, true, true, true, true, false, true, false, false, false, false, false, false] rfl rfl (by kernel_rfl) (fun _ _ _ h => h) (Or.inl ⟨by rfl, ?_⟩) ?_ ?_
          rotate_left
          · intro w'
            go_simp
            with_reducible rfl
          rotate_left
          · simp only [Act.put, List.setIfInBounds_toArray, List.set_cons_zero, List.set_cons_succ, i64_w, i32_w]
            rfl
          refine pure_ (i := 18) (N := some 199) (v := ?_) (a' := ?_) #[true, true, true, true, true, true, true, true, true, true, true, true, true, true, true, true, false, true, true, false, false, false, false, false] rfl rfl (by kernel_rfl) (fun _ _ _ h => h) (Or.inl ⟨by rfl, ?_⟩) ?_ ?_
          rotate_left
          · intro w'
            go_simp
            with_reducible rfl
          rotate_left
          · simp only [Act.put, List.setIfInBounds_toArray, List.set_cons_zero, List.set_cons_succ, i64_w, i32_w]
            rfl
          refine pure_ (i := 19) (N := some 200) (v := ?_) (a' := ?_) #[true, true, true, true, true, true, true, true, true, true, true, true, true, true, true, true, false, true, true, true, false, false, false, false] rfl rfl (by kernel_rfl) (fun _ _ _ h => h) (Or.inl ⟨by rfl, ?_⟩) ?_ ?_
          rotate_left
          · intro w'
            go_simp
            with_reducible rfl
          rotate_left
          · simp only [Act.put, List.setIfInBounds_toArray, List.set_cons_zero, List.set_cons_succ, i64_w, i32_w]
            rfl
          refine take_ (i := 20) (N := some 201) (v := ?_) (a' := ?_) #[true, true, true, true, true, true, true, true, true, true, true, true, true, true, true, true, false, true, true, true, true, false, false, false] rfl rfl (by kernel_rfl) (fun _ _ _ h => h) (Or.inl ⟨by rfl, ?_⟩) hHeld ?_ ?_
          rotate_left
          · rintro w' ⟨s0, s1, s2, s3⟩
            go_simp
            with_reducible rfl
          rotate_left
          · simp only [Act.put, List.setIfInBounds_toArray, List.set_cons_zero, List.set_cons_succ, i64_w, i32_w]
            rfl
          refine one_ (i := 16) (N := some 197) #[true, true, true, true, true, true, true, true, true, true, true, true, true, true, true, true, true, true, true, true, true, false, false, false] rfl rfl (by kernel_rfl) (by decide) (fun K hK => ?_)
          refine goes_ Try.func74 (by kernel_rfl) rfl #[.pointer (some ⟨gl, 0, none⟩)] (by rfl) rfl rfl (by simp only [List.map_toArray, List.map_cons, List.map_nil]; rfl) ?_
          with_reducible refine (HALL.out).mono ?_
          rintro e w11 ⟨v11, rfl, hr11, hf11⟩
          refine ⟨_, rfl, ?_⟩
          have L11 := Aside0.mk (LD.out.no hf11)
          have G11 := Aside0.mk (GD.out.no hf11)
          obtain ⟨A12, c12, e12⟩ := Kd.R_slice hr11
          subst e12
          have P11 := Aside0.mk (Kd.R_reads' hr11).2.2
          have S11 := Aside0.mk (show Kd.string.C w11 A10 o.length (o.map strOfNums) from by have := (Kd.R_reads' G11.out.r).2.2; rw [List.length_map] at this; exact this)
          have C11 := Aside0.mk (FRX.out.on hf11)
          clear hr11 hf11
          refine hK.out _ _ ⟨(CVX.out _ C11.out), G11.out.rb.cells.1, (XC3.out _ G11.out.rt), G11.out.rb.cells.2⟩ (fun hHeld => ?_)
          clear hK K
          refine norm_ (a' := ?_) ?_ ?_
          rotate_left
          · show Act.put _ (some 197) _ = _
            simp only [Act.put, List.setIfInBounds_toArray, List.set_cons_zero, List.set_cons_succ, i64_w, i32_w]
            rfl
          refine one_ (i := 21) (N := some 202) #[true, true, true, true, true, true, true, true, true, true, true, true, true, true, true, true, true, true, true, true, true, true, false, false] rfl rfl (by kernel_rfl) (by decide) (fun K hK => ?_)
          refine goes_ Try.func70 (by kernel_rfl) rfl #[.slice A12 o.length c12, .slice A10 o.length c10] (by rfl) rfl rfl (by simp only [List.map_toArray, List.map_cons, List.map_nil]; rfl) ?_
          with_reducible refine (alike_calls _ A12 c12 A10 c10 o P11.out S11.out HOL.out).mono ?_
          rintro e w12 ⟨rfl, hd⟩
          refine ⟨_, rfl, ?_⟩
          have L12 := Aside0.mk (L11.out.no (Fr.of_below hd.below No))
          have G12 := Aside0.mk (G11.out.no (Fr.of_below hd.below No))
          have C12 := Aside0.mk (C11.out.on (Fr.of_below hd.below No))
          clear hd
          refine hK.out _ _ ⟨(CVX.out _ C12.out), G12.out.rb.cells.1, (XC3.out _ G12.out.rt), G12.out.rb.cells.2⟩ (fun hHeld => ?_)
          clear hK K
          refine norm_ (a' := ?_) ?_ ?_
          rotate_left
          · show Act.put _ (some 202) _ = _
            simp only [Act.put, List.setIfInBounds_toArray, List.set_cons_zero, List.set_cons_succ, i64_w, i32_w]
            rfl
          refine pure_ (i := 22) (N := some 203) (v := ?_) (a' := ?_) #[true, true, true, true, true, true, true, true, true, true, true, true, true, true, true, true, true, true, true, true, true, true, true, false] rfl rfl (by kernel_rfl) (fun _ _ _ h => h) (Or.inl ⟨by rfl, ?_⟩) ?_ ?_
          rotate_left
          · intro w'
            go_simp
            with_reducible rfl
          rotate_left
          · simp only [Act.put, List.setIfInBounds_toArray, List.set_cons_zero, List.set_cons_succ, i64_w, i32_w]
            rfl
          refine pure_ (i := 23) (N := some 204) (v := ?_) (a' := ?_) #[true, true, true, true, true, true, true, true, true, true, true, true, true, true, true, true, true, true, true, true, true, true, true, true] rfl rfl (by kernel_rfl) (fun _ _ _ h => h) (Or.inl ⟨by rfl, ?_⟩) ?_ ?_
          rotate_left
          · intro w'
            go_simp
            with_reducible rfl
          rotate_left
          · simp only [Act.put, List.setIfInBounds_toArray, List.set_cons_zero, List.set_cons_succ, i64_w, i32_w]
            rfl
          refine done_ (by kernel_rfl) ?_
          clear hss CVX XC3 FRX C11 C12 L11 G11 P11 S11 LD GD HALL HOL
          go_wp2_with (fail)
          go_roundg (n - (k + 1))
          case measure => omega
          case rel => exact ⟨k + 1, gl, _, _, _, _, l, o, left, by omega, rfl, by go_num, L12, G12⟩
        · have hnb : decide (nn < 0) = false := decide_eq_false hneg
          have L10 := Aside0.mk (show LG w _ gl g _ _ l room nn _ o from by have := L9.out; rw [show failL nn = nn from by unfold failL; rw [if_neg hneg]] at this; exact this)
          clear L9 X9
          go_wp2_with (fail)
          clear y1 hnb hneg
          have hpk : ∃ left : Int, Aside0 (LG w w9 gl g _ _ l room left _ o) ∧ Aside0 (RG w w9 gl2 g2 l room left _ o) := ⟨nn, L10, G9⟩
          clear G9 L10
          obtain ⟨left, L9, G9⟩ := hpk
          clear XC XR
          go_wp2_with (fail)
          refine (TA.read L9.out.la.ta (by have := L9.out.len; omega)).mono ?_
          rintro e w10 ⟨Ax, cx2, rfl, hrx, -, htx, hfx⟩
          have LN := Aside0.mk (L9.out.no hfx)
          have GN := Aside0.mk (G9.out.no hfx)
          clear htx hfx L9 G9
          have LD := Aside0.mk (LN.out.no (Fr.refl No w10).drew)
          have GD := Aside0.mk (GN.out.no (Fr.refl No w10).drew)
          obtain ⟨A10, c10, e10⟩ := Kd.R_slice GD.out.r
          rw [List.length_map] at e10
          subst e10
          obtain ⟨A9, c9, e9⟩ := Kd.R_slice LD.out.la.r
          subst e9
          have HOL := Aside0.mk (show o.length ≤ 9223372036854775000 from by have := LD.out.len; omega)
          have HALL := Aside0.mk (all_calls _ gl g A9 c9 _ _ LD.out.la.lb (Kd.R_reads' LD.out.la.r).2.2 LD.out.recs)
          have FRX := Aside0.mk (show Fr No w10 w10.drew from (Fr.refl No w10).drew)
          generalize hsx : strOfNums l = sx
          have XC3 := Aside0.mk (show ∀ W, RL W g2 room l.length left l false → W.cell? ⟨g2, 3, none⟩ = some (.string sx) from fun W h => by rw [← hsx]; exact h.cells.2.2.2.1)
          have CVX := Aside0.mk (show ∀ W, Fr No w10 W → (convert 47 9 (.slice Ax l.length cx2)).run Try.prog W = .ok (.string sx) W from fun W h => by rw [← hsx]; exact cv (C_on hrx h))
          have hss : (sx.toList == sx.toList) = true := by simp
          clear hrx hsx LN GN
          go_wp2_with (fail)
          refine start_ (n := 24) (S := fun w' => (convert 47 9 (.slice Ax l.length cx2)).run Try.prog w' = .ok (.string sx) w' ∧ w'.cell? ⟨gl2, 0, none⟩ = some (.pointer (some ⟨g2, 0, none⟩)) ∧ w'.cell? ⟨g2, 3, none⟩ = some (.string sx) ∧ w'.cell? ⟨gl2, 1, none⟩ = some (.slice A10 o.length c10)) (ds := []) #[false, false, false, false, false, false, false, false, false, false, false, false, false, false, false, false, false, false, false, false, false, false, false, false] (by kernel_rfl) rfl rfl ⟨(CVX.out _ FRX.out), GD.out.rb.cells.1, (XC3.out _ GD.out.rt), GD.out.rb.cells.2⟩ (fun hHeld => ?_)
          refine pure_ (i := 0) (N := some 181) (v := ?_) (a' := ?_) #[true, false, false, false, false, false, false, false, false, false, false, false, false, false, false, false, false, false, false, false, false, false, false, false] rfl rfl (by kernel_rfl) (fun _ _ _ h => h) (Or.inl ⟨by rfl, ?_⟩) ?_ ?_
          rotate_left
          · intro w'
            go_simp
            with_reducible rfl
          rotate_left
          · simp only [Act.put, List.setIfInBounds_toArray, List.set_cons_zero, List.set_cons_succ, i64_w, i32_w]
            rfl
          refine pure_ (i := 1) (N := some 182) (v := ?_) (a' := ?_) #[true, true, false, false, false, false, false, false, false, false, false, false, false, false, false, false, false, false, false, false, false, false, false, false] rfl rfl (by kernel_rfl) (fun _ _ _ h => h) (Or.inl ⟨by rfl, ?_⟩) ?_ ?_
          rotate_left
          · intro w'
            go_simp
            with_reducible rfl
          rotate_left
          · simp only [Act.put, List.setIfInBounds_toArray, List.set_cons_zero, List.set_cons_succ, i64_w, i32_w]
            rfl
          refine pure_ (i := 2) (N := some 183) (v := ?_) (a' := ?_) #[true, true, true, false, false, false, false, false, false, false, false, false, false, false, false, false, false, false, false, false, false, false, false, false] rfl rfl (by kernel_rfl) (fun _ _ _ h => h) (Or.inl ⟨by rfl, ?_⟩) ?_ ?_
          rotate_left
          · intro w'
            go_simp
            with_reducible rfl
          rotate_left
          · simp only [Act.put, List.setIfInBounds_toArray, List.set_cons_zero, List.set_cons_succ, i64_w, i32_w]
            rfl
          refine pure_ (i := 3) (N := some 184) (v := ?_) (a' := ?_) #[true, true, true, true, false, false, false, false, false, false, false, false, false, false, false, false, false, false, false, false, false, false, false, false] rfl rfl (by kernel_rfl) (fun _ _ _ h => h) (Or.inl ⟨by rfl, ?_⟩) ?_ ?_
          rotate_left
          · intro w'
            go_simp
            with_reducible rfl
          rotate_left
          · simp only [Act.put, List.setIfInBounds_toArray, List.set_cons_zero, List.set_cons_succ, i64_w, i32_w]
            rfl
          refine pure_ (i := 5) (N := some 186) (v := ?_) (a' := ?_) #[true, true, true, true, false, true, false, false, false, false, false, false, false, false, false, false, false, false, false, false, false, false, false, false] rfl rfl (by kernel_rfl) (fun _ _ _ h => h) (Or.inl ⟨by rfl, ?_⟩) ?_ ?_
          rotate_left
          · intro w'
            go_simp
            with_reducible rfl
          rotate_left
          · simp only [Act.put, List.setIfInBounds_toArray, List.set_cons_zero, List.set_cons_succ, i64_w, i32_w]
            rfl
          refine pure_ (i := 6) (N := some 187) (v := ?_) (a' := ?_) #[true, true, true, true, false, true, true, false, false, false, false, false, false, false, false, false, false, false, false, false, false, false, false, false] rfl rfl (by kernel_rfl) (fun _ _ _ h => h) (Or.inl ⟨by rfl, ?_⟩) ?_ ?_
          rotate_left
          · intro w'
            go_simp
            with_reducible rfl
          rotate_left
          · simp only [Act.put, List.setIfInBounds_toArray, List.set_cons_zero, List.set_cons_succ, i64_w, i32_w]
            rfl
          refine pure_ (i := 7) (N := some 188) (v := ?_) (a' := ?_) #[true, true, true, true, false, true, true, true, false, false, false, false, false, false, false, false, false, false, false, false, false, false, false, false] rfl rfl (by kernel_rfl) (fun _ _ _ h => h) (Or.inl ⟨by rfl, ?_⟩) ?_ ?_
          rotate_left
          · intro w'
            go_simp
            with_reducible rfl
          rotate_left
          · simp only [Act.put, List.setIfInBounds_toArray, List.set_cons_zero, List.set_cons_succ, i64_w, i32_w]
            rfl
          refine take_ (i := 4) (N := some 185) (v := ?_) (a' := ?_) #[true, true, true, true, true, true, true, true, false, false, false, false, false, false, false, false, false, false, false, false, false, false, false, false] rfl rfl (by kernel_rfl) (fun _ _ _ h => h) (Or.inl ⟨by rfl, ?_⟩) hHeld ?_ ?_
          rotate_left
          · rintro w' ⟨s0, s1, s2, s3⟩
            go_simp
            with_reducible rfl
          rotate_left
          · simp only [Act.put, List.setIfInBounds_toArray, List.set_cons_zero, List.set_cons_succ, i64_w, i32_w]
            rfl
          refine take_ (i := 8) (N := some 189) (v := ?_) (a' := ?_) #[true, true, true, true, true, true, true, true, true, false, false, false, false, false, false, false, false, false, false, false, false, false, false, false] rfl rfl (by kernel_rfl) (fun _ _ _ h => h) (Or.inl ⟨by rfl, ?_⟩) hHeld ?_ ?_
          rotate_left
          · rintro w' ⟨s0, s1, s2, s3⟩
            go_simp
            with_reducible rfl
          rotate_left
          · simp only [Act.put, List.setIfInBounds_toArray, List.set_cons_zero, List.set_cons_succ, i64_w, i32_w]
            rfl
          refine pure_ (i := 9) (N := some 190) (v := ?_) (a' := ?_) #[true, true, true, true, true, true, true, true, true, true, false, false, false, false, false, false, false, false, false, false, false, false, false, false] rfl rfl (by kernel_rfl) (fun _ _ _ h => h) (Or.inl ⟨by rfl, ?_⟩) ?_ ?_
          rotate_left
          · intro w'
            go_simp
            with_reducible rfl
          rotate_left
          · simp only [Act.put, List.setIfInBounds_toArray, List.set_cons_zero, List.set_cons_succ, i64_w, i32_w]
            rfl
          refine pure_ (i := 10) (N := some 191) (v := ?_) (a' := ?_) #[true, true, true, true, true, true, true, true, true, true, true, false, false, false, false, false, false, false, false, false, false, false, false, false] rfl rfl (by kernel_rfl) (fun _ _ _ h => h) (Or.inl ⟨by rfl, ?_⟩) ?_ ?_
          rotate_left
          · intro w'
            go_simp
            with_reducible rfl
          rotate_left
          · simp only [Act.put, List.setIfInBounds_toArray, List.set_cons_zero, List.set_cons_succ, i64_w, i32_w]
            rfl
          refine take_ (i := 11) (N := some 192) (v := ?_) (a' := ?_) #[true, true, true, true, true, true, true, true, true, true, true, true, false, false, false, false, false, false, false, false, false, false, false, false] rfl rfl (by kernel_rfl) (fun _ _ _ h => h) (Or.inl ⟨by rfl, ?_⟩) hHeld ?_ ?_
          rotate_left
          · rintro w' ⟨s0, s1, s2, s3⟩
            go_simp
            with_reducible rfl
          rotate_left
          · simp only [Act.put, List.setIfInBounds_toArray, List.set_cons_zero, List.set_cons_succ, i64_w, i32_w]
            rfl
          refine pure_ (i := 12) (N := some 193) (v := ?_) (a' := ?_) #[true, true, true, true, true, true, true, true, true, true, true, true, true, false, false, false, false, false, false, false, false, false, false, false] rfl rfl (by kernel_rfl) (fun _ _ _ h => h) (Or.inl ⟨by rfl, ?_⟩) ?_ ?_
          rotate_left
          · intro w'
            go_simp
            with_reducible rfl
          rotate_left
          · simp only [Act.put, List.setIfInBounds_toArray, List.set_cons_zero, List.set_cons_succ, i64_w, i32_w]
            rfl
          refine pure_ (i := 13) (N := some 194) (v := ?_) (a' := ?_) #[true, true, true, true, true, true, true, true, true, true, true, true, true, true, false, false, false, false, false, false, false, false, false, false] rfl rfl (by kernel_rfl) (fun _ _ _ h => h) (Or.inl ⟨by rfl, ?_⟩) ?_ ?_
          rotate_left
          · intro w'
            go_simp
            with_reducible rfl
          rotate_left
          · simp only [Act.put, List.setIfInBounds_toArray, List.set_cons_zero, List.set_cons_succ, i64_w, i32_w]
            rfl
          refine pure_ (i := 14) (N := some 195) (v := ?_) (a' := ?_) #[true, true, true, true, true, true, true, true, true, true, true, true, true, true, true, false, false, false, false, false, false, false, false, false] rfl rfl (by kernel_rfl) (fun _ _ _ h => h) (Or.inl ⟨by rfl, ?_⟩) ?_ ?_
          rotate_left
          · intro w'
            go_simp
            with_reducible rfl
          rotate_left
          · simp only [Act.put, List.setIfInBounds_toArray, List.set_cons_zero, List.set_cons_succ, i64_w, i32_w]
            rfl
          refine pure_ (i := 15) (N := some 196) (v := ?_) (a' := ?_) #[true, true, true, true, true, true, true, true, true, true, true, true, true, true, true, true, false, false, false, false, false, false, false, false] rfl rfl (by kernel_rfl) (fun _ _ _ h => h) (Or.inl ⟨by rfl, ?_⟩) ?_ ?_
          rotate_left
          · intro w'
            go_simp
            with_reducible rfl
          rotate_left
          · simp only [Act.put, List.setIfInBounds_toArray, List.set_cons_zero, List.set_cons_succ, i64_w, i32_w]
            rfl
          refine pure_ (i := 17) (N := some 198) (v := ?_) (a' := ?_) #[true, true, true, true, true, true, true, true, true, true, true, true, true, true, true, true, false, true, false, false, false, false, false, false] rfl rfl (by kernel_rfl) (fun _ _ _ h => h) (Or.inl ⟨by rfl, ?_⟩) ?_ ?_
          rotate_left
          · intro w'
            go_simp
            with_reducible rfl
          rotate_left
          · simp only [Act.put, List.setIfInBounds_toArray, List.set_cons_zero, List.set_cons_succ, i64_w, i32_w]
            rfl
          refine pure_ (i := 18) (N := some 199) (v := ?_) (a' := ?_) #[true, true, true, true, true, true, true, true, true, true, true, true, true, true, true, true, false, true, true, false, false, false, false, false] rfl rfl (by kernel_rfl) (fun _ _ _ h => h) (Or.inl ⟨by rfl, ?_⟩) ?_ ?_
          rotate_left
          · intro w'
            go_simp
            with_reducible rfl
          rotate_left
          · simp only [Act.put, List.setIfInBounds_toArray, List.set_cons_zero, List.set_cons_succ, i64_w, i32_w]
            rfl
          refine pure_ (i := 19) (N := some 200) (v := ?_) (a' := ?_) #[true, true, true, true, true, true, true, true, true, true, true, true, true, true, true, true, false, true, true, true, false, false, false, false] rfl rfl (by kernel_rfl) (fun _ _ _ h => h) (Or.inl ⟨by rfl, ?_⟩) ?_ ?_
          rotate_left
          · intro w'
            go_simp
            with_reducible rfl
          rotate_left
          · simp only [Act.put, List.setIfInBounds_toArray, List.set_cons_zero, List.set_cons_succ, i64_w, i32_w]
            rfl
          refine take_ (i := 20) (N := some 201) (v := ?_) (a' := ?_) #[true, true, true, true, true, true, true, true, true, true, true, true, true, true, true, true, false, true, true, true, true, false, false, false] rfl rfl (by kernel_rfl) (fun _ _ _ h => h) (Or.inl ⟨by rfl, ?_⟩) hHeld ?_ ?_
          rotate_left
          · rintro w' ⟨s0, s1, s2, s3⟩
            go_simp
            with_reducible rfl
          rotate_left
          · simp only [Act.put, List.setIfInBounds_toArray, List.set_cons_zero, List.set_cons_succ, i64_w, i32_w]
            rfl
          refine one_ (i := 16) (N := some 197) #[true, true, true, true, true, true, true, true, true, true, true, true, true, true, true, true, true, true, true, true, true, false, false, false] rfl rfl (by kernel_rfl) (by decide) (fun K hK => ?_)
          refine goes_ Try.func74 (by kernel_rfl) rfl #[.pointer (some ⟨gl, 0, none⟩)] (by rfl) rfl rfl (by simp only [List.map_toArray, List.map_cons, List.map_nil]; rfl) ?_
          with_reducible refine (HALL.out).mono ?_
          rintro e w11 ⟨v11, rfl, hr11, hf11⟩
          refine ⟨_, rfl, ?_⟩
          have L11 := Aside0.mk (LD.out.no hf11)
          have G11 := Aside0.mk (GD.out.no hf11)
          obtain ⟨A12, c12, e12⟩ := Kd.R_slice hr11
          subst e12
          have P11 := Aside0.mk (Kd.R_reads' hr11).2.2
          have S11 := Aside0.mk (show Kd.string.C w11 A10 o.length (o.map strOfNums) from by have := (Kd.R_reads' G11.out.r).2.2; rw [List.length_map] at this; exact this)
          have C11 := Aside0.mk (FRX.out.on hf11)
          clear hr11 hf11
          refine hK.out _ _ ⟨(CVX.out _ C11.out), G11.out.rb.cells.1, (XC3.out _ G11.out.rt), G11.out.rb.cells.2⟩ (fun hHeld => ?_)
          clear hK K
          refine norm_ (a' := ?_) ?_ ?_
          rotate_left
          · show Act.put _ (some 197) _ = _
            simp only [Act.put, List.setIfInBounds_toArray, List.set_cons_zero, List.set_cons_succ, i64_w, i32_w]
            rfl
          refine one_ (i := 21) (N := some 202) #[true, true, true, true, true, true, true, true, true, true, true, true, true, true, true, true, true, true, true, true, true, true, false, false] rfl rfl (by kernel_rfl) (by decide) (fun K hK => ?_)
          refine goes_ Try.func70 (by kernel_rfl) rfl #[.slice A12 o.length c12, .slice A10 o.length c10] (by rfl) rfl rfl (by simp only [List.map_toArray, List.map_cons, List.map_nil]; rfl) ?_
          with_reducible refine (alike_calls _ A12 c12 A10 c10 o P11.out S11.out HOL.out).mono ?_
          rintro e w12 ⟨rfl, hd⟩
          refine ⟨_, rfl, ?_⟩
          have L12 := Aside0.mk (L11.out.no (Fr.of_below hd.below No))
          have G12 := Aside0.mk (G11.out.no (Fr.of_below hd.below No))
          have C12 := Aside0.mk (C11.out.on (Fr.of_below hd.below No))
          clear hd
          refine hK.out _ _ ⟨(CVX.out _ C12.out), G12.out.rb.cells.1, (XC3.out _ G12.out.rt), G12.out.rb.cells.2⟩ (fun hHeld => ?_)
          clear hK K
          refine norm_ (a' := ?_) ?_ ?_
          rotate_left
          · show Act.put _ (some 202) _ = _
            simp only [Act.put, List.setIfInBounds_toArray, List.set_cons_zero, List.set_cons_succ, i64_w, i32_w]
            rfl
          refine pure_ (i := 22) (N := some 203) (v := ?_) (a' := ?_) #[true, true, true, true, true, true, true, true, true, true, true, true, true, true, true, true, true, true, true, true, true, true, true, false] rfl rfl (by kernel_rfl) (fun _ _ _ h => h) (Or.inl ⟨by rfl, ?_⟩) ?_ ?_
          rotate_left
          · intro w'
            go_simp
            with_reducible rfl
          rotate_left
          · simp only [Act.put, List.setIfInBounds_toArray, List.set_cons_zero, List.set_cons_succ, i64_w, i32_w]
            rfl
          refine pure_ (i := 23) (N := some 204) (v := ?_) (a' := ?_) #[true, true, true, true, true, true, true, true, true, true, true, true, true, true, true, true, true, true, true, true, true, true, true, true] rfl rfl (by kernel_rfl) (fun _ _ _ h => h) (Or.inl ⟨by rfl, ?_⟩) ?_ ?_
          rotate_left
          · intro w'
            go_simp
            with_reducible rfl
          rotate_left
          · simp only [Act.put, List.setIfInBounds_toArray, List.set_cons_zero, List.set_cons_succ, i64_w, i32_w]
            rfl
          refine done_ (by kernel_rfl) ?_
          clear hss CVX XC3 FRX C11 C12 L11 G11 P11 S11 LD GD HALL HOL
          go_wp2_with (fail)
          go_roundg (n - (k + 1))
          case measure => omega
          case rel => exact ⟨k + 1, gl, _, _, _, _, l, o, left, by omega, rfl, by go_num, L12, G12⟩
      · go_wp2_with (fail)
        refine (LG.crash L6.out nn).mono ?_
        rintro e w8 ⟨rfl, ht8, hf8⟩
        have G8 := Aside0.mk (G6.out.at_ L6.out.la.ta.t (by decide) L6.out.la.ta.ge hf8)
        have X8 := Aside0.mk (show Xb3 w8 gx wh nn B m.length cx from hf8.blk X6.out (fun (e : gx = g) => blk_ne X6.out L6.out.la.ta.t (by decide) e))
        have HLEN := Aside0.mk (show l.length ≤ 1048576 from by have := L6.out.len; omega)
        have BND := Aside0.mk (And.intro L6.out.by_ (And.intro L6.out.r1 L6.out.r2))
        have GD := Aside0.mk (G8.out.no (Fr.refl No w8).drew)
        have XD := Aside0.mk (show Xb3 w8.drew gx wh nn B m.length cx from X8.out)
        have TD := Aside0.mk (ht8.no (Fr.refl No w8).drew)
        clear ht8 hf8 L6 G6 X6 y0 y1 y2 X8 G8
        go_wp2_with (fail)
        refine start_ (n := 7) (S := fun w' => w'.cell? ⟨gl2, 0, none⟩ = some (.pointer (some ⟨g2, 0, none⟩)) ∧ w'.cell? ⟨gx, 1, none⟩ = some (.int .i64 nn)) (ds := []) #[false, false, false, false, false, false, false] (by kernel_rfl) rfl rfl ⟨GD.out.rb.cells.1, XD.out.cells.2.1⟩ (fun hHeld => ?_)
        refine pure_ (i := 0) (N := some 156) (v := ?_) (a' := ?_) #[true, false, false, false, false, false, false] rfl rfl (by kernel_rfl) (fun _ _ _ h => h) (Or.inl ⟨by rfl, ?_⟩) ?_ ?_
        rotate_left
        · intro w'
          go_simp
          with_reducible rfl
        rotate_left
        · simp only [Act.put, List.setIfInBounds_toArray, List.set_cons_zero, List.set_cons_succ, i64_w, i32_w]
          rfl
        refine pure_ (i := 1) (N := some 157) (v := ?_) (a' := ?_) #[true, true, false, false, false, false, false] rfl rfl (by kernel_rfl) (fun _ _ _ h => h) (Or.inl ⟨by rfl, ?_⟩) ?_ ?_
        rotate_left
        · intro w'
          go_simp
          with_reducible rfl
        rotate_left
        · simp only [Act.put, List.setIfInBounds_toArray, List.set_cons_zero, List.set_cons_succ, i64_w, i32_w]
          rfl
        refine pure_ (i := 2) (N := some 158) (v := ?_) (a' := ?_) #[true, true, true, false, false, false, false] rfl rfl (by kernel_rfl) (fun _ _ _ h => h) (Or.inl ⟨by rfl, ?_⟩) ?_ ?_
        rotate_left
        · intro w'
          go_simp
          with_reducible rfl
        rotate_left
        · simp only [Act.put, List.setIfInBounds_toArray, List.set_cons_zero, List.set_cons_succ, i64_w, i32_w]
          rfl
        refine pure_ (i := 4) (N := some 160) (v := ?_) (a' := ?_) #[true, true, true, false, true, false, false] rfl rfl (by kernel_rfl) (fun _ _ _ h => h) (Or.inl ⟨by rfl, ?_⟩) ?_ ?_
        rotate_left
        · intro w'
          go_simp
          with_reducible rfl
        rotate_left
        · simp only [Act.put, List.setIfInBounds_toArray, List.set_cons_zero, List.set_cons_succ, i64_w, i32_w]
          rfl
        refine take_ (i := 3) (N := some 159) (v := ?_) (a' := ?_) #[true, true, true, true, true, false, false] rfl rfl (by kernel_rfl) (fun _ _ _ h => h) (Or.inl ⟨by rfl, ?_⟩) hHeld ?_ ?_
        rotate_left
        · rintro w' ⟨s0, s1⟩
          go_simp
          with_reducible rfl
        rotate_left
        · simp only [Act.put, List.setIfInBounds_toArray, List.set_cons_zero, List.set_cons_succ, i64_w, i32_w]
          rfl
        refine take_ (i := 5) (N := some 161) (v := ?_) (a' := ?_) #[true, true, true, true, true, true, false] rfl rfl (by kernel_rfl) (fun _ _ _ h => h) (Or.inl ⟨by rfl, ?_⟩) hHeld ?_ ?_
        rotate_left
        · rintro w' ⟨s0, s1⟩
          go_simp
          with_reducible rfl
        rotate_left
        · simp only [Act.put, List.setIfInBounds_toArray, List.set_cons_zero, List.set_cons_succ, i64_w, i32_w]
          rfl
        refine one_ (i := 6) (N := some 162) #[true, true, true, true, true, true, true] rfl rfl (by kernel_rfl) (by decide) (fun K hK => ?_)
        refine goes_ Try.func66 (by kernel_rfl) rfl #[.pointer (some ⟨g2, 0, none⟩), .int .i64 nn] (by rfl) rfl rfl (by simp only [List.map_toArray, List.map_cons, List.map_nil]; rfl) ?_
        with_reducible refine (RG.crash GD.out HLEN.out nn).mono ?_
        rintro e w9 ⟨rfl, hr9, hf9⟩
        refine ⟨_, rfl, ?_⟩
        have R9 := Aside0.mk hr9
        have B9 := Aside0.mk (show Rlb w9 gl2 g2 v2 from hf9.blk GD.out.rb (fun (e : gl2 = g2) => blk_ne GD.out.rb GD.out.rt (by decide) e))
        have T9 := Aside0.mk (TD.out.ref hf9 GD.out.rt GD.out.ge2)
        have X9 := Aside0.mk (show Xb3 w9 gx wh nn B m.length cx from hf9.blk XD.out (fun (e : gx = g2) => blk_ne XD.out GD.out.rt (by decide) e))
        have F9 := Aside0.mk (GD.out.frW (hf9.mono (fun q hq => .inr hq)))
        clear hr9 hf9
        refine hK.out _ _ ⟨B9.out.cells.1, X9.out.cells.2.1⟩ (fun hHeld => ?_)
        clear hK K
        refine norm_ (a' := ?_) ?_ ?_
        rotate_left
        · show Act.put _ (some 162) _ = _
          simp only [Act.put, List.setIfInBounds_toArray, List.set_cons_zero, List.set_cons_succ, i64_w, i32_w]
          rfl
        refine done_ (by kernel_rfl) ?_
        clear GD XD TD
        go_wp2_with (fail)
        refine (open_LG T9.out BND.out.1 BND.out.2.1 BND.out.2.2 (by omega)).mono ?_
        rintro e w11 ⟨gl9, v11, rfl, hl11, hgl11, hf11⟩
        have L11 := Aside0.mk hl11
        have R11 := Aside0.mk (R9.out.far hf11 T9.out.t)
        have B11 := Aside0.mk (show Rlb w11 gl2 g2 v2 from hf11.blk B9.out (fun (e : gl2 = g) => blk_ne B9.out T9.out.t (by decide) e))
        have F11 := Aside0.mk (show Fr No w w11 from L11.out.la.ta.fr)
        clear hl11 hgl11 hf11 T9 R9 B9 X9 F9
        go_wp2_with (fail)
        refine (ropen_calls (w0 := w) B11.out R11.out HG2.out.1 HG2.out.2 F11.out BND.out.1 HLEN.out).mono ?_
        rintro e w12 ⟨rfl, v12, hg12, hf12⟩
        have L12 := Aside0.mk (L11.out.off hf12 (off2 B11.out R11.out HG2.out.1 HG2.out.2))
        have G12 := Aside0.mk hg12
        clear hg12 hf12 L11 R11 B11 F11
        have hpk : ∃ (l : List Int) (o : List (List Int)) (left : Int), Aside0 (LG w w12 gl9 g A1 c1 l room left v11 o) ∧ Aside0 (RG w w12 gl2 g2 l room left v12 o) := ⟨_, _, _, L12, G12⟩
        clear L12 G12 HLEN BND
        obtain ⟨l, o, left, L9, G9⟩ := hpk
        clear XC XR
        go_wp2_with (fail)
        refine (TA.read L9.out.la.ta (by have := L9.out.len; omega)).mono ?_
        rintro e w10 ⟨Ax, cx2, rfl, hrx, -, htx, hfx⟩
        have LN := Aside0.mk (L9.out.no hfx)
        have GN := Aside0.mk (G9.out.no hfx)
        clear htx hfx L9 G9
        have LD := Aside0.mk (LN.out.no (Fr.refl No w10).drew)
        have GD := Aside0.mk (GN.out.no (Fr.refl No w10).drew)
        obtain ⟨A10, c10, e10⟩ := Kd.R_slice GD.out.r
        rw [List.length_map] at e10
        subst e10
        obtain ⟨A9, c9, e9⟩ := Kd.R_slice LD.out.la.r
        subst e9
        have HOL := Aside0.mk (show o.length ≤ 9223372036854775000 from by have := LD.out.len; omega)
        have HALL := Aside0.mk (all_calls _ gl9 g A9 c9 _ _ LD.out.la.lb (Kd.R_reads' LD.out.la.r).2.2 LD.out.recs)
        have FRX := Aside0.mk (show Fr No w10 w10.drew from (Fr.refl No w10).drew)
        generalize hsx : strOfNums l = sx
        have XC3 := Aside0.mk (show ∀ W, RL W g2 room l.length left l false → W.cell? ⟨g2, 3, none⟩ = some (.string sx) from fun W h => by rw [← hsx]; exact h.cells.2.2.2.1)
        have CVX := Aside0.mk (show ∀ W, Fr No w10 W → (convert 47 9 (.slice Ax l.length cx2)).run Try.prog W = .ok (.string sx) W from fun W h => by rw [← hsx]; exact cv (C_on hrx h))
        have hss : (sx.toList == sx.toList) = true := by simp
        clear hrx hsx LN GN
        go_wp2_with (fail)
        refine start_ (n := 24) (S := fun w' => (convert 47 9 (.slice Ax l.length cx2)).run Try.prog w' = .ok (.string sx) w' ∧ w'.cell? ⟨gl2, 0, none⟩ = some (.pointer (some ⟨g2, 0, none⟩)) ∧ w'.cell? ⟨g2, 3, none⟩ = some (.string sx) ∧ w'.cell? ⟨gl2, 1, none⟩ = some (.slice A10 o.length c10)) (ds := []) #[false, false, false, false, false, false, false, false, false, false, false, false, false, false, false, false, false, false, false, false, false, false, false, false] (by kernel_rfl) rfl rfl ⟨(CVX.out _ FRX.out), GD.out.rb.cells.1, (XC3.out _ GD.out.rt), GD.out.rb.cells.2⟩ (fun hHeld => ?_)
        refine pure_ (i := 0) (N := some 181) (v := ?_) (a' := ?_) #[true, false, false, false, false, false, false, false, false, false, false, false, false, false, false, false, false, false, false, false, false, false, false, false] rfl rfl (by kernel_rfl) (fun _ _ _ h => h) (Or.inl ⟨by rfl, ?_⟩) ?_ ?_
        rotate_left
        · intro w'
          go_simp
          with_reducible rfl
        rotate_left
        · simp only [Act.put, List.setIfInBounds_toArray, List.set_cons_zero, List.set_cons_succ, i64_w, i32_w]
          rfl
        refine pure_ (i := 1) (N := some 182) (v := ?_) (a' := ?_) #[true, true, false, false, false, false, false, false, false, false, false, false, false, false, false, false, false, false, false, false, false, false, false, false] rfl rfl (by kernel_rfl) (fun _ _ _ h => h) (Or.inl ⟨by rfl, ?_⟩) ?_ ?_
        rotate_left
        · intro w'
          go_simp
          with_reducible rfl
        rotate_left
        · simp only [Act.put, List.setIfInBounds_toArray, List.set_cons_zero, List.set_cons_succ, i64_w, i32_w]
          rfl
        refine pure_ (i := 2) (N := some 183) (v := ?_) (a' := ?_) #[true, true, true, false, false, false, false, false, false, false, false, false, false, false, false, false, false, false, false, false, false, false, false, false] rfl rfl (by kernel_rfl) (fun _ _ _ h => h) (Or.inl ⟨by rfl, ?_⟩) ?_ ?_
        rotate_left
        · intro w'
          go_simp
          with_reducible rfl
        rotate_left
        · simp only [Act.put, List.setIfInBounds_toArray, List.set_cons_zero, List.set_cons_succ, i64_w, i32_w]
          rfl
        refine pure_ (i := 3) (N := some 184) (v := ?_) (a' := ?_) #[true, true, true, true, false, false, false, false, false, false, false, false, false, false, false, false, false, false, false, false, false, false, false, false] rfl rfl (by kernel_rfl) (fun _ _ _ h => h) (Or.inl ⟨by rfl, ?_⟩) ?_ ?_
        rotate_left
        · intro w'
          go_simp
          with_reducible rfl
        rotate_left
        · simp only [Act.put, List.setIfInBounds_toArray, List.set_cons_zero, List.set_cons_succ, i64_w, i32_w]
          rfl
        refine pure_ (i := 5) (N := some 186) (v := ?_) (a' := ?_) #[true, true, true, true, false, true, false, false, false, false, false, false, false, false, false, false, false, false, false, false, false, false, false, false] rfl rfl (by kernel_rfl) (fun _ _ _ h => h) (Or.inl ⟨by rfl, ?_⟩) ?_ ?_
        rotate_left
        · intro w'
          go_simp
          with_reducible rfl
        rotate_left
        · simp only [Act.put, List.setIfInBounds_toArray, List.set_cons_zero, List.set_cons_succ, i64_w, i32_w]
          rfl
        refine pure_ (i := 6) (N := some 187) (v := ?_) (a' := ?_) #[true, true, true, true, false, true, true, false, false, false, false, false, false, false, false, false, false, false, false, false, false, false, false, false] rfl rfl (by kernel_rfl) (fun _ _ _ h => h) (Or.inl ⟨by rfl, ?_⟩) ?_ ?_
        rotate_left
        · intro w'
          go_simp
          with_reducible rfl
        rotate_left
        · simp only [Act.put, List.setIfInBounds_toArray, List.set_cons_zero, List.set_cons_succ, i64_w, i32_w]
          rfl
        refine pure_ (i := 7) (N := some 188) (v := ?_) (a' := ?_) #[true, true, true, true, false, true, true, true, false, false, false, false, false, false, false, false, false, false, false, false, false, false, false, false] rfl rfl (by kernel_rfl) (fun _ _ _ h => h) (Or.inl ⟨by rfl, ?_⟩) ?_ ?_
        rotate_left
        · intro w'
          go_simp
          with_reducible rfl
        rotate_left
        · simp only [Act.put, List.setIfInBounds_toArray, List.set_cons_zero, List.set_cons_succ, i64_w, i32_w]
          rfl
        refine take_ (i := 4) (N := some 185) (v := ?_) (a' := ?_) #[true, true, true, true, true, true, true, true, false, false, false, false, false, false, false, false, false, false, false, false, false, false, false, false] rfl rfl (by kernel_rfl) (fun _ _ _ h => h) (Or.inl ⟨by rfl, ?_⟩) hHeld ?_ ?_
        rotate_left
        · rintro w' ⟨s0, s1, s2, s3⟩
          go_simp
          with_reducible rfl
        rotate_left
        · simp only [Act.put, List.setIfInBounds_toArray, List.set_cons_zero, List.set_cons_succ, i64_w, i32_w]
          rfl
        refine take_ (i := 8) (N := some 189) (v := ?_) (a' := ?_) #[true, true, true, true, true, true, true, true, true, false, false, false, false, false, false, false, false, false, false, false, false, false, false, false] rfl rfl (by kernel_rfl) (fun _ _ _ h => h) (Or.inl ⟨by rfl, ?_⟩) hHeld ?_ ?_
        rotate_left
        · rintro w' ⟨s0, s1, s2, s3⟩
          go_simp
          with_reducible rfl
        rotate_left
        · simp only [Act.put, List.setIfInBounds_toArray, List.set_cons_zero, List.set_cons_succ, i64_w, i32_w]
          rfl
        refine pure_ (i := 9) (N := some 190) (v := ?_) (a' := ?_) #[true, true, true, true, true, true, true, true, true, true, false, false, false, false, false, false, false, false, false, false, false, false, false, false] rfl rfl (by kernel_rfl) (fun _ _ _ h => h) (Or.inl ⟨by rfl, ?_⟩) ?_ ?_
        rotate_left
        · intro w'
          go_simp
          with_reducible rfl
        rotate_left
        · simp only [Act.put, List.setIfInBounds_toArray, List.set_cons_zero, List.set_cons_succ, i64_w, i32_w]
          rfl
        refine pure_ (i := 10) (N := some 191) (v := ?_) (a' := ?_) #[true, true, true, true, true, true, true, true, true, true, true, false, false, false, false, false, false, false, false, false, false, false, false, false] rfl rfl (by kernel_rfl) (fun _ _ _ h => h) (Or.inl ⟨by rfl, ?_⟩) ?_ ?_
        rotate_left
        · intro w'
          go_simp
          with_reducible rfl
        rotate_left
        · simp only [Act.put, List.setIfInBounds_toArray, List.set_cons_zero, List.set_cons_succ, i64_w, i32_w]
          rfl
        refine take_ (i := 11) (N := some 192) (v := ?_) (a' := ?_) #[true, true, true, true, true, true, true, true, true, true, true, true, false, false, false, false, false, false, false, false, false, false, false, false] rfl rfl (by kernel_rfl) (fun _ _ _ h => h) (Or.inl ⟨by rfl, ?_⟩) hHeld ?_ ?_
        rotate_left
        · rintro w' ⟨s0, s1, s2, s3⟩
          go_simp
          with_reducible rfl
        rotate_left
        · simp only [Act.put, List.setIfInBounds_toArray, List.set_cons_zero, List.set_cons_succ, i64_w, i32_w]
          rfl
        refine pure_ (i := 12) (N := some 193) (v := ?_) (a' := ?_) #[true, true, true, true, true, true, true, true, true, true, true, true, true, false, false, false, false, false, false, false, false, false, false, false] rfl rfl (by kernel_rfl) (fun _ _ _ h => h) (Or.inl ⟨by rfl, ?_⟩) ?_ ?_
        rotate_left
        · intro w'
          go_simp
          with_reducible rfl
        rotate_left
        · simp only [Act.put, List.setIfInBounds_toArray, List.set_cons_zero, List.set_cons_succ, i64_w, i32_w]
          rfl
        refine pure_ (i := 13) (N := some 194) (v := ?_) (a' := ?_) #[true, true, true, true, true, true, true, true, true, true, true, true, true, true, false, false, false, false, false, false, false, false, false, false] rfl rfl (by kernel_rfl) (fun _ _ _ h => h) (Or.inl ⟨by rfl, ?_⟩) ?_ ?_
        rotate_left
        · intro w'
          go_simp
          with_reducible rfl
        rotate_left
        · simp only [Act.put, List.setIfInBounds_toArray, List.set_cons_zero, List.set_cons_succ, i64_w, i32_w]
          rfl
        refine pure_ (i := 14) (N := some 195) (v := ?_) (a' := ?_) #[true, true, true, true, true, true, true, true, true, true, true, true, true, true, true, false, false, false, false, false, false, false, false, false] rfl rfl (by kernel_rfl) (fun _ _ _ h => h) (Or.inl ⟨by rfl, ?_⟩) ?_ ?_
        rotate_left
        · intro w'
          go_simp
          with_reducible rfl
        rotate_left
        · simp only [Act.put, List.setIfInBounds_toArray, List.set_cons_zero, List.set_cons_succ, i64_w, i32_w]
          rfl
        refine pure_ (i := 15) (N := some 196) (v := ?_) (a' := ?_) #[true, true, true, true, true, true, true, true, true, true, true, true, true, true, true, true, false, false, false, false, false, false, false, false] rfl rfl (by kernel_rfl) (fun _ _ _ h => h) (Or.inl ⟨by rfl, ?_⟩) ?_ ?_
        rotate_left
        · intro w'
          go_simp
          with_reducible rfl
        rotate_left
        · simp only [Act.put, List.setIfInBounds_toArray, List.set_cons_zero, List.set_cons_succ, i64_w, i32_w]
          rfl
        refine pure_ (i := 17) (N := some 198) (v := ?_) (a' := ?_) #[true, true, true, true, true, true, true, true, true, true, true, true, true, true, true, true, false, true, false, false, false, false, false, false] rfl rfl (by kernel_rfl) (fun _ _ _ h => h) (Or.inl ⟨by rfl, ?_⟩) ?_ ?_
        rotate_left
        · intro w'
          go_simp
          with_reducible rfl
        rotate_left
        · simp only [Act.put, List.setIfInBounds_toArray, List.set_cons_zero, List.set_cons_succ, i64_w, i32_w]
          rfl
        refine pure_ (i := 18) (N := some 199) (v := ?_) (a' := ?_) #[true, true, true, true, true, true, true, true, true, true, true, true, true, true, true, true, false, true, true, false, false, false, false, false] rfl rfl (by kernel_rfl) (fun _ _ _ h => h) (Or.inl ⟨by rfl, ?_⟩) ?_ ?_
        rotate_left
        · intro w'
          go_simp
          with_reducible rfl
        rotate_left
        · simp only [Act.put, List.setIfInBounds_toArray, List.set_cons_zero, List.set_cons_succ, i64_w, i32_w]
          rfl
        refine pure_ (i := 19) (N := some 200) (v := ?_) (a' := ?_) #[true, true, true, true, true, true, true, true, true, true, true, true, true, true, true, true, false, true, true, true, false, false, false, false] rfl rfl (by kernel_rfl) (fun _ _ _ h => h) (Or.inl ⟨by rfl, ?_⟩) ?_ ?_
        rotate_left
        · intro w'
          go_simp
          with_reducible rfl
        rotate_left
        · simp only [Act.put, List.setIfInBounds_toArray, List.set_cons_zero, List.set_cons_succ, i64_w, i32_w]
          rfl
        refine take_ (i := 20) (N := some 201) (v := ?_) (a' := ?_) #[true, true, true, true, true, true, true, true, true, true, true, true, true, true, true, true, false, true, true, true, true, false, false, false] rfl rfl (by kernel_rfl) (fun _ _ _ h => h) (Or.inl ⟨by rfl, ?_⟩) hHeld ?_ ?_
        rotate_left
        · rintro w' ⟨s0, s1, s2, s3⟩
          go_simp
          with_reducible rfl
        rotate_left
        · simp only [Act.put, List.setIfInBounds_toArray, List.set_cons_zero, List.set_cons_succ, i64_w, i32_w]
          rfl
        refine one_ (i := 16) (N := some 197) #[true, true, true, true, true, true, true, true, true, true, true, true, true, true, true, true, true, true, true, true, true, false, false, false] rfl rfl (by kernel_rfl) (by decide) (fun K hK => ?_)
        refine goes_ Try.func74 (by kernel_rfl) rfl #[.pointer (some ⟨gl9, 0, none⟩)] (by rfl) rfl rfl (by simp only [List.map_toArray, List.map_cons, List.map_nil]; rfl) ?_
        with_reducible refine (HALL.out).mono ?_
        rintro e w11 ⟨v11, rfl, hr11, hf11⟩
        refine ⟨_, rfl, ?_⟩
        have L11 := Aside0.mk (LD.out.no hf11)
        have G11 := Aside0.mk (GD.out.no hf11)
        obtain ⟨A12, c12, e12⟩ := Kd.R_slice hr11
        subst e12
        have P11 := Aside0.mk (Kd.R_reads' hr11).2.2
        have S11 := Aside0.mk (show Kd.string.C w11 A10 o.length (o.map strOfNums) from by have := (Kd.R_reads' G11.out.r).2.2; rw [List.length_map] at this; exact this)
        have C11 := Aside0.mk (FRX.out.on hf11)
        clear hr11 hf11
        refine hK.out _ _ ⟨(CVX.out _ C11.out), G11.out.rb.cells.1, (XC3.out _ G11.out.rt), G11.out.rb.cells.2⟩ (fun hHeld => ?_)
        clear hK K
        refine norm_ (a' := ?_) ?_ ?_
        rotate_left
        · show Act.put _ (some 197) _ = _
          simp only [Act.put, List.setIfInBounds_toArray, List.set_cons_zero, List.set_cons_succ, i64_w, i32_w]
          rfl
        refine one_ (i := 21) (N := some 202) #[true, true, true, true, true, true, true, true, true, true, true, true, true, true, true, true, true, true, true, true, true, true, false, false] rfl rfl (by kernel_rfl) (by decide) (fun K hK => ?_)
        refine goes_ Try.func70 (by kernel_rfl) rfl #[.slice A12 o.length c12, .slice A10 o.length c10] (by rfl) rfl rfl (by simp only [List.map_toArray, List.map_cons, List.map_nil]; rfl) ?_
        with_reducible refine (alike_calls _ A12 c12 A10 c10 o P11.out S11.out HOL.out).mono ?_
        rintro e w12 ⟨rfl, hd⟩
        refine ⟨_, rfl, ?_⟩
        have L12 := Aside0.mk (L11.out.no (Fr.of_below hd.below No))
        have G12 := Aside0.mk (G11.out.no (Fr.of_below hd.below No))
        have C12 := Aside0.mk (C11.out.on (Fr.of_below hd.below No))
        clear hd
        refine hK.out _ _ ⟨(CVX.out _ C12.out), G12.out.rb.cells.1, (XC3.out _ G12.out.rt), G12.out.rb.cells.2⟩ (fun hHeld => ?_)
        clear hK K
        refine norm_ (a' := ?_) ?_ ?_
        rotate_left
        · show Act.put _ (some 202) _ = _
          simp only [Act.put, List.setIfInBounds_toArray, List.set_cons_zero, List.set_cons_succ, i64_w, i32_w]
          rfl
        refine pure_ (i := 22) (N := some 203) (v := ?_) (a' := ?_) #[true, true, true, true, true, true, true, true, true, true, true, true, true, true, true, true, true, true, true, true, true, true, true, false] rfl rfl (by kernel_rfl) (fun _ _ _ h => h) (Or.inl ⟨by rfl, ?_⟩) ?_ ?_
        rotate_left
        · intro w'
          go_simp
          with_reducible rfl
        rotate_left
        · simp only [Act.put, List.setIfInBounds_toArray, List.set_cons_zero, List.set_cons_succ, i64_w, i32_w]
          rfl
        refine pure_ (i := 23) (N := some 204) (v := ?_) (a' := ?_) #[true, true, true, true, true, true, true, true, true, true, true, true, true, true, true, true, true, true, true, true, true, true, true, true] rfl rfl (by kernel_rfl) (fun _ _ _ h => h) (Or.inl ⟨by rfl, ?_⟩) ?_ ?_
        rotate_left
        · intro w'
          go_simp
          with_reducible rfl
        rotate_left
        · simp only [Act.put, List.setIfInBounds_toArray, List.set_cons_zero, List.set_cons_succ, i64_w, i32_w]
          rfl
        refine done_ (by kernel_rfl) ?_
        clear hss CVX XC3 FRX C11 C12 L11 G11 P11 S11 LD GD HALL HOL
        go_wp2_with (fail)
        go_roundg (n - (k + 1))
        case measure => omega
        case rel => exact ⟨k + 1, gl9, _, _, _, _, l, o, left, by omega, rfl, by go_num, L12, G12⟩
      · go_wp2_with (fail)
        refine (LG.clear L6.out).mono ?_
        rintro e w8 ⟨rfl, hl8, hf8⟩
        have G8 := Aside0.mk (G6.out.by_ L6.out hf8)
        have L8 := Aside0.mk hl8
        clear hl8 hf8 L6 G6 X6 y0 y1 y2
        go_wp2_with (fail)
        refine (code_nil _).mono ?_
        rintro e w8b ⟨rfl, rfl⟩
        go_wp2_with (fail)
        refine (rclear_calls G8.out).mono ?_
        rintro e w9 ⟨rfl, hr9, hf9⟩
        have L9 := Aside0.mk (L8.out.off hf9 G8.out.off)
        have G9 := Aside0.mk hr9
        clear hr9 hf9 L8 G8
        have hpk : ∃ (l : List Int) (o : List (List Int)) (va vb : Value), Aside0 (LG w w9 gl g A1 c1 l room left va o) ∧ Aside0 (RG w w9 gl2 g2 l room left vb o) := ⟨_, _, _, _, L9, G9⟩
        clear L9 G9
        obtain ⟨l, o, va, vb, L9, G9⟩ := hpk
        clear XC XR
        go_wp2_with (fail)
        refine (TA.read L9.out.la.ta (by have := L9.out.len; omega)).mono ?_
        rintro e w10 ⟨Ax, cx2, rfl, hrx, -, htx, hfx⟩
        have LN := Aside0.mk (L9.out.no hfx)
        have GN := Aside0.mk (G9.out.no hfx)
        clear htx hfx L9 G9
        have LD := Aside0.mk (LN.out.no (Fr.refl No w10).drew)
        have GD := Aside0.mk (GN.out.no (Fr.refl No w10).drew)
        obtain ⟨A10, c10, e10⟩ := Kd.R_slice GD.out.r
        rw [List.length_map] at e10
        subst e10
        obtain ⟨A9, c9, e9⟩ := Kd.R_slice LD.out.la.r
        subst e9
        have HOL := Aside0.mk (show o.length ≤ 9223372036854775000 from by have := LD.out.len; omega)
        have HALL := Aside0.mk (all_calls _ gl g A9 c9 _ _ LD.out.la.lb (Kd.R_reads' LD.out.la.r).2.2 LD.out.recs)
        have FRX := Aside0.mk (show Fr No w10 w10.drew from (Fr.refl No w10).drew)
        generalize hsx : strOfNums l = sx
        have XC3 := Aside0.mk (show ∀ W, RL W g2 room l.length left l false → W.cell? ⟨g2, 3, none⟩ = some (.string sx) from fun W h => by rw [← hsx]; exact h.cells.2.2.2.1)
        have CVX := Aside0.mk (show ∀ W, Fr No w10 W → (convert 47 9 (.slice Ax l.length cx2)).run Try.prog W = .ok (.string sx) W from fun W h => by rw [← hsx]; exact cv (C_on hrx h))
        have hss : (sx.toList == sx.toList) = true := by simp
        clear hrx hsx LN GN
        go_wp2_with (fail)
        refine start_ (n := 24) (S := fun w' => (convert 47 9 (.slice Ax l.length cx2)).run Try.prog w' = .ok (.string sx) w' ∧ w'.cell? ⟨gl2, 0, none⟩ = some (.pointer (some ⟨g2, 0, none⟩)) ∧ w'.cell? ⟨g2, 3, none⟩ = some (.string sx) ∧ w'.cell? ⟨gl2, 1, none⟩ = some (.slice A10 o.length c10)) (ds := []) #[false, false, false, false, false, false, false, false, false, false, false, false, false, false, false, false, false, false, false, false, false, false, false, false] (by kernel_rfl) rfl rfl ⟨(CVX.out _ FRX.out), GD.out.rb.cells.1, (XC3.out _ GD.out.rt), GD.out.rb.cells.2⟩ (fun hHeld => ?_)
        refine pure_ (i := 0) (N := some 181) (v := ?_) (a' := ?_) #[true, false, false, false, false, false, false, false, false, false, false, false, false, false, false, false, false, false, false, false, false, false, false, false] rfl rfl (by kernel_rfl) (fun _ _ _ h => h) (Or.inl ⟨by rfl, ?_⟩) ?_ ?_
        rotate_left
        · intro w'
          go_simp
          with_reducible rfl
        rotate_left
        · simp only [Act.put, List.setIfInBounds_toArray, List.set_cons_zero, List.set_cons_succ, i64_w, i32_w]
          rfl
        refine pure_ (i := 1) (N := some 182) (v := ?_) (a' := ?_) #[true, true, false, false, false, false, false, false, false, false, false, false, false, false, false, false, false, false, false, false, false, false, false, false] rfl rfl (by kernel_rfl) (fun _ _ _ h => h) (Or.inl ⟨by rfl, ?_⟩) ?_ ?_
        rotate_left
        · intro w'
          go_simp
          with_reducible rfl
        rotate_left
        · simp only [Act.put, List.setIfInBounds_toArray, List.set_cons_zero, List.set_cons_succ, i64_w, i32_w]
          rfl
        refine pure_ (i := 2) (N := some 183) (v := ?_) (a' := ?_) #[true, true, true, false, false, false, false, false, false, false, false, false, false, false, false, false, false, false, false, false, false, false, false, false] rfl rfl (by kernel_rfl) (fun _ _ _ h => h) (Or.inl ⟨by rfl, ?_⟩) ?_ ?_
        rotate_left
        · intro w'
          go_simp
          with_reducible rfl
        rotate_left
        · simp only [Act.put, List.setIfInBounds_toArray, List.set_cons_zero, List.set_cons_succ, i64_w, i32_w]
          rfl
        refine pure_ (i := 3) (N := some 184) (v := ?_) (a' := ?_) #[true, true, true, true, false, false, false, false, false, false, false, false, false, false, false, false, false, false, false, false, false, false, false, false] rfl rfl (by kernel_rfl) (fun _ _ _ h => h) (Or.inl ⟨by rfl, ?_⟩) ?_ ?_
        rotate_left
        · intro w'
          go_simp
          with_reducible rfl
        rotate_left
        · simp only [Act.put, List.setIfInBounds_toArray, List.set_cons_zero, List.set_cons_succ, i64_w, i32_w]
          rfl
        refine pure_ (i := 5) (N := some 186) (v := ?_) (a' := ?_) #[true, true, true, true, false, true, false, false, false, false, false, false, false, false, false, false, false, false, false, false, false, false, false, false] rfl rfl (by kernel_rfl) (fun _ _ _ h => h) (Or.inl ⟨by rfl, ?_⟩) ?_ ?_
        rotate_left
        · intro w'
          go_simp
          with_reducible rfl
        rotate_left
        · simp only [Act.put, List.setIfInBounds_toArray, List.set_cons_zero, List.set_cons_succ, i64_w, i32_w]
          rfl
        refine pure_ (i := 6) (N := some 187) (v := ?_) (a' := ?_) #[true, true, true, true, false, true, true, false, false, false, false, false, false, false, false, false, false, false, false, false, false, false, false, false] rfl rfl (by kernel_rfl) (fun _ _ _ h => h) (Or.inl ⟨by rfl, ?_⟩) ?_ ?_
        rotate_left
        · intro w'
          go_simp
          with_reducible rfl
        rotate_left
        · simp only [Act.put, List.setIfInBounds_toArray, List.set_cons_zero, List.set_cons_succ, i64_w, i32_w]
          rfl
        refine pure_ (i := 7) (N := some 188) (v := ?_) (a' := ?_) #[true, true, true, true, false, true, true, true, false, false, false, false, false, false, false, false, false, false, false, false, false, false, false, false] rfl rfl (by kernel_rfl) (fun _ _ _ h => h) (Or.inl ⟨by rfl, ?_⟩) ?_ ?_
        rotate_left
        · intro w'
          go_simp
          with_reducible rfl
        rotate_left
        · simp only [Act.put, List.setIfInBounds_toArray, List.set_cons_zero, List.set_cons_succ, i64_w, i32_w]
          rfl
        refine take_ (i := 4) (N := some 185) (v := ?_) (a' := ?_) #[true, true, true, true, true, true, true, true, false, false, false, false, false, false, false, false, false, false, false, false, false, false, false, false] rfl rfl (by kernel_rfl) (fun _ _ _ h => h) (Or.inl ⟨by rfl, ?_⟩) hHeld ?_ ?_
        rotate_left
        · rintro w' ⟨s0, s1, s2, s3⟩
          go_simp
          with_reducible rfl
        rotate_left
        · simp only [Act.put, List.setIfInBounds_toArray, List.set_cons_zero, List.set_cons_succ, i64_w, i32_w]
          rfl
        refine take_ (i := 8) (N := some 189) (v := ?_) (a' := ?_) #[true, true, true, true, true, true, true, true, true, false, false, false, false, false, false, false, false, false, false, false, false, false, false, false] rfl rfl (by kernel_rfl) (fun _ _ _ h => h) (Or.inl ⟨by rfl, ?_⟩) hHeld ?_ ?_
        rotate_left
        · rintro w' ⟨s0, s1, s2, s3⟩
          go_simp
          with_reducible rfl
        rotate_left
        · simp only [Act.put, List.setIfInBounds_toArray, List.set_cons_zero, List.set_cons_succ, i64_w, i32_w]
          rfl
        refine pure_ (i := 9) (N := some 190) (v := ?_) (a' := ?_) #[true, true, true, true, true, true, true, true, true, true, false, false, false, false, false, false, false, false, false, false, false, false, false, false] rfl rfl (by kernel_rfl) (fun _ _ _ h => h) (Or.inl ⟨by rfl, ?_⟩) ?_ ?_
        rotate_left
        · intro w'
          go_simp
          with_reducible rfl
        rotate_left
        · simp only [Act.put, List.setIfInBounds_toArray, List.set_cons_zero, List.set_cons_succ, i64_w, i32_w]
          rfl
        refine pure_ (i := 10) (N := some 191) (v := ?_) (a' := ?_) #[true, true, true, true, true, true, true, true, true, true, true, false, false, false, false, false, false, false, false, false, false, false, false, false] rfl rfl (by kernel_rfl) (fun _ _ _ h => h) (Or.inl ⟨by rfl, ?_⟩) ?_ ?_
        rotate_left
        · intro w'
          go_simp
          with_reducible rfl
        rotate_left
        · simp only [Act.put, List.setIfInBounds_toArray, List.set_cons_zero, List.set_cons_succ, i64_w, i32_w]
          rfl
        refine take_ (i := 11) (N := some 192) (v := ?_) (a' := ?_) #[true, true, true, true, true, true, true, true, true, true, true, true, false, false, false, false, false, false, false, false, false, false, false, false] rfl rfl (by kernel_rfl) (fun _ _ _ h => h) (Or.inl ⟨by rfl, ?_⟩) hHeld ?_ ?_
        rotate_left
        · rintro w' ⟨s0, s1, s2, s3⟩
          go_simp
          with_reducible rfl
        rotate_left
        · simp only [Act.put, List.setIfInBounds_toArray, List.set_cons_zero, List.set_cons_succ, i64_w, i32_w]
          rfl
        refine pure_ (i := 12) (N := some 193) (v := ?_) (a' := ?_) #[true, true, true, true, true, true, true, true, true, true, true, true, true, false, false, false, false, false, false, false, false, false, false, false] rfl rfl (by kernel_rfl) (fun _ _ _ h => h) (Or.inl ⟨by rfl, ?_⟩) ?_ ?_
        rotate_left
        · intro w'
          go_simp
          with_reducible rfl
        rotate_left
        · simp only [Act.put, List.setIfInBounds_toArray, List.set_cons_zero, List.set_cons_succ, i64_w, i32_w]
          rfl
        refine pure_ (i := 13) (N := some 194) (v := ?_) (a' := ?_) #[true, true, true, true, true, true, true, true, true, true, true, true, true, true, false, false, false, false, false, false, false, false, false, false] rfl rfl (by kernel_rfl) (fun _ _ _ h => h) (Or.inl ⟨by rfl, ?_⟩) ?_ ?_
        rotate_left
        · intro w'
          go_simp
          with_reducible rfl
        rotate_left
        · simp only [Act.put, List.setIfInBounds_toArray, List.set_cons_zero, List.set_cons_succ, i64_w, i32_w]
          rfl
        refine pure_ (i := 14) (N := some 195) (v := ?_) (a' := ?_) #[true, true, true, true, true, true, true, true, true, true, true, true, true, true, true, false, false, false, false, false, false, false, false, false] rfl rfl (by kernel_rfl) (fun _ _ _ h => h) (Or.inl ⟨by rfl, ?_⟩) ?_ ?_
        rotate_left
        · intro w'
          go_simp
          with_reducible rfl
        rotate_left
        · simp only [Act.put, List.setIfInBounds_toArray, List.set_cons_zero, List.set_cons_succ, i64_w, i32_w]
          rfl
        refine pure_ (i := 15) (N := some 196) (v := ?_) (a' := ?_) #[true, true, true, true, true, true, true, true, true, true, true, true, true, true, true, true, false, false, false, false, false, false, false, false] rfl rfl (by kernel_rfl) (fun _ _ _ h => h) (Or.inl ⟨by rfl, ?_⟩) ?_ ?_
        rotate_left
        · intro w'
          go_simp
          with_reducible rfl
        rotate_left
        · simp only [Act.put, List.setIfInBounds_toArray, List.set_cons_zero, List.set_cons_succ, i64_w, i32_w]
          rfl
        refine pure_ (i := 17) (N := some 198) (v := ?_) (a' := ?_) #[true, true, true, true, true, true, true, true, true, true, true, true, true, true, true, true, false, true, false, false, false, false, false, false] rfl rfl (by kernel_rfl) (fun _ _ _ h => h) (Or.inl ⟨by rfl, ?_⟩) ?_ ?_
        rotate_left
        · intro w'
          go_simp
          with_reducible rfl
        rotate_left
        · simp only [Act.put, List.setIfInBounds_toArray, List.set_cons_zero, List.set_cons_succ, i64_w, i32_w]
          rfl
        refine pure_ (i := 18) (N := some 199) (v := ?_) (a' := ?_) #[true, true, true, true, true, true, true, true, true, true, true, true, true, true, true, true, false, true, true, false, false, false, false, false] rfl rfl (by kernel_rfl) (fun _ _ _ h => h) (Or.inl ⟨by rfl, ?_⟩) ?_ ?_
        rotate_left
        · intro w'
          go_simp
          with_reducible rfl
        rotate_left
        · simp only [Act.put, List.setIfInBounds_toArray, List.set_cons_zero, List.set_cons_succ, i64_w, i32_w]
          rfl
        refine pure_ (i := 19) (N := some 200) (v := ?_) (a' := ?_) #[true, true, true, true, true, true, true, true, true, true, true, true, true, true, true, true, false, true, true, true, false, false, false, false] rfl rfl (by kernel_rfl) (fun _ _ _ h => h) (Or.inl ⟨by rfl, ?_⟩) ?_ ?_
        rotate_left
        · intro w'
          go_simp
          with_reducible rfl
        rotate_left
        · simp only [Act.put, List.setIfInBounds_toArray, List.set_cons_zero, List.set_cons_succ, i64_w, i32_w]
          rfl
        refine take_ (i := 20) (N := some 201) (v := ?_) (a' := ?_) #[true, true, true, true, true, true, true, true, true, true, true, true, true, true, true, true, false, true, true, true, true, false, false, false] rfl rfl (by kernel_rfl) (fun _ _ _ h => h) (Or.inl ⟨by rfl, ?_⟩) hHeld ?_ ?_
        rotate_left
        · rintro w' ⟨s0, s1, s2, s3⟩
          go_simp
          with_reducible rfl
        rotate_left
        · simp only [Act.put, List.setIfInBounds_toArray, List.set_cons_zero, List.set_cons_succ, i64_w, i32_w]
          rfl
        refine one_ (i := 16) (N := some 197) #[true, true, true, true, true, true, true, true, true, true, true, true, true, true, true, true, true, true, true, true, true, false, false, false] rfl rfl (by kernel_rfl) (by decide) (fun K hK => ?_)
        refine goes_ Try.func74 (by kernel_rfl) rfl #[.pointer (some ⟨gl, 0, none⟩)] (by rfl) rfl rfl (by simp only [List.map_toArray, List.map_cons, List.map_nil]; rfl) ?_
        with_reducible refine (HALL.out).mono ?_
        rintro e w11 ⟨v11, rfl, hr11, hf11⟩
        refine ⟨_, rfl, ?_⟩
        have L11 := Aside0.mk (LD.out.no hf11)
        have G11 := Aside0.mk (GD.out.no hf11)
        obtain ⟨A12, c12, e12⟩ := Kd.R_slice hr11
        subst e12
        have P11 := Aside0.mk (Kd.R_reads' hr11).2.2
        have S11 := Aside0.mk (show Kd.string.C w11 A10 o.length (o.map strOfNums) from by have := (Kd.R_reads' G11.out.r).2.2; rw [List.length_map] at this; exact this)
        have C11 := Aside0.mk (FRX.out.on hf11)
        clear hr11 hf11
        refine hK.out _ _ ⟨(CVX.out _ C11.out), G11.out.rb.cells.1, (XC3.out _ G11.out.rt), G11.out.rb.cells.2⟩ (fun hHeld => ?_)
        clear hK K
        refine norm_ (a' := ?_) ?_ ?_
        rotate_left
        · show Act.put _ (some 197) _ = _
          simp only [Act.put, List.setIfInBounds_toArray, List.set_cons_zero, List.set_cons_succ, i64_w, i32_w]
          rfl
        refine one_ (i := 21) (N := some 202) #[true, true, true, true, true, true, true, true, true, true, true, true, true, true, true, true, true, true, true, true, true, true, false, false] rfl rfl (by kernel_rfl) (by decide) (fun K hK => ?_)
        refine goes_ Try.func70 (by kernel_rfl) rfl #[.slice A12 o.length c12, .slice A10 o.length c10] (by rfl) rfl rfl (by simp only [List.map_toArray, List.map_cons, List.map_nil]; rfl) ?_
        with_reducible refine (alike_calls _ A12 c12 A10 c10 o P11.out S11.out HOL.out).mono ?_
        rintro e w12 ⟨rfl, hd⟩
        refine ⟨_, rfl, ?_⟩
        have L12 := Aside0.mk (L11.out.no (Fr.of_below hd.below No))
        have G12 := Aside0.mk (G11.out.no (Fr.of_below hd.below No))
        have C12 := Aside0.mk (C11.out.on (Fr.of_below hd.below No))
        clear hd
        refine hK.out _ _ ⟨(CVX.out _ C12.out), G12.out.rb.cells.1, (XC3.out _ G12.out.rt), G12.out.rb.cells.2⟩ (fun hHeld => ?_)
        clear hK K
        refine norm_ (a' := ?_) ?_ ?_
        rotate_left
        · show Act.put _ (some 202) _ = _
          simp only [Act.put, List.setIfInBounds_toArray, List.set_cons_zero, List.set_cons_succ, i64_w, i32_w]
          rfl
        refine pure_ (i := 22) (N := some 203) (v := ?_) (a' := ?_) #[true, true, true, true, true, true, true, true, true, true, true, true, true, true, true, true, true, true, true, true, true, true, true, false] rfl rfl (by kernel_rfl) (fun _ _ _ h => h) (Or.inl ⟨by rfl, ?_⟩) ?_ ?_
        rotate_left
        · intro w'
          go_simp
          with_reducible rfl
        rotate_left
        · simp only [Act.put, List.setIfInBounds_toArray, List.set_cons_zero, List.set_cons_succ, i64_w, i32_w]
          rfl
        refine pure_ (i := 23) (N := some 204) (v := ?_) (a' := ?_) #[true, true, true, true, true, true, true, true, true, true, true, true, true, true, true, true, true, true, true, true, true, true, true, true] rfl rfl (by kernel_rfl) (fun _ _ _ h => h) (Or.inl ⟨by rfl, ?_⟩) ?_ ?_
        rotate_left
        · intro w'
          go_simp
          with_reducible rfl
        rotate_left
        · simp only [Act.put, List.setIfInBounds_toArray, List.set_cons_zero, List.set_cons_succ, i64_w, i32_w]
          rfl
        refine done_ (by kernel_rfl) ?_
        clear hss CVX XC3 FRX C11 C12 L11 G11 P11 S11 LD GD HALL HOL
        go_wp2_with (fail)
        go_roundg (n - (k + 1))
        case measure => omega
        case rel => exact ⟨k + 1, gl, _, _, _, _, l, o, left, by omega, rfl, by go_num, L12, G12⟩
    · have hlt2 : decide ((k : Int) < n) = false := decide_eq_false (by omega)
      have hlt3 : decide (k < n) = false := decide_eq_false hlt
      go_wp2
      go_ret
      exact ⟨rfl, LL.out.la.ta.fr⟩

theorem walPlays_walk (room : Int) (a1 : Option Addr) (len1 cap1 : Nat) (z1 : List Int) (a2 : Option Addr) (len2 cap2 : Nat) (Wh N : Nat → Int) (X : Nat → Option Addr × Nat × List Int) (w : World) (w0 : (Lit.int .i64 room).wf = true) (w1 : IsRow .u8 w a1 len1 cap1 z1) (y1 : len1 * 1 ≤ 140737488351232) (w2 : DeedRow3 w a2 len2 Wh N X ∧ len2 ≤ 9223372036854775807) :
    Calls Try.prog 16 #[.int .i64 room, .slice a1 len1 cap1, .slice a2 len2 cap2] w fun e w' => e = .returned (.bool true) ∧ Below w.heap.size w w' := by
  obtain ⟨b, rfl, hr0, hc0, hw0⟩ := w1.reads
  have hb : isBytes b := fun x hx => by have := bounds_u8 (hw0 x hx); omega
  refine Calls.mono (R := fun e w' => e = .returned (.bool true) ∧ Fr No w w') ?_ (fun e w' h => ⟨h.1, h.2.no⟩)
  by_cases h : room < 1 ∨ 1048576 < room
  · exact wplays_no w room a1 _ cap1 a2 len2 cap2 h
  by_cases hl : 50000 < room ∨ 3000 < b.length ∨ 60 < len2
  · exact wplays_long w room a1 _ cap1 a2 len2 cap2 (by omega) (by omega) hl (by omega) w2.2
  · exact wplays_main w room a1 cap1 b a2 len2 cap2 Wh N X hr0 hc0 hb (by omega) w2.1 (by omega) (by omega) (by omega)

end Go.Proofs.Ythlcognpfangkaa
