/- A log over all its cases, and the example of layer 8 (no condition but the log's state). -/
import Derived.Test.YthlcognpfangkaaWal2
import Derived.Lib.SlBytesConst
namespace Go.Proofs.Ythlcognpfangkaa
open Go.RowKit Go.Proofs.YthlcognpfangkaaW.PrintWords Go.Proofs.YthlcognpfangkaaW.PrintLast Go.Proofs.YthlcognpfangkaaW.PrintMore
set_option linter.unusedVariables false
set_option linter.unusedSimpArgs false

/-- How many bytes records have on the tape. -/
def sizeL (o : List (List Int)) : Nat := (o.map (fun x => x.length + 6)).sum
def okL (o : List (List Int)) : Prop := ∀ x ∈ o, x ≠ [] ∧ x.length ≤ 16384 ∧ isBytes x
theorem sizeL_nil : sizeL [] = 0 := rfl
theorem sizeL_cons (x : List Int) (o : List (List Int)) : sizeL (x :: o) = x.length + 6 + sizeL o := by unfold sizeL; simp
theorem sizeL_app (o : List (List Int)) (b : List Int) : sizeL (o ++ [b]) = sizeL o + (b.length + 6) := by unfold sizeL; simp
theorem sizeL_len (o : List (List Int)) : o.length * 6 ≤ sizeL o := by
  induction o with
  | nil => simp [sizeL]
  | cons x o ih => rw [sizeL_cons, List.length_cons]; omega
theorem okL_app {o : List (List Int)} (h : okL o) {b : List Int} (h1 : 1 ≤ b.length) (h2 : b.length ≤ 16384) (h3 : isBytes b) : okL (o ++ [b]) := by
  intro x hx
  rw [List.mem_append, List.mem_singleton] at hx
  rcases hx with hx | rfl
  · exact h x hx
  · exact ⟨fun e => by rw [e] at h1; simp at h1, h2, h3⟩
theorem RS_told (l : List Int) (hb : isBytes l) : ∀ (d a : Nat), a + d = l.length → a + sizeL (RS l a).1 = (RS l a).2 ∧ okL (RS l a).1 := by
  intro d
  induction d using Nat.strongRecOn with
  | _ d ih =>
    intro a ha
    by_cases hg : good l a
    · have hn := nxt_lt hg
      obtain ⟨h1, h2⟩ := ih (l.length - nxt l a) (by omega) (nxt l a) (by omega)
      rw [RS_yes hg]
      refine ⟨?_, fun x hx => ?_⟩
      · show a + sizeL (txt l a :: (RS l (nxt l a)).1) = (RS l (nxt l a)).2
        rw [sizeL_cons, ← h1]
        unfold nxt
        omega
      · rcases List.mem_cons.1 hx with rfl | hx
        · exact ⟨hg.1, (txt_yes hb hg.1).2.1, txt_isBytes hb a⟩
        · exact h2 x hx
    · rw [RS_no hg]
      exact ⟨by rw [sizeL_nil]; rfl, fun x hx => by cases hx⟩

/-- A log, its tape up and synced, as long as its records. -/
structure LG (w0 w : World) (gl g : Nat) (A : Option Addr) (c : Nat) (l : List Int) (room left : Int) (v : Value) (o : List (List Int)) : Prop where
  la : LA w0 w gl g A c l room l.length left v l.length o
  r1 : l.length ≤ room
  r2 : room ≤ 1048576
  lf : left ≤ 9223372036854775807
  ok : okL o
  sz : sizeL o = l.length
  by_ : isBytes l

def lapC (left room : Int) (n : Nat) (b : List Int) : Nat := if b.length < 1 ∨ 16384 < b.length then 1 else if apC false left room n (b.length + 6) = 0 then callC false (callL false left) else apC false left room n (b.length + 6)
def lapF (left room : Int) (n : Nat) (b : List Int) : Int := if b.length < 1 ∨ 16384 < b.length then left else if apC false left room n (b.length + 6) = 0 then callL false (callL false left) else callL false left
def lapL (c : Nat) (l b : List Int) : List Int := if c = 0 then l ++ recL b else l
def lapO (c : Nat) (o : List (List Int)) (b : List Int) : List (List Int) := if c = 0 then o ++ [b] else o
theorem lapC_le (left room : Int) (n : Nat) (b : List Int) : lapC left room n b ≤ 10 := by
  unfold lapC
  split
  · omega
  · split
    · exact callC_le _ _
    · exact apC_le _ _ _ _ _
theorem lapF_le {left room : Int} {n : Nat} {b : List Int} (h : left ≤ 9223372036854775807) : lapF left room n b ≤ 9223372036854775807 := by
  unfold lapF
  split
  · exact h
  · split
    · exact callL_le (callL_le h)
    · exact callL_le h

section
variable {w0 w : World} {gl g c : Nat} {A : Option Addr} {l : List Int} {room left : Int} {v : Value} {o : List (List Int)}
theorem LG.len (h : LG w0 w gl g A c l room left v o) : (l.length : Int) ≤ 1048576 ∧ o.length ≤ 174763 ∧ o.length * 6 ≤ l.length := by
  have := h.r1
  have := h.r2
  have := sizeL_len o
  have := h.sz
  omega
theorem LG.recs (h : LG w0 w gl g A c l room left v o) : recsOk o := ⟨by have := h.len; omega, h.ok⟩
theorem LG.no (h : LG w0 w gl g A c l room left v o) {W : World} (hf : Fr No w W) : LG w0 W gl g A c l room left v o := ⟨h.la.no hf, h.r1, h.r2, h.lf, h.ok, h.sz, h.by_⟩
theorem LG.app (h : LG w0 w gl g A c l room left v o) {B : Option Addr} {d : Nat} {b : List Int} (hbk : ∀ W, Fr (TS g (.slice A l.length c)) w W → Kd.C (Kd.int .u8) W B b.length b) (hd : b.length ≤ d) (hby : isBytes b) :
    Calls Try.prog 73 #[.pointer (some ⟨gl, 0, none⟩), .slice B b.length d] w fun e w' => e = .returned (errOf (lapC left room l.length b)) ∧
      ∃ A' c' v', LG w0 w' gl g A' c' (lapL (lapC left room l.length b) l b) room (lapF left room l.length b) v' (lapO (lapC left room l.length b) o b) ∧ Fr (LS gl g (.slice A l.length c) v) w w' := by
  have hl := h.len
  have hr := h.r1
  have hr2 := h.r2
  have hlf := h.lf
  by_cases hbad : b.length < 1 ∨ 16384 < b.length
  · have hc : lapC left room l.length b = 1 := by unfold lapC; rw [if_pos hbad]
    have hf : lapF left room l.length b = left := by unfold lapF; rw [if_pos hbad]
    rw [hc, hf]
    refine (lapp_bad w gl B d b.length hbad).mono ?_
    rintro e w' ⟨rfl, rfl⟩
    exact ⟨rfl, A, c, v, h, Fr.refl _ _⟩
  have hb : Kd.C (Kd.int .u8) w B b.length b := hbk w (Fr.refl _ _)
  have h1 : 1 ≤ b.length := by omega
  have h2 : b.length ≤ 16384 := by omega
  have hxl := recL_length b
  by_cases hc0 : apC false left room l.length (recL b).length = 0
  · have hc0' := hc0
    rw [hxl] at hc0'
    have hc : lapC left room l.length b = callC false (callL false left) := by unfold lapC; rw [if_neg hbad, if_pos hc0']
    have hf : lapF left room l.length b = callL false (callL false left) := by unfold lapF; rw [if_neg hbad, if_pos hc0']
    have hfit : ((l ++ recL b).length : Int) ≤ room := by
      rw [List.length_append]
      unfold apC at hc0
      split at hc0
      · split at hc0
        · omega
        · omega
      · omega
    rw [hc, hf]
    by_cases hc1 : callC false (callL false left) = 0
    · rw [hc1]
      refine (h.la.app3 hb hd hby h1 h2 hlf (by omega) hr2 hr (Nat.le_refl _) hbk hc0 hc1 (by omega)).mono ?_
      rintro e w' ⟨rfl, A', c', v', hla, hfr⟩
      rw [← List.length_append] at hla
      refine ⟨rfl, A', c', v', ⟨hla, hfit, hr2, callL_le (callL_le hlf), okL_app h.ok h1 h2 hby, ?_, ?_⟩, hfr⟩
      · show sizeL (o ++ [b]) = (l ++ recL b).length
        rw [sizeL_app, List.length_append, h.sz, hxl]
      · intro x hx
        rcases List.mem_append.1 (show x ∈ l ++ recL b from hx) with hx | hx
        · exact h.by_ x hx
        · exact recL_isBytes hby x hx
    · refine (h.la.app2 hb hd hby h1 h2 hlf (by omega) hr2 hr (Nat.le_refl _) hc0 hc1).mono ?_
      rintro e w' ⟨rfl, A', c', hla, hfr⟩
      unfold lapL lapO
      rw [if_neg hc1, if_neg hc1]
      rw [List.take_left] at hla
      exact ⟨rfl, A', c', v, ⟨hla, hr, hr2, callL_le (callL_le hlf), h.ok, h.sz, h.by_⟩, hfr⟩
  · have hc0' := hc0
    rw [hxl] at hc0'
    have hc : lapC left room l.length b = apC false left room l.length (b.length + 6) := by unfold lapC; rw [if_neg hbad, if_neg hc0']
    have hf : lapF left room l.length b = callL false left := by unfold lapF; rw [if_neg hbad, if_neg hc0']
    rw [hc, hf]
    refine (h.la.app1 hb hd hby h1 h2 hlf (by omega) hr2 hr (Nat.le_refl _) hc0).mono ?_
    rintro e w' ⟨rfl, A', c', hla, hfr⟩
    unfold lapL lapO
    rw [if_neg hc0', if_neg hc0', hxl]
    rw [List.take_length] at hla
    exact ⟨rfl, A', c', v, ⟨hla, hr, hr2, callL_le hlf, h.ok, h.sz, h.by_⟩, hfr⟩

set_option maxRecDepth 100000 in
theorem LG.clear (h : LG w0 w gl g A c l room left v o) :
    Calls Try.prog 77 #[.pointer (some ⟨gl, 0, none⟩)] w fun e w' => e = .returned .nilIface ∧ LG w0 w' gl g A c [] room left (.slice none 0 0) [] ∧ Fr (LS gl g (.slice A l.length c) v) w w' := by
  have H := Aside0.mk h
  have hcc : cutC false (0 : Int) l.length = 0 := by unfold cutC; rw [if_neg (by decide), if_neg (by omega)]
  have hct : cutT false (0 : Int) l = [] := by unfold cutT; rw [if_pos hcc]; rfl
  have hcs : cutS false (0 : Int) l.length l.length = 0 := by unfold cutS; rw [if_pos hcc]; rfl
  have HCC := Aside0.mk hcc
  have HCT := Aside0.mk hct
  have HCS := Aside0.mk hcs
  obtain ⟨z0, z1, z2⟩ := h.la.lb.cells
  clear h hcc hct hcs z1 z2
  go_enter Try.func77, Try.ntmps77
  go_wp2_with (fail)
  refine (TA.cut_any H.out.la.ta 0).mono ?_
  rw [HCC.out, HCT.out, HCS.out, errOf_0]
  rintro e w1 ⟨rfl, ht, hf⟩
  have L1 := Aside0.mk (H.out.la.to_at (s' := 0) ht hf)
  have F1 := Aside0.mk (hf.mono (S2 := LS gl g (.slice A l.length c) v) (fun k hk => .inr (.inl hk)))
  clear ht hf z0
  obtain ⟨z0, z1, z2⟩ := L1.out.lb.cells
  obtain ⟨g1, g2⟩ := L1.out.lb.free
  clear z0
  go_wp2_with (fail)
  go_ret
  have FS := ((Fr.refl (At gl) w1).setAt 1 (.slice none 0 0)).setAt 2 (.int .i64 0)
  exact ⟨rfl, ⟨⟨L1.out.ta.other FS L1.out.lb (by decide) (by decide) L1.out.ge, (L1.out.lb.set1 _).set2 _, L1.out.ge, Kd.R_nil _ _ _ _ _⟩, by have := H.out.r1; simp; omega, H.out.r2, H.out.lf, (fun x hx => by cases hx), rfl, (fun x hx => by cases hx)⟩, F1.out.trans FS (fun k (hk : k = gl) => .inl (.inl hk))⟩
end

theorem open_LG {w0 w : World} {g c : Nat} {A : Option Addr} {l : List Int} {room left : Int} {s : Nat} {down : Bool} (h : TA w0 w g A c l room s down left) (hl : isBytes l) (h1 : l.length ≤ room) (h2 : room ≤ 1048576) (h3 : left ≤ 9223372036854775807) :
    Calls Try.prog 71 #[.pointer (some ⟨g, 0, none⟩)] w fun e w' => ∃ gl v, e = .returned (.tuple #[.pointer (some ⟨gl, 0, none⟩), .nilIface]) ∧ LG w0 w' gl g A c (l.take (RS l 0).2) room left v (RS l 0).1 ∧ w.heap.size ≤ gl ∧ Fr (At g) w w' := by
  refine (open_calls h hl (by omega)).mono ?_
  rintro e w' ⟨gl, v, rfl, hgl, ht, hb, hr, hf⟩
  have he := RS_end l
  have hlen : (l.take (RS l 0).2).length = (RS l 0).2 := by rw [List.length_take]; omega
  obtain ⟨t1, t2⟩ := RS_told l hl l.length 0 (by omega)
  refine ⟨gl, v, rfl, ⟨⟨by rw [hlen]; exact ht, by rw [hlen]; exact hb, Nat.le_trans h.fr.size hgl, ?_⟩, by rw [hlen]; omega, h2, h3, t2, by rw [hlen]; omega, fun x hx => hl x (List.mem_of_mem_take hx)⟩, hgl, hf⟩
  refine Kd.R_lower (Kd.R_mono (Kd.R_bound hr) (fun k hk e => ?_)) h.fr.size
  have := Kd.R_lt h.r k (by rw [own_len A c _ 0]; exact e.symm)
  have := hk.2.1
  omega

end Go.Proofs.Ythlcognpfangkaa

namespace Go.Proofs.Ythlcognpfangkaa
open Go.RowKit Go.Proofs.YthlcognpfangkaaW.PrintWords Go.Proofs.YthlcognpfangkaaW.PrintLast Go.Proofs.YthlcognpfangkaaW.PrintMore
set_option linter.unusedVariables false
set_option linter.unusedSimpArgs false

theorem RS_nil : RS [] 0 = ([], 0) := RS_no (fun h => by have := g_le h; simp at this)

set_option maxRecDepth 100000 in
theorem up08 (w : World) : Calls Try.prog 67 #[] w fun e w' => e = .returned (.bool true) ∧ Fr No w w' := by
  have kc := fun (w : World) (C : Array Value) (n c : Nat) => Lib.run_convert_bytes_const (P := Try.prog) w 47 5 C n c Try.underlying47 Try.underlying5
  go_enter Try.func67, Try.ntmps67
  go_wp2_with (fail)
  refine (TA.new (Fr.refl No w) 100 (by omega) (by omega)).mono ?_
  rintro e w1 ⟨g, rfl, ht⟩
  have T1 := Aside0.mk ht
  clear ht
  go_wp2_with (fail)
  refine (open_LG T1.out (fun x hx => by cases hx) (by simp) (by omega) (by omega)).mono ?_
  rintro e w2 ⟨gl, v, rfl, hl, hgl, hf⟩
  rw [RS_nil] at hl
  have L2 := Aside0.mk (show LG w w2 gl g none 0 [] 100 (-1) v [] from hl)
  clear hl hgl hf T1
  go_wp2_with (fail)
  refine (open_nil _).mono ?_
  rintro e w3 ⟨rfl, rfl⟩
  go_wp2_with (fail)
  have N3 := Aside0.mk (L2.out.no ((Fr.refl No w2).alloc (.cells ([97].map (Value.int .u8)).toArray 5 (1, 2))))
  have hg2 : g < w2.heap.size := blk_lt L2.out.la.ta.t
  have HBK := Aside0.mk (show ∀ W, Fr (TS g (.slice none ([] : List Int).length 0)) (w2.alloc (.cells ([97].map (Value.int .u8)).toArray 5 (1, 2))) W → Kd.C (Kd.int .u8) W (some ⟨w2.heap.size, 0, none⟩) [97].length [97] from fun W hW => C_fr (lit_reads w2 [97] (1, 2) (by simp)) (fun b hb hx => by
    obtain ⟨ad, e, e2⟩ := hx
    cases e
    refine hW.block b hb (fun hk => ?_)
    have e3 : w2.heap.size = b := e2
    rcases hk with hk | hk
    · omega
    · cases hk))
  refine (LG.app N3.out HBK.out (by simp) (fun x hx => by simp at hx; omega)).mono ?_
  rw [show lapC (-1) 100 ([] : List Int).length [97] = 0 from by decide, errOf_0]
  rintro e w4 ⟨rfl, A4, c4, v4, hl, -⟩
  have L4 := Aside0.mk (show LG w w4 gl g A4 c4 ([] ++ recL [97]) 100 (lapF (-1) 100 ([] : List Int).length [97]) v4 [[97]] from hl)
  clear hl N3 L2 HBK hg2 kc
  obtain ⟨A5, c5, e5⟩ := Kd.R_slice L4.out.la.r
  subst e5
  have R4 := Aside0.mk (Kd.R_reads' L4.out.la.r).2.2
  go_wp2_with (go_at_call 74; refine (all_calls _ gl g A5 c5 _ _ L4.out.la.lb R4.out L4.out.recs).mono ?_; rintro e w5 ⟨v5, rfl, hr5, hf5⟩; have F5 := Aside0.mk (L4.out.la.ta.fr.on hf5); obtain ⟨A6, c6, e6⟩ := Kd.R_slice hr5; subst e6; clear hr5 hf5)
  go_ret
  exact ⟨rfl, F5.out⟩
end Go.Proofs.Ythlcognpfangkaa
