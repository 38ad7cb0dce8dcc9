/- The two logs, one beside the other: what one does leaves the other (no condition but their states). -/
import Derived.Test.YthlcognpfangkaaRg
namespace Go.Proofs.Ythlcognpfangkaa
open Go.RowKit Go.Proofs.YthlcognpfangkaaW.PrintWords Go.Proofs.YthlcognpfangkaaW.PrintLast Go.Proofs.YthlcognpfangkaaW.PrintMore
set_option linter.unusedVariables false
set_option linter.unusedSimpArgs false

/-- A block of another type than a log's. -/
def OffL (w : World) (k : Nat) : Prop := ∃ (t : TypeId) (cells : Array Value), w.heap[k]? = some (.cells cells t (0, 0)) ∧ t ≠ 135 ∧ t ≠ 138 ∧ t ≠ 5 ∧ t ≠ 47
theorem OffL.ne {w : World} {k g t : Nat} {cells : Array Value} (h : OffL w k) (hb : w.heap[g]? = some (.cells cells t (0, 0))) (ht : t = 135 ∨ t = 138 ∨ t = 5 ∨ t = 47) : k ≠ g := by
  rintro rfl
  obtain ⟨q, cs, hc, h1, h2, h3, h4⟩ := h
  rw [hb] at hc
  simp only [Option.some.injEq, Obj.cells.injEq] at hc
  obtain ⟨_, rfl, _⟩ := hc
  rcases ht with e | e | e | e
  · exact h1 e
  · exact h2 e
  · exact h3 e
  · exact h4 e
section
variable {w0 w : World} {gl g c : Nat} {A : Option Addr} {l : List Int} {room left : Int} {v : Value} {o : List (List Int)}
theorem TA.off {s : Int} {down : Bool} (h : TA w0 w g A c l room s down left) {S : Nat → Prop} {W : World} (hf : Fr S w W) (hS : ∀ k, S k → w0.heap.size ≤ k ∧ OffL w k) : TA w0 W g A c l room s down left :=
  ⟨hf.blk h.t (fun hk => (hS g hk).2.ne h.t (by omega) rfl), Kd.R_mono (hf.R (Kd.R_bound h.r) (fun k hk hs => by
    obtain ⟨_, _, _, q, hq, cs, hc⟩ := hk
    simp [Kd.int, Kd.scalar] at hq
    exact (hS k hs).2.ne hc (by omega) rfl)) (fun _ _ => trivial), h.ge, h.fr.trans hf (fun k hk => .inr (hS k hk).1)⟩
theorem LG.off (h : LG w0 w gl g A c l room left v o) {S : Nat → Prop} {W : World} (hf : Fr S w W) (hS : ∀ k, S k → w0.heap.size ≤ k ∧ OffL w k) : LG w0 W gl g A c l room left v o :=
  ⟨⟨h.la.ta.off hf hS, hf.blk h.la.lb (fun hk => (hS gl hk).2.ne h.la.lb (by omega) rfl), h.la.ge, Kd.R_mono (hf.R (Kd.R_bound h.la.r) (fun k hk hs => by
    obtain ⟨_, _, _, q, hq, cs, hc⟩ := hk
    simp [Kd.slice, Kd.int, Kd.scalar] at hq
    exact (hS k hs).2.ne hc (by omega) rfl)) (fun k hk => hk.1)⟩, h.r1, h.r2, h.lf, h.ok, h.sz, h.by_⟩
/-- A block of another type stays while the log works. -/
theorem LG.blk (h : LG w0 w gl g A c l room left v o) {k t : Nat} {cells : Array Value} (hb : w.heap[k]? = some (.cells cells t (0, 0))) (ht : t ≠ 135 ∧ t ≠ 138 ∧ t ≠ 5 ∧ t ≠ 47) {W : World} (hf : Fr (LS gl g (.slice A l.length c) v) w W) : W.heap[k]? = some (.cells cells t (0, 0)) := by
  refine hf.blk hb (fun hk => ?_)
  rcases hk with e | e | e | e
  · exact blk_ne hb h.la.lb ht.2.1 e
  · exact blk_ne hb h.la.ta.t ht.1 e
  · exact Kd.R_ne h.la.ta.r hb (fun e => ht.2.2.1 e.symm) e.symm
  · exact Kd.R_ne h.la.r hb (fun e => ht.2.2.2 e.symm) e.symm
theorem LG.ls (h : LG w0 w gl g A c l room left v o) : ∀ k, LS gl g (.slice A l.length c) v k → w0.heap.size ≤ k := by
  rintro k (e | e | e | e)
  · rw [e]; exact h.la.ge
  · rw [e]; exact h.la.ta.ge
  · exact Kd.R_base h.la.ta.r k e
  · exact Kd.R_base h.la.r k e
end
theorem off2 {w : World} {gl g : Nat} {v : Value} {cells : Array Value} {b : Nat} (hb : Rlb w gl g v) (ht : w.heap[g]? = some (.cells cells 92 (0, 0))) (h1 : b ≤ gl) (h2 : b ≤ g) : ∀ k, R2 gl g k → b ≤ k ∧ OffL w k := by
  rintro k (e | e)
  · exact ⟨by omega, 116, _, by rw [e]; exact hb, by decide, by decide, by decide, by decide⟩
  · exact ⟨by omega, 92, _, by rw [e]; exact ht, by decide, by decide, by decide, by decide⟩
section
variable {w0 w : World} {gl g : Nat} {l : List Int} {room left : Int} {v : Value} {o : List (List Int)}
theorem RG.off (h : RG w0 w gl g l room left v o) : ∀ k, R2 gl g k → w0.heap.size ≤ k ∧ OffL w k := off2 h.rb h.rt h.ge h.ge2
/-- The program's log worked. -/
theorem RG.by_ (h : RG w0 w gl g l room left v o) {gl1 g1 c1 : Nat} {A1 : Option Addr} {l1 : List Int} {room1 left1 : Int} {v1 : Value} {o1 : List (List Int)} (hL : LG w0 w gl1 g1 A1 c1 l1 room1 left1 v1 o1) {W : World} (hf : Fr (LS gl1 g1 (.slice A1 l1.length c1) v1) w W) : RG w0 W gl g l room left v o :=
  ⟨hL.blk h.rb (by decide) hf, hL.blk h.rt (by decide) hf, h.ge, h.ge2, hL.keep9 h.r hf, h.fr.trans hf (fun k hk => .inr (hL.ls k hk))⟩
/-- One block of another type is written. -/
theorem RG.at_ (h : RG w0 w gl g l room left v o) {k t : Nat} {cells : Array Value} (hb : w.heap[k]? = some (.cells cells t (0, 0))) (ht : t ≠ 116 ∧ t ≠ 92 ∧ t ≠ 9) (hk : w0.heap.size ≤ k) {W : World} (hf : Fr (At k) w W) : RG w0 W gl g l room left v o :=
  ⟨hf.blk h.rb (fun (e : gl = k) => blk_ne h.rb hb (fun e => ht.1 e.symm) e), hf.blk h.rt (fun (e : g = k) => blk_ne h.rt hb (fun e => ht.2.1 e.symm) e), h.ge, h.ge2, Kd.R_mono (keepAt9 h.r hf hb (fun e => ht.2.2 e.symm)) (fun _ _ => trivial), h.fr.trans hf (fun q (hq : q = k) => .inr (by rw [hq]; exact hk))⟩
theorem RG.blk (h : RG w0 w gl g l room left v o) {k t : Nat} {cells : Array Value} (hb : w.heap[k]? = some (.cells cells t (0, 0))) (ht : t ≠ 116 ∧ t ≠ 92) {W : World} (hf : Fr (R2 gl g) w W) : W.heap[k]? = some (.cells cells t (0, 0)) :=
  hf.blk hb (fun hk => hk.elim (fun e => blk_ne hb h.rb ht.1 e) (fun e => blk_ne hb h.rt ht.2 e))
theorem RG.app (h : RG w0 w gl g l room left v o) {b : List Int} (hby : isBytes b) (hlf : left ≤ 9223372036854775807) (hr : (l.length : Int) ≤ room) (hr2 : room ≤ 1048576) (hsz : sizeL o = l.length) :
    Calls Try.prog 76 #[.pointer (some ⟨gl, 0, none⟩), .string (strOfNums b)] w fun e w' => e = .returned (.int .i64 (lapC left room l.length b)) ∧
      ∃ v', RG w0 w' gl g (lapL (lapC left room l.length b) l b) room (lapF left room l.length b) v' (lapO (lapC left room l.length b) o b) ∧ Fr (R2 gl g) w w' := by
  by_cases hbad : b.length < 1 ∨ 16384 < b.length
  · have hc : lapC left room l.length b = 1 := by unfold lapC; rw [if_pos hbad]
    have hf : lapF left room l.length b = left := by unfold lapF; rw [if_pos hbad]
    rw [hc, hf]
    refine (rlapp_bad w gl _ (by rw [strOfNums_size]; exact hbad)).mono ?_
    rintro e w' ⟨rfl, rfl⟩
    exact ⟨rfl, v, h, Fr.refl _ _⟩
  have h1 : 1 ≤ b.length := by omega
  have h2 : b.length ≤ 16384 := by omega
  have hxl := recL_length b
  have hol := sizeL_len o
  by_cases hc0 : apC false left room l.length (recL b).length = 0
  · have hc0' := hc0
    rw [hxl] at hc0'
    have hc : lapC left room l.length b = callC false (callL false left) := by unfold lapC; rw [if_neg hbad, if_pos hc0']
    have hf : lapF left room l.length b = callL false (callL false left) := by unfold lapF; rw [if_neg hbad, if_pos hc0']
    rw [hc, hf]
    by_cases hc1 : callC false (callL false left) = 0
    · rw [hc1]
      exact rlapp3 h hby h1 h2 hlf hr hr2 hsz hc0 hc1 (by omega)
    · unfold lapL lapO
      rw [if_neg hc1, if_neg hc1]
      exact rlapp2 h hby h1 h2 hlf hr hr2 hsz hc0 hc1
  · have hc0' := hc0
    rw [hxl] at hc0'
    have hc : lapC left room l.length b = apC false left room l.length (b.length + 6) := by unfold lapC; rw [if_neg hbad, if_neg hc0']
    have hf : lapF left room l.length b = callL false left := by unfold lapF; rw [if_neg hbad, if_neg hc0']
    rw [hc, hf]
    unfold lapL lapO
    rw [if_neg hc0', if_neg hc0', ← hxl]
    exact rlapp1 h hby h1 h2 hlf hr hr2 hsz hc0
end
theorem LG.crash {w0 w : World} {gl g c : Nat} {A : Option Addr} {l : List Int} {room left : Int} {v : Value} {o : List (List Int)} (h : LG w0 w gl g A c l room left v o) (keep : Int) :
    Calls Try.prog 57 #[.pointer (some ⟨g, 0, none⟩), .int .i64 keep] w fun e w' => e = .returned (.tuple #[]) ∧ TA w0 w' g A c l room l.length true (-1) ∧ Fr (At g) w w' := by
  have := TA.crash h.la.ta (Nat.le_refl _) (by have := h.len; omega) keep
  rw [crashN_self, List.take_length] at this
  exact this
theorem RG.crash {w0 w : World} {gl g : Nat} {l : List Int} {room left : Int} {v : Value} {o : List (List Int)} (h : RG w0 w gl g l room left v o) (hl : l.length ≤ 1048576) (keep : Int) :
    Calls Try.prog 66 #[.pointer (some ⟨g, 0, none⟩), .int .i64 keep] w fun e w' => e = .returned (.tuple #[]) ∧ RL w' g room l.length (-1) l true ∧ Fr (At g) w w' := by
  have := RL.crash_any h.rt (Nat.le_refl _) (by omega) keep
  rw [if_neg (by decide), if_neg (by decide), if_neg (by decide), crashN_self, List.take_length] at this
  exact this

end Go.Proofs.Ythlcognpfangkaa
