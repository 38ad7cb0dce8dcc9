/- A tape and the document's: each method over all its cases (no condition but their blocks). -/
import Derived.Test.YthlcognpfangkaaRt
namespace Go.Proofs.Ythlcognpfangkaa
open Go.RowKit Go.Proofs.YthlcognpfangkaaW.PrintWords Go.Proofs.YthlcognpfangkaaW.PrintLast Go.Proofs.YthlcognpfangkaaW.PrintMore
set_option linter.unusedVariables false
set_option linter.unusedSimpArgs false

theorem pick_calls (w : World) (c : Int) (h0 : -9223372036854775808 ≤ c) (h1 : c ≤ 9223372036854775807) : Calls Try.prog 60 #[.int .i64 c, .int .i64 6] w fun e w' => ∃ r : Int, (0 ≤ r ∧ r < 6) ∧ e = .returned (.int .i64 r) ∧ w = w' := by
  have h60 : ((6 : Int) == 0) = false := rfl
  by_cases hc : c < 0
  · have hb : decide (c < 0) = true := decide_eq_true hc
    obtain ⟨k, hk⟩ : ∃ k : Nat, -(c + 1) = k := ⟨(-(c + 1)).toNat, by omega⟩
    have hw1 : IntKind.i64.wrap (c + 1) = c + 1 := IntWalk.i64_in _ (by omega)
    have hw2 : IntKind.i64.wrap (-(c + 1)) = k := by rw [hk]; exact IntWalk.i64_in _ (by omega)
    have ht : Int.tmod (k : Int) 6 = ((k % 6 : Nat) : Int) := rfl
    have hlt : k % 6 < 6 := Nat.mod_lt _ (by omega)
    generalize k % 6 = r at ht hlt
    go_enter Try.func60, Try.ntmps60
    go_wp2
    go_ret
    refine ⟨(r : Int), by omega, ?_, rfl⟩
    first | rfl | (simp [*]; done) | skip
  · have hb : decide (c < 0) = false := decide_eq_false hc
    obtain ⟨k, rfl⟩ := Int.eq_ofNat_of_zero_le (show 0 ≤ c by omega)
    have ht : Int.tmod (k : Int) 6 = ((k % 6 : Nat) : Int) := rfl
    have hlt : k % 6 < 6 := Nat.mod_lt _ (by omega)
    generalize k % 6 = r at ht hlt
    go_enter Try.func60, Try.ntmps60
    go_wp2
    go_ret
    refine ⟨(r : Int), by omega, ?_, rfl⟩
    first | rfl | (simp [*]; done) | skip

theorem code_any (w : World) (c : Nat) (h : c ≤ 10) : Calls Try.prog 51 #[errOf c] w fun e w' => e = .returned (.int .i64 c) ∧ w = w' := by
  by_cases h0 : c = 0
  · subst h0; exact code_nil w
  · rw [errOf_pos h0]; exact code_some w c (by omega) h

theorem callC_le (down : Bool) (left : Int) : callC down left ≤ 10 := by unfold callC; split; · omega
                                                                         · split <;> omega
theorem callL_le {down : Bool} {left : Int} (h : left ≤ 9223372036854775807) : callL down left ≤ 9223372036854775807 := by unfold callL; split; · exact h
                                                                                                                           · split
                                                                                                                             · omega
                                                                                                                             · split <;> omega
/-- What an append comes to. -/
def apC (down : Bool) (left room : Int) (n m : Nat) : Nat := if callC down left = 0 then (if room - n < m then 6 else 0) else callC down left
def apL (c : Nat) (l m : List Int) : List Int := if c = 0 then l ++ m else l
theorem apC_le (down : Bool) (left room : Int) (n m : Nat) : apC down left room n m ≤ 10 := by
  unfold apC
  split
  · split <;> omega
  · exact callC_le _ _
def cutC (down : Bool) (n : Int) (len : Nat) : Nat := if down = true then 9 else if n < 0 ∨ (len : Int) < n then 1 else 0
theorem cutC_le (down : Bool) (n : Int) (len : Nat) : cutC down n len ≤ 10 := by
  unfold cutC
  split
  · omega
  · split <;> omega
def cutT (down : Bool) (n : Int) (l : List Int) : List Int := if cutC down n l.length = 0 then l.take n.toNat else l
def cutS (down : Bool) (n : Int) (len s : Nat) : Nat := if cutC down n len = 0 then n.toNat else s

section
variable {w0 w : World} {g c : Nat} {A : Option Addr} {l : List Int} {room left : Int} {s : Nat} {down : Bool}
/-- A tape's slice is another row: the same block, or one that was not there. -/
def Shares (w : World) (A A' : Option Addr) (n c n' c' : Nat) : Prop := (Value.slice A' n' c').ownBlock = (Value.slice A n c).ownBlock ∨ ∃ b, (Value.slice A' n' c').ownBlock = some b ∧ w.heap.size ≤ b
theorem TA.app_any (h : TA w0 w g A c l room s down left) {B : Option Addr} {d : Nat} {m : List Int} (hm : Kd.C (Kd.int .u8) w B m.length m) (hB : ∀ ad, B = some ad → 0 < m.length → ad.block ≠ g) (hl : left ≤ 9223372036854775807) (hr0 : 0 ≤ room) (hr1 : room ≤ 1048576) (hn : l.length ≤ room) (hm2 : m.length ≤ 140737488355000) :
    Calls Try.prog 55 #[.pointer (some ⟨g, 0, none⟩), .slice B m.length d] w fun e w' => e = .returned (errOf (apC down left room l.length m.length)) ∧ ∃ A' c', TA w0 w' g A' c' (apL (apC down left room l.length m.length) l m) room s down (callL down left) ∧ Fr (TS g (.slice A l.length c)) w w' ∧
      Shares w A A' l.length c (apL (apC down left room l.length m.length) l m).length c' := by
  unfold apC apL
  by_cases hc : callC down left = 0
  · rw [if_pos hc]
    by_cases hf : room - l.length < m.length
    · rw [if_pos hf, if_neg (by omega)]
      exact (tappend_full w g A c l.length room s left down B d m.length h.t hl hc hr0 hr1 (by omega) hf hm2).mono fun e w' ⟨he, ht, hf'⟩ =>
        ⟨he, A, c, ⟨ht, hf'.Rtyp h.r h.t (by decide), h.ge, h.at_ hf'⟩, hf'.mono (fun k hk => .inl hk), .inl rfl⟩
    · rw [if_neg hf, if_pos rfl]
      exact (h.app hm hB hl hc hr0 hr1 hn (by omega)).mono fun e w' ⟨he, A', c', ht, hf', hs⟩ => ⟨he, A', c', ht, hf', hs⟩
  · rw [if_neg hc, if_neg hc]
    exact (tappend_err w g _ room s left down B d m.length h.t hl hc).mono fun e w' ⟨he, ht, hf'⟩ =>
      ⟨he, A, c, ⟨ht, hf'.Rtyp h.r h.t (by decide), h.ge, h.at_ hf'⟩, hf'.mono (fun k hk => .inl hk), .inl rfl⟩
theorem TA.sync_any (h : TA w0 w g A c l room s down left) (hl : left ≤ 9223372036854775807) :
    Calls Try.prog 56 #[.pointer (some ⟨g, 0, none⟩)] w fun e w' => e = .returned (errOf (callC down left)) ∧ TA w0 w' g A c l room ((if callC down left = 0 then l.length else s : Nat) : Int) down (callL down left) ∧ Fr (At g) w w' :=
  (h.sync hl).mono fun e w' ⟨he, ht, hf⟩ => ⟨he, by split at ht <;> rename_i hc <;> simp only [hc, if_true, if_false] <;> exact ht, hf⟩
theorem TA.cut_any (h : TA w0 w g A c l room s down left) (n : Int) :
    Calls Try.prog 63 #[.pointer (some ⟨g, 0, none⟩), .int .i64 n] w fun e w' => e = .returned (errOf (cutC down n l.length)) ∧ TA w0 w' g A c (cutT down n l) room (cutS down n l.length s) down left ∧ Fr (At g) w w' := by
  unfold cutT cutS
  have hE : cutC down n l.length = if down = true then 9 else if n < 0 ∨ (l.length : Int) < n then 1 else 0 := rfl
  cases down with
  | true =>
    rw [if_pos rfl] at hE
    rw [hE, if_neg (by omega), if_neg (by omega)]
    exact (tcut_down w g _ room s left n h.t).mono fun e w' ⟨he, hw⟩ => ⟨he, by rw [← hw]; exact h, by rw [← hw]; exact Fr.refl _ _⟩
  | false =>
    rw [if_neg (by decide)] at hE
    by_cases hn : n < 0 ∨ (l.length : Int) < n
    · rw [if_pos hn] at hE
      rw [hE, if_neg (by omega), if_neg (by omega)]
      exact (tcut_no w g A c l.length room s left n h.t hn).mono fun e w' ⟨he, hw⟩ => ⟨he, by rw [← hw]; exact h, by rw [← hw]; exact Fr.refl _ _⟩
    · rw [if_neg hn] at hE
      rw [hE, if_pos rfl, if_pos rfl]
      obtain ⟨k, rfl⟩ := Int.eq_ofNat_of_zero_le (show 0 ≤ n by omega)
      have hk : k ≤ l.length := by omega
      rw [Int.toNat_natCast]
      have hlen : (l.take k).length = k := by rw [List.length_take]; omega
      exact (tcut w g A c l w0.heap.size room s left k h.t h.r hk).mono fun e w' ⟨he, ht, hr, hf⟩ => ⟨he, ⟨by rw [hlen]; exact ht, by rw [hlen]; exact hr, h.ge, h.at_ hf⟩, hf⟩
theorem TA.crash_any (h : TA w0 w g A c l room s down left) (hs : s ≤ l.length) (hlen : l.length ≤ 140737488355000) (keep : Int) :
    Calls Try.prog 57 #[.pointer (some ⟨g, 0, none⟩), .int .i64 keep] w fun e w' => e = .returned (.tuple #[]) ∧ TA w0 w' g A c (if down = true then l else l.take (crashN l.length s keep)) room ((if down = true then s else crashN l.length s keep : Nat) : Int) true (if down = true then left else -1) ∧ Fr (At g) w w' := by
  cases down with
  | true => exact (tcrash_down w g _ room s left keep h.t).mono fun e w' ⟨he, hw⟩ => ⟨he, by rw [← hw]; exact h, by rw [← hw]; exact Fr.refl _ _⟩
  | false => exact (h.crash hs hlen keep).mono fun e w' ⟨he, ht, hf⟩ => ⟨he, ht, hf⟩
end

theorem own_len (A : Option Addr) (c n m : Nat) : (Value.slice A n c).ownBlock = (Value.slice A m c).ownBlock := by cases A <;> rfl
theorem apL_len (down : Bool) (left room : Int) (l m : List Int) (h : l.length ≤ room) : l.length ≤ (apL (apC down left room l.length m.length) l m).length ∧ ((apL (apC down left room l.length m.length) l m).length : Int) ≤ room := by
  unfold apL apC
  by_cases hc : callC down left = 0
  · rw [if_pos hc]
    by_cases hf : room - l.length < m.length
    · rw [if_pos hf, if_neg (by omega)]; omega
    · rw [if_neg hf, if_pos rfl, List.length_append]; omega
  · rw [if_neg hc, if_neg hc]; omega
theorem cut_len (down : Bool) (n : Int) (l : List Int) (s : Nat) (h : s ≤ l.length) : cutS down n l.length s ≤ (cutT down n l).length ∧ (cutT down n l).length ≤ l.length := by
  unfold cutS cutT
  by_cases hc : cutC down n l.length = 0
  · rw [if_pos hc, if_pos hc, List.length_take]
    unfold cutC at hc
    split at hc
    · omega
    · split at hc <;> omega
  · rw [if_neg hc, if_neg hc]; omega
theorem crash_len (down : Bool) (keep : Int) (l : List Int) (s : Nat) (h : s ≤ l.length) : (if down = true then s else crashN l.length s keep) ≤ (if down = true then l else l.take (crashN l.length s keep)).length ∧ (if down = true then l else l.take (crashN l.length s keep)).length ≤ l.length := by
  have := crashN_le h keep
  cases down
  · rw [if_neg (by decide), if_neg (by decide), List.length_take]; omega
  · rw [if_pos rfl, if_pos rfl]; omega
theorem TA.ref {w0 w W : World} {g g2 c : Nat} {A : Option Addr} {l : List Int} {room s left : Int} {down : Bool} {cells : Array Value} (h : TA w0 w g A c l room s down left) (hf : Fr (At g2) w W) (hb : w.heap[g2]? = some (.cells cells 92 (0, 0))) (hge : w0.heap.size ≤ g2) : TA w0 W g A c l room s down left :=
  ⟨hf.blk h.t (fun (e : g = g2) => (blk_ne h.t hb (by decide)) e), hf.Rtyp h.r hb (by decide), h.ge, h.fr.trans hf (fun k (hk : k = g2) => .inr (by rw [hk]; exact hge))⟩
/-- A row that is another one is written. -/
theorem TA.away {w0 w W : World} {g c : Nat} {A : Option Addr} {l : List Int} {room s left : Int} {down : Bool} {row : Option Nat} (h : TA w0 w g A c l room s down left) (hg : w.grownBy W row) (h1 : some g ≠ row) (h2 : ∀ k, row = some k → (Value.slice A l.length c).ownBlock ≠ some k) (h3 : ∀ k, row = some k → w0.heap.size ≤ k) : TA w0 W g A c l room s down left :=
  ⟨blk_grown h.t hg h1, Kd.R_grown2 h.r rfl hg (fun k hk e => h2 k hk e.symm), h.ge, h.fr.grown hg (fun k hk => .inr (h3 k hk))⟩

section
variable {w : World} {g : Nat} {l : List Int} {room left : Int} {s : Nat} {down : Bool}
/-- The document's tape at a list of bytes. -/
def RL (w : World) (g : Nat) (room : Int) (s : Nat) (left : Int) (l : List Int) (down : Bool) : Prop := Rf w g room s left (strOfNums l) down
theorem RL.far {g2 : Nat} {W : World} {cells : Array Value} (h : RL w g2 room s left l down) (hf : Fr (At g) w W) (hb : w.heap[g]? = some (.cells cells 135 (0, 0))) : RL W g2 room s left l down := hf.blk h (fun (e : g2 = g) => (blk_ne h hb (by decide)) e)
theorem str_app (a b : List Int) : strOfNums (a ++ b) = strOfNums a ++ strOfNums b := by
  have h := str_add a b
  rw [Lib.toList_data, Lib.toList_data] at h
  exact ByteArray.ext (Array.ext' h)
theorem str_take (l : List Int) (n : Nat) (hn : n ≤ l.length) : (strOfNums l).extract 0 n = strOfNums (l.take n) := by
  apply ByteArray.ext
  apply Array.ext'
  simp [strOfNums, List.map_take]
theorem RL.app_any (h : RL w g room s left l down) {m : List Int} (hl : left ≤ 9223372036854775807) (hn : l.length ≤ 140737488355000) (hm : m.length ≤ 140737488355000) :
    Calls Try.prog 61 #[.pointer (some ⟨g, 0, none⟩), .string (strOfNums m)] w fun e w' => e = .returned (.int .i64 (apC down left room l.length m.length)) ∧ RL w' g room s (callL down left) (apL (apC down left room l.length m.length) l m) down ∧ Fr (At g) w w' := by
  unfold apC apL
  by_cases hc : callC down left = 0
  · rw [if_pos hc]
    by_cases hf : room - l.length < m.length
    · rw [if_pos hf, if_neg (by omega)]
      exact rappend_full w g room s left _ down _ h hl hc (by rw [strOfNums_size]; omega) (by rw [strOfNums_size]; omega) (by rw [strOfNums_size, strOfNums_size]; omega)
    · rw [if_neg hf, if_pos rfl]
      unfold RL
      rw [str_app]
      exact rappend w g room s left _ down _ h hl hc (by rw [strOfNums_size]; omega) (by rw [strOfNums_size]; omega) (by rw [strOfNums_size, strOfNums_size]; omega)
  · rw [if_neg hc, if_neg hc]
    exact rappend_err w g room s left _ down _ h hl hc
theorem RL.sync_any (h : RL w g room s left l down) (hl : left ≤ 9223372036854775807) :
    Calls Try.prog 62 #[.pointer (some ⟨g, 0, none⟩)] w fun e w' => e = .returned (.int .i64 (callC down left)) ∧ RL w' g room (if callC down left = 0 then l.length else s) (callL down left) l down ∧ Fr (At g) w w' := by
  refine (rsync w g room s left _ down h hl).mono fun e w' ⟨he, ht, hf⟩ => ⟨he, ?_, hf⟩
  rw [strOfNums_size] at ht
  unfold RL
  split at ht <;> rename_i hc <;> simp only [hc, if_true, if_false] <;> exact ht
theorem RL.cut_any (h : RL w g room s left l down) (n : Int) :
    Calls Try.prog 64 #[.pointer (some ⟨g, 0, none⟩), .int .i64 n] w fun e w' => e = .returned (.int .i64 (cutC down n l.length)) ∧ RL w' g room (cutS down n l.length s) left (cutT down n l) down ∧ Fr (At g) w w' := by
  unfold cutT cutS
  have hE : cutC down n l.length = if down = true then 9 else if n < 0 ∨ (l.length : Int) < n then 1 else 0 := rfl
  cases down with
  | true =>
    rw [if_pos rfl] at hE
    rw [hE, if_neg (by omega), if_neg (by omega)]
    exact (rcut_down w g room s left n _ h).mono fun e w' ⟨he, hw⟩ => ⟨he, by rw [← hw]; exact h, by rw [← hw]; exact Fr.refl _ _⟩
  | false =>
    rw [if_neg (by decide)] at hE
    by_cases hn : n < 0 ∨ (l.length : Int) < n
    · rw [if_pos hn] at hE
      rw [hE, if_neg (by omega), if_neg (by omega)]
      exact (rcut_no w g room s left n _ h (by rw [strOfNums_size]; exact hn)).mono fun e w' ⟨he, hw⟩ => ⟨he, by rw [← hw]; exact h, by rw [← hw]; exact Fr.refl _ _⟩
    · rw [if_neg hn] at hE
      rw [hE, if_pos rfl, if_pos rfl]
      obtain ⟨k, rfl⟩ := Int.eq_ofNat_of_zero_le (show 0 ≤ n by omega)
      have hk : k ≤ l.length := by omega
      rw [Int.toNat_natCast]
      refine (rcut w g room s left k _ h (by rw [strOfNums_size]; exact hk)).mono fun e w' ⟨he, ht, hf⟩ => ⟨he, ?_, hf⟩
      rw [str_take l k hk] at ht
      exact ht
theorem RL.crash_any (h : RL w g room s left l down) (hs : s ≤ l.length) (hlen : l.length ≤ 140737488355000) (keep : Int) :
    Calls Try.prog 66 #[.pointer (some ⟨g, 0, none⟩), .int .i64 keep] w fun e w' => e = .returned (.tuple #[]) ∧ RL w' g room (if down = true then s else crashN l.length s keep) (if down = true then left else -1) (if down = true then l else l.take (crashN l.length s keep)) true ∧ Fr (At g) w w' := by
  cases down with
  | true => exact (rcrash_down w g room s left keep _ h).mono fun e w' ⟨he, hw⟩ => ⟨he, by rw [← hw]; exact h, by rw [← hw]; exact Fr.refl _ _⟩
  | false =>
    refine (rcrash w g room left keep s _ h (by rw [strOfNums_size]; exact hs) (by rw [strOfNums_size]; exact hlen)).mono fun e w' ⟨he, ht, hf⟩ => ⟨he, ?_, hf⟩
    rw [strOfNums_size, str_take l _ (crashN_le hs keep).1] at ht
    exact ht
end

end Go.Proofs.Ythlcognpfangkaa
