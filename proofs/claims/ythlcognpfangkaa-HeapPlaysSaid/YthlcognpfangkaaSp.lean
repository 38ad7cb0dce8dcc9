/- What the two Readers' methods come to, in one word for both: wordS, textS (no condition but the readers' blocks). -/
import Derived.Test.YthlcognpfangkaaMt
namespace Go.Proofs.Ythlcognpfangkaa
open Go.RowKit Go.Proofs.YthlcognpfangkaaW.PrintWords Go.Proofs.YthlcognpfangkaaW.PrintLast Go.Proofs.YthlcognpfangkaaW.PrintMore
set_option linter.unusedVariables false
set_option linter.unusedSimpArgs false

open Classical in
/-- Reading a number: its value, how far it is read then, and where something is amiss. -/
noncomputable def wordS (l : List Int) (a : Nat) (b m : Int) : Int × Nat × Int :=
  if b = -1 then (if isW m ∧ a + m ≤ l.length then (vb ((l.drop a).take m.toNat), a + m.toNat, -1) else (0, a, (a : Int))) else (0, a, b)
/-- The length that a text has. -/
def textN (l : List Int) (a : Nat) : Nat := (vb ((l.drop a).take 2)).toNat
open Classical in
/-- Reading a text. -/
noncomputable def textS (l : List Int) (a : Nat) (b most : Int) : List Int × Nat × Int :=
  if b = -1 then (if a + 2 ≤ l.length ∧ textN l a ≤ most ∧ a + 2 + textN l a ≤ l.length then ((l.drop (a + 2)).take (textN l a), a + 2 + textN l a, -1) else ([], a, (a : Int))) else ([], a, b)

/-- A reader's state: as far as there are bytes, and amiss at no place or at one. -/
def okS (l : List Int) (a : Nat) (b : Int) : Prop := a ≤ l.length ∧ (b = -1 ∨ 0 ≤ b)
theorem wordS_ok {l : List Int} {a : Nat} {b : Int} (m : Int) (h : okS l a b) : okS l (wordS l a b m).2.1 (wordS l a b m).2.2 := by
  unfold wordS okS
  split
  · split
    · rename_i h2
      obtain ⟨h3, h4⟩ := h2
      obtain ⟨k, rfl, _, _⟩ := isW_cases h3
      exact ⟨by simp only [Int.toNat_natCast]; omega, .inl rfl⟩
    · exact ⟨h.1, .inr (by simp)⟩
  · exact h
theorem textS_ok {l : List Int} {a : Nat} {b : Int} (m : Int) (h : okS l a b) : okS l (textS l a b m).2.1 (textS l a b m).2.2 := by
  unfold textS okS
  split
  · split
    · rename_i h2
      exact ⟨h2.2.2, .inl rfl⟩
    · exact ⟨h.1, .inr (by simp)⟩
  · exact h
theorem textS_len (l : List Int) (a : Nat) (b m : Int) : (textS l a b m).1.length ≤ l.length := by
  unfold textS
  split
  · split
    · simp; omega
    · simp
  · simp

theorem mNum_vb (l : List Int) (hb : ∀ x ∈ l, 0 ≤ x ∧ x ≤ 255) (hl : l.length ≤ 8) : mNum l = vb l := by
  have key : ∀ (l : List Int) (acc : Int) (k : Nat), (∀ x ∈ l, 0 ≤ x ∧ x ≤ 255) → 0 ≤ acc → acc < 256 ^ k → k + l.length ≤ 8 → l.foldl mStep acc = l.foldl vStep acc := by
    intro l
    induction l with
    | nil => intro acc k _ _ _ _; rfl
    | cons x l ih =>
      intro acc k hb h0 h1 hk
      have hx := hb x List.mem_cons_self
      rw [List.length_cons] at hk
      have h7 : (256 : Int) ^ k ≤ 256 ^ 7 := by
        have h : ((256 ^ k : Nat) : Int) ≤ ((256 ^ 7 : Nat) : Int) := Int.ofNat_le.mpr (Nat.pow_le_pow_right (by omega) (by omega))
        rw [Int.natCast_pow, Int.natCast_pow] at h
        exact h
      have e7 : (256 : Int) ^ 7 = 72057594037927936 := by decide
      have hs : mStep acc x = vStep acc x := by
        unfold mStep vStep
        rw [u64w (256 * acc) (by omega) (by omega), u64w _ (by omega) (by omega)]
      rw [List.foldl_cons, List.foldl_cons, hs]
      refine ih _ (k + 1) (fun y hy => hb y (List.mem_cons_of_mem _ hy)) (by unfold vStep; omega) (by unfold vStep; rw [Int.pow_succ]; omega) (by omega)
  exact key l 0 0 hb (by omega) (by omega) (by omega)

theorem cut_bytes {l : List Int} (hb : ∀ x ∈ l, 0 ≤ x ∧ x ≤ 255) (a k : Nat) : ∀ x ∈ (l.drop a).take k, 0 ≤ x ∧ x ≤ 255 := fun x hx => hb x (List.mem_of_mem_drop (List.mem_of_mem_take hx))
theorem textN_le {l : List Int} (hb : ∀ x ∈ l, 0 ≤ x ∧ x ≤ 255) (a : Nat) (h : a + 2 ≤ l.length) : textN l a ≤ 65535 ∧ wNum ((l.drop a).take 2) = textN l a ∧ mNum ((l.drop a).take 2) = textN l a := by
  have hl : ((l.drop a).take 2).length = 2 := by rw [List.length_take, List.length_drop]; omega
  obtain ⟨h1, h2, h3⟩ := wNum_vb ((l.drop a).take 2) (cut_bytes hb a 2) (by omega)
  have h4 := mNum_vb ((l.drop a).take 2) (cut_bytes hb a 2) (by omega)
  rw [hl] at h3
  unfold textN
  have e : (256 : Int) ^ 2 = 65536 := by decide
  rw [h1, h4]
  omega

section
variable (w0 w : World) (g : Nat) (A : Option Addr) (c : Nat) (l : List Int) (a : Nat) (b m : Int)
theorem word_any (hB : Below w0.heap.size w0 w) (hg : w0.heap.size ≤ g) (hr : Kd.C (Kd.int .u8) w0 A l.length l) (hc : l.length ≤ c) (hb : ∀ x ∈ l, 0 ≤ x ∧ x ≤ 255) (hl : l.length ≤ 9223372036854700000) (h : Rb w g A l.length c a b) (hs : okS l a b) :
    Calls Try.prog 40 #[.pointer (some ⟨g, 0, none⟩), .int .i64 m] w fun e w' => e = .returned (.int .u64 (wordS l a b m).1) ∧ Rb w' g A l.length c (wordS l a b m).2.1 (wordS l a b m).2.2 ∧ Fr (At g) w w' := by
  unfold wordS
  by_cases h1 : b = -1
  · subst h1
    rw [if_pos rfl]
    by_cases hm : isW m
    · by_cases h2 : a + m ≤ l.length
      · rw [if_pos ⟨hm, h2⟩]
        obtain ⟨k, rfl, h3, h4⟩ := isW_cases hm
        have := word_yes w0 w g A c l a k hB hg hr hc hb h hm (by omega)
        rw [(wNum_vb _ (cut_bytes hb a k) (by rw [List.length_take]; omega)).1] at this
        rw [Int.toNat_natCast]
        exact this
      · rw [if_neg (fun x => h2 x.2)]
        have := word_no w g A l.length c a (-1) m h (by omega) (by have := hs.1; omega) (by omega) hm (.inr (by omega))
        rw [nb_eq] at this
        exact this
    · rw [if_neg (fun x => hm x.1)]
      have := word_not w g A l.length c a (-1) m h hm
      rw [nb_eq] at this
      exact this
  · rw [if_neg h1]
    by_cases hm : isW m
    · have := word_no w g A l.length c a b m h (by omega) (by have := hs.1; omega) (by omega) hm (.inl h1)
      rw [nb_ne _ _ h1] at this
      exact this
    · have := word_not w g A l.length c a b m h hm
      rw [nb_ne _ _ h1] at this
      exact this
theorem mword_any (hB : Below w0.heap.size w0 w) (hg : w0.heap.size ≤ g) (hr : Kd.C (Kd.int .u8) w0 A l.length l) (hc : l.length ≤ c) (hb : ∀ x ∈ l, 0 ≤ x ∧ x ≤ 255) (hl : l.length ≤ 9223372036854700000) (h : Mb w g A l.length c a b) (hs : okS l a b) :
    Calls Try.prog 41 #[.pointer (some ⟨g, 0, none⟩), .int .i64 m] w fun e w' => e = .returned (.int .u64 (wordS l a b m).1) ∧ Mb w' g A l.length c (wordS l a b m).2.1 (wordS l a b m).2.2 ∧ Fr (At g) w w' := by
  unfold wordS
  by_cases h1 : b = -1
  · subst h1
    rw [if_pos rfl]
    by_cases h2 : isW m ∧ a + m ≤ l.length
    · rw [if_pos h2]
      obtain ⟨k, rfl, h3, h4⟩ := isW_cases h2.1
      have := mword_yes w0 w g A c l a k hB hg hr hc hb h h2.1 (by omega) (by omega)
      rw [mNum_vb _ (cut_bytes hb a k) (by rw [List.length_take]; omega)] at this
      rw [Int.toNat_natCast]
      exact this
    · rw [if_neg h2]
      refine mword_no w g A l.length c a m h hs.1 (by omega) ?_
      by_cases hm : isW m
      · exact .inr (by rw [← Int.not_le]; exact fun x => h2 ⟨hm, x⟩)
      · exact .inl hm
  · rw [if_neg h1]
    exact mword_bad w g A l.length c a b m h (by rcases hs.2 with h | h; exact absurd h h1; exact h)
theorem text_any (hB : Below w0.heap.size w0 w) (hg : w0.heap.size ≤ g) (hr : Kd.C (Kd.int .u8) w0 A l.length l) (hc : l.length ≤ c) (hb : ∀ x ∈ l, 0 ≤ x ∧ x ≤ 255) (hl : l.length ≤ 9223372036854700000) (h : Rb w g A l.length c a b) (hs : okS l a b) :
    Calls Try.prog 38 #[.pointer (some ⟨g, 0, none⟩), .int .i64 m] w fun e w' => ∃ v, e = .returned v ∧ Kd.R (Kd.int .u8) 5 w' w.heap.size (fun _ => True) v (textS l a b m).1 ∧ Rb w' g A l.length c (textS l a b m).2.1 (textS l a b m).2.2 ∧ Fr (At g) w w' := by
  unfold textS
  by_cases h1 : b = -1
  · subst h1
    rw [if_pos rfl]
    by_cases h2 : a + 2 ≤ l.length
    · obtain ⟨n1, n2, n3⟩ := textN_le hb a h2
      by_cases h3 : textN l a ≤ m ∧ a + 2 + textN l a ≤ l.length
      · rw [if_pos ⟨h2, h3⟩]
        exact text_yes w0 w g A c l a (textN l a) m hB hg hr hc hb h h2 n2 n1 h3.1 h3.2
      · rw [if_neg (fun x => h3 x.2)]
        refine (text_long w0 w g A c l a (textN l a) m hB hg hr hc hb h h2 n2 n1 ?_).mono fun e w' ⟨he, hb, hf⟩ => ⟨_, he, Kd.R_nil _ _ _ _ _, hb, hf⟩
        by_cases h4 : textN l a ≤ m
        · exact .inr (by have : ¬ a + 2 + textN l a ≤ l.length := fun x => h3 ⟨h4, x⟩; omega)
        · exact .inl (by omega)
    · rw [if_neg (fun x => h2 x.1)]
      exact (text_short w g A l.length c a m h hs.1 (by omega) (by omega)).mono fun e w' ⟨he, hb, hf⟩ => ⟨_, he, Kd.R_nil _ _ _ _ _, hb, hf⟩
  · rw [if_neg h1]
    exact (text_bad w g A l.length c a b m h hs.1 (by omega) h1).mono fun e w' ⟨he, hb, hf⟩ => ⟨_, he, Kd.R_nil _ _ _ _ _, hb, hf⟩
theorem mtext_any (hB : Below w0.heap.size w0 w) (hg : w0.heap.size ≤ g) (hr : Kd.C (Kd.int .u8) w0 A l.length l) (hc : l.length ≤ c) (hb : ∀ x ∈ l, 0 ≤ x ∧ x ≤ 255) (hl : l.length ≤ 9223372036854700000) (h : Mb w g A l.length c a b) (hs : okS l a b) :
    Calls Try.prog 39 #[.pointer (some ⟨g, 0, none⟩), .int .i64 m] w fun e w' => ∃ v, e = .returned v ∧ Kd.R (Kd.int .u8) 5 w' w.heap.size (fun _ => True) v (textS l a b m).1 ∧ Mb w' g A l.length c (textS l a b m).2.1 (textS l a b m).2.2 ∧ Fr (At g) w w' := by
  unfold textS
  by_cases h1 : b = -1
  · subst h1
    rw [if_pos rfl]
    by_cases h2 : a + 2 ≤ l.length
    · obtain ⟨n1, n2, n3⟩ := textN_le hb a h2
      by_cases h3 : textN l a ≤ m ∧ a + 2 + textN l a ≤ l.length
      · rw [if_pos ⟨h2, h3⟩]
        exact mtext_yes w0 w g A c l a (textN l a) m hB hg hr hc hb h h2 (by omega) n3 n1 h3.1 h3.2
      · rw [if_neg (fun x => h3 x.2)]
        refine (mtext_long w0 w g A c l a (textN l a) m hB hg hr hc hb h h2 (by omega) n3 n1 ?_).mono fun e w' ⟨he, hb, hf⟩ => ⟨_, he, Kd.R_nil _ _ _ _ _, hb, hf⟩
        by_cases h4 : textN l a ≤ m
        · exact .inr (by have : ¬ a + 2 + textN l a ≤ l.length := fun x => h3 ⟨h4, x⟩; omega)
        · exact .inl (by omega)
    · rw [if_neg (fun x => h2 x.1)]
      exact (mtext_short w g A l.length c a m h hs.1 (by omega) (by omega)).mono fun e w' ⟨he, hb, hf⟩ => ⟨_, he, Kd.R_nil _ _ _ _ _, hb, hf⟩
  · rw [if_neg h1]
    exact (mtext_bad w g A l.length c a b m h (by rcases hs.2 with h | h; exact absurd h h1; exact h)).mono fun e w' ⟨he, hb, hf⟩ => ⟨_, he, Kd.R_nil _ _ _ _ _, hb, hf⟩
end
end Go.Proofs.Ythlcognpfangkaa
