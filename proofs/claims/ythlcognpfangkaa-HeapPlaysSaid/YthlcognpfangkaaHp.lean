/- A heap in plain Lean: what pushing and popping come to, of an order by keys and turns (no condition but those named). -/
namespace Go.Proofs.Ythlcognpfangkaa
set_option linter.unusedVariables false
set_option linter.unusedSimpArgs false
section
variable {E : Type}
/-- One is ahead of another one. -/
def hlt (κ τ : E → Int) (a b : E) : Prop := κ a < κ b ∨ (¬ κ b < κ a ∧ τ a < τ b)
def par (j : Nat) : Nat := (j - 1) / 2
/-- Two are swapped. -/
def swp (z : E) (l : List E) (i k : Nat) : List E := (l.set i (l.getD k z)).set k (l.getD i z)
theorem swp_length (z : E) (l : List E) (i k : Nat) : (swp z l i k).length = l.length := by unfold swp; simp
theorem swp_get (z : E) (l : List E) (i k j : Nat) (hi : i < l.length) (hk : k < l.length) : (swp z l i k).getD j z = if j = k then l.getD i z else if j = i then l.getD k z else l.getD j z := by
  unfold swp
  by_cases h1 : j = k
  · subst h1
    rw [if_pos rfl, List.getD_eq_getElem?_getD, List.getElem?_set_self (by simpa using hk)]
    rfl
  · rw [if_neg h1, List.getD_eq_getElem?_getD, List.getElem?_set_ne (fun e => h1 e.symm)]
    by_cases h2 : j = i
    · subst h2
      rw [if_pos rfl, List.getElem?_set_self hi]
      rfl
    · rw [if_neg h2, List.getElem?_set_ne (fun e => h2 e.symm), ← List.getD_eq_getElem?_getD]
theorem getD_at (z : E) (l : List E) (i : Nat) (h : i < l.length) : l.getD i z = l[i] := by
  rw [List.getD_eq_getElem?_getD, List.getElem?_eq_getElem h]; rfl
theorem swp_perm (z : E) (l : List E) (i k : Nat) (hi : i < l.length) (hk : k < l.length) : (swp z l i k).Perm l := by
  unfold swp
  rw [getD_at z l i hi, getD_at z l k hk]
  exact List.set_set_perm hi hk
end

section
variable {E : Type} (κ τ : E → Int) (z : E)
def HeapL (l : List E) : Prop := ∀ j, 0 < j → j < l.length → ¬ hlt κ τ (l.getD j z) (l.getD (par j) z)
structure UpL (l0 l : List E) (i : Nat) : Prop where
  perm : l.Perm l0
  lti : i < l.length
  h1 : ∀ j, 0 < j → j < l.length → j ≠ i → ¬ hlt κ τ (l.getD j z) (l.getD (par j) z)
  h2 : ∀ j, 0 < j → j < l.length → par j = i → 0 < i → ¬ hlt κ τ (l.getD j z) (l.getD (par i) z)
structure DnL (l0 l : List E) (i : Nat) : Prop where
  perm : l.Perm l0
  h1 : ∀ j, 0 < j → j < l.length → par j ≠ i → ¬ hlt κ τ (l.getD j z) (l.getD (par j) z)
  h2 : ∀ j, 0 < j → j < l.length → par j = i → 0 < i → ¬ hlt κ τ (l.getD j z) (l.getD (par i) z)
/-- The best one of a place and those behind it, ahead of k. -/
structure BsL (l : List E) (i k b : Nat) : Prop where
  is : b = i ∨ (2 * i + 1 ≤ b ∧ b < k)
  lt : b < l.length
  lo : 2 * i + 1 ≤ k
  all : ∀ c, 2 * i + 1 ≤ c → c < k → ¬ hlt κ τ (l.getD c z) (l.getD b z)
  up : b ≠ i → hlt κ τ (l.getD b z) (l.getD i z)
variable {κ τ z}
theorem append_left_get (l : List E) (e : E) (j : Nat) (h : j < l.length) : (l ++ [e]).getD j z = l.getD j z := by
  rw [List.getD_eq_getElem?_getD, List.getElem?_append_left h, ← List.getD_eq_getElem?_getD]
theorem UpL.start {l : List E} (h : HeapL κ τ z l) (e : E) : UpL κ τ z (l ++ [e]) (l ++ [e]) l.length where
  perm := List.Perm.refl _
  lti := by simp
  h1 := fun j h0 hj hne => by
    have hl : (l ++ [e]).length = l.length + 1 := by simp
    have hp : par j < l.length := by unfold par; omega
    rw [append_left_get l e j (by omega), append_left_get l e _ hp]
    exact h j h0 (by omega)
  h2 := fun j h0 hj he => by
    have hl : (l ++ [e]).length = l.length + 1 := by simp
    unfold par at he
    omega
theorem UpL.done {l0 l : List E} {i : Nat} (h : UpL κ τ z l0 l i) (hd : i = 0 ∨ ¬ hlt κ τ (l.getD i z) (l.getD (par i) z)) : HeapL κ τ z l := by
  intro j h0 hj
  by_cases hji : j = i
  · subst hji
    exact hd.resolve_left (by omega)
  · exact h.h1 j h0 hj hji
theorem UpL.step {l0 l : List E} {i : Nat} (h : UpL κ τ z l0 l i) (h0 : 0 < i) (hl : hlt κ τ (l.getD i z) (l.getD (par i) z)) : UpL κ τ z l0 (swp z l i (par i)) (par i) := by
  have hi := h.lti
  have hpi : par i < i := by unfold par; omega
  have hp : par i < l.length := by omega
  refine ⟨(swp_perm z l i _ hi hp).trans h.perm, by rw [swp_length]; exact hp, fun j hj0 hj hne => ?_, fun j hj0 hj he hp0 => ?_⟩
  · rw [swp_length] at hj
    rw [swp_get z l i _ j hi hp, swp_get z l i _ (par j) hi hp, if_neg hne]
    by_cases hji : j = i
    · subst hji
      rw [if_pos rfl, if_pos rfl]
      unfold hlt at hl ⊢
      omega
    · rw [if_neg hji]
      have a1 := h.h1 j hj0 hj hji
      by_cases hjp : par j = par i
      · rw [if_pos hjp]
        rw [hjp] at a1
        unfold hlt at hl a1 ⊢
        omega
      · rw [if_neg hjp]
        by_cases hjq : par j = i
        · rw [if_pos hjq]
          exact h.h2 j hj0 hj hjq h0
        · rw [if_neg hjq]
          exact a1
  · rw [swp_length] at hj
    have hpp : par (par i) < par i := by unfold par at hp0 ⊢; omega
    have a2 := h.h1 (par i) hp0 hp (by omega)
    have hjne : j ≠ par i := fun e => by have : par j < j := by unfold par; omega
                                         rw [he] at this; omega
    rw [swp_get z l i _ j hi hp, swp_get z l i _ (par (par i)) hi hp, if_neg hjne, if_neg (show par (par i) ≠ par i by omega), if_neg (show par (par i) ≠ i by omega)]
    by_cases hji : j = i
    · rw [if_pos hji]; exact a2
    · rw [if_neg hji]
      have a1 := h.h1 j hj0 hj hji
      rw [he] at a1
      unfold hlt at a1 a2 ⊢
      omega
theorem DnL.done {l0 l : List E} {i : Nat} (h : DnL κ τ z l0 l i) (hd : ∀ j, 0 < j → j < l.length → par j = i → ¬ hlt κ τ (l.getD j z) (l.getD i z)) : HeapL κ τ z l := by
  intro j h0 hj
  by_cases hji : par j = i
  · rw [hji]; exact hd j h0 hj hji
  · exact h.h1 j h0 hj hji
theorem DnL.step {l0 l : List E} {i b : Nat} (h : DnL κ τ z l0 l i) (hb0 : 0 < b) (hb : b < l.length) (hpb : par b = i) (hl : hlt κ τ (l.getD b z) (l.getD i z))
    (hall : ∀ j, 0 < j → j < l.length → par j = i → ¬ hlt κ τ (l.getD j z) (l.getD b z)) : DnL κ τ z l0 (swp z l i b) b := by
  have hib : i < b := by unfold par at hpb; omega
  have hi : i < l.length := by omega
  refine ⟨(swp_perm z l i _ hi hb).trans h.perm, fun j hj0 hj hne => ?_, fun j hj0 hj he _ => ?_⟩
  · rw [swp_length] at hj
    rw [swp_get z l i _ j hi hb, swp_get z l i _ (par j) hi hb, if_neg hne]
    by_cases hjp : par j = i
    · rw [if_pos hjp]
      by_cases hjb : j = b
      · rw [if_pos hjb]
        unfold hlt at hl ⊢
        omega
      · have hji : j ≠ i := by unfold par at hjp; omega
        rw [if_neg hjb, if_neg hji]
        exact hall j hj0 hj hjp
    · rw [if_neg hjp]
      have hjb : j ≠ b := fun e => hjp (by rw [e]; exact hpb)
      rw [if_neg hjb]
      by_cases hji : j = i
      · rw [if_pos hji, hji]
        exact h.h2 b hb0 hb hpb (by omega)
      · rw [if_neg hji]
        exact h.h1 j hj0 hj hjp
  · rw [swp_length] at hj
    have hbj : b < j := by unfold par at he; omega
    rw [hpb, swp_get z l i _ j hi hb, swp_get z l i _ i hi hb, if_neg (by omega), if_neg (by omega), if_neg (by omega), if_pos rfl]
    have := h.h1 j hj0 hj (by omega)
    rw [he] at this
    exact this
theorem BsL.start {l : List E} {i : Nat} (hi : i < l.length) : BsL κ τ z l i (2 * i + 1) i := ⟨.inl rfl, hi, Nat.le_refl _, fun c h1 h2 => by omega, fun h => absurd rfl h⟩
theorem BsL.yes {l : List E} {i k b : Nat} (h : BsL κ τ z l i k b) (hk : k < l.length) (hlt' : hlt κ τ (l.getD k z) (l.getD b z)) : BsL κ τ z l i (k + 1) k := by
  refine ⟨.inr ⟨h.lo, Nat.lt_succ_self _⟩, hk, Nat.le_succ_of_le h.lo, fun c h1 h2 => ?_, fun _ => ?_⟩
  · by_cases hc : c = k
    · subst hc; unfold hlt; omega
    · have := h.all c h1 (by omega)
      unfold hlt at this hlt' ⊢
      omega
  · by_cases hb : b = i
    · rw [hb] at hlt'; exact hlt'
    · have := h.up hb
      unfold hlt at this hlt' ⊢
      omega
theorem BsL.no {l : List E} {i k b : Nat} (h : BsL κ τ z l i k b) (hlt' : ¬ hlt κ τ (l.getD k z) (l.getD b z)) : BsL κ τ z l i (k + 1) b := by
  refine ⟨h.is.imp_right (fun h => ⟨h.1, by omega⟩), h.lt, Nat.le_succ_of_le h.lo, fun c h1 h2 => ?_, h.up⟩
  by_cases hc : c = k
  · rw [hc]; exact hlt'
  · exact h.all c h1 (by omega)
/-- All that are behind a place have been asked. -/
theorem BsL.whole {l : List E} {i k b : Nat} (h : BsL κ τ z l i k b) (hk : k = 2 * i + 3 ∨ l.length ≤ k) : ∀ j, 0 < j → j < l.length → par j = i → ¬ hlt κ τ (l.getD j z) (l.getD b z) := by
  intro j h0 hj hp
  unfold par at hp
  exact h.all j (by omega) (by omega)
theorem BsL.over {l0 l : List E} {i k b : Nat} (hd : DnL κ τ z l0 l i) (h : BsL κ τ z l i k b) (hk : k = 2 * i + 3 ∨ l.length ≤ k) (hb : b = i) : HeapL κ τ z l := by
  subst hb
  exact hd.done (h.whole hk)
theorem BsL.next {l0 l : List E} {i k b : Nat} (hd : DnL κ τ z l0 l i) (h : BsL κ τ z l i k b) (hk : k = 2 * i + 3 ∨ l.length ≤ k) (hk2 : k ≤ 2 * i + 3) (hb : b ≠ i) : DnL κ τ z l0 (swp z l i b) b ∧ i < b := by
  have hr := h.is.resolve_left hb
  exact ⟨hd.step (by omega) h.lt (by unfold par; omega) (h.up hb) (h.whole hk), by omega⟩
/-- The last one goes to the head, and the head goes. -/
theorem DnL.start {l : List E} {n : Nat} (h : HeapL κ τ z l) (hn : l.length = n + 1) : DnL κ τ z ((swp z l 0 n).take n) ((swp z l 0 n).take n) 0 ∧ l.Perm (l.getD 0 z :: (swp z l 0 n).take n) ∧ ((swp z l 0 n).take n).length = n := by
  have hlen : ((swp z l 0 n).take n).length = n := by rw [List.length_take, swp_length]; omega
  have hg : ∀ j, j < n → ((swp z l 0 n).take n).getD j z = (swp z l 0 n).getD j z := fun j hj => by
    rw [List.getD_eq_getElem?_getD, List.getElem?_take, if_pos hj, ← List.getD_eq_getElem?_getD]
  refine ⟨⟨List.Perm.refl _, fun j h0 hj hp => ?_, fun j h0 hj he h1 => by omega⟩, ?_, hlen⟩
  · rw [hlen] at hj
    have hpj : par j < n := by unfold par; omega
    rw [hg j hj, hg _ hpj, swp_get z l 0 n j (by omega) (by omega), swp_get z l 0 n (par j) (by omega) (by omega), if_neg (by omega), if_neg (by omega), if_neg (by omega), if_neg hp]
    exact h j h0 (by omega)
  · have hs : swp z l 0 n = (swp z l 0 n).take n ++ [l.getD 0 z] := by
      apply List.ext_getElem?
      intro j
      by_cases hj : j < n
      · rw [List.getElem?_append_left (by omega), List.getElem?_take, if_pos hj]
      · by_cases hj2 : j = n
        · subst hj2
          rw [List.getElem?_append_right (by omega), hlen, Nat.sub_self, List.getElem?_eq_getElem (by rw [swp_length]; omega), ← getD_at z _ _ (by rw [swp_length]; omega), swp_get z l 0 j j (by omega) (by omega), if_pos rfl]
          rfl
        · rw [List.getElem?_eq_none (by rw [swp_length]; omega), List.getElem?_eq_none (by rw [List.length_append, hlen]; simp; omega)]
    refine ((swp_perm z l 0 n (by omega) (by omega)).symm.trans ?_)
    conv => lhs; rw [hs]
    exact List.perm_append_singleton _ _
/-- None is ahead of the head. -/
theorem HeapL.head {l : List E} (h : HeapL κ τ z l) : ∀ j, j < l.length → ¬ hlt κ τ (l.getD j z) (l.getD 0 z) := by
  intro j
  induction j using Nat.strongRecOn with
  | _ j ih =>
    intro hj
    by_cases h0 : j = 0
    · subst h0; unfold hlt; omega
    · have hp : par j < j := by unfold par; omega
      have a := ih (par j) hp (by omega)
      have b := h j (by omega) hj
      unfold hlt at a b ⊢
      omega
theorem HeapL.head_mem {l : List E} (h : HeapL κ τ z l) : ∀ e ∈ l, ¬ hlt κ τ e (l.getD 0 z) := by
  intro e he
  obtain ⟨j, hj, rfl⟩ := List.mem_iff_getElem.1 he
  rw [← getD_at z l j hj]
  exact h.head j hj
theorem HeapL.nil : HeapL κ τ z [] := fun j h0 hj => by simp at hj
end
end Go.Proofs.Ythlcognpfangkaa
