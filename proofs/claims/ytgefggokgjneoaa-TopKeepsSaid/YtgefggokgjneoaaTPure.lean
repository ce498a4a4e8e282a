/- The plain laws of rows kept in a heap: what Push, Fix and Pop make, and what Rows is. Conditions as each theorem has them. -/
import Derived.Test.YtgefggokgjneoaaHeap8
namespace Go.Proofs.Ytgefggokgjneoaa.TPure
open Go.Proofs.Ytgefggokgjneoaa.QT
abbrev Row := S27
/-- a stands ahead of b, or is the same. -/
def le (a b : Row) : Prop := aheadB b a = false
theorem ahead_iff (a b : Row) : aheadB a b = true ↔ a.f2 > b.f2 ∨ a.f2 = b.f2 ∧ (a.f0 < b.f0 ∨ a.f0 = b.f0 ∧ a.f1 < b.f1) := by
  unfold aheadB
  split
  · split <;> simp <;> omega
  · simp; omega
theorem le_iff (a b : Row) : le a b ↔ ¬ (b.f2 > a.f2 ∨ b.f2 = a.f2 ∧ (b.f0 < a.f0 ∨ b.f0 = a.f0 ∧ b.f1 < a.f1)) := by
  unfold le
  rw [← ahead_iff]; simp
theorem le_refl (a : Row) : le a a := by rw [le_iff]; omega
theorem le_trans {a b c : Row} (h : le a b) (k : le b c) : le a c := by rw [le_iff] at *; omega
theorem le_total (a b : Row) : le a b ∨ le b a := by rw [le_iff, le_iff]; omega
theorem le_antisymm {a b : Row} (h : le a b) (k : le b a) : a = b := by
  rw [le_iff] at *
  obtain ⟨a0, a1, a2⟩ := a
  obtain ⟨b0, b1, b2⟩ := b
  simp only at h k
  have h0 : a0 = b0 := by omega
  have h1 : a1 = b1 := by omega
  have h2 : a2 = b2 := by omega
  subst h0; subst h1; subst h2; rfl
theorem le_of_ahead {a b : Row} (h : aheadB a b = true) : le a b := by rw [ahead_iff] at h; rw [le_iff]; omega
theorem not_le_of_ahead {a b : Row} (h : aheadB a b = true) : ¬ le b a := by rw [ahead_iff] at h; rw [le_iff]; omega
instance (a b : Row) : Decidable (le a b) := inferInstanceAs (Decidable (_ = _))
theorem ahead_of_not_le {a b : Row} (h : ¬ le b a) : aheadB a b = true := by unfold le at h; simpa using h

/-! ### Places -/
abbrev at_ (l : List Row) (i : Nat) : Row := l.getD i z27
theorem rd_at (l : List Row) (i : Nat) : rd_T27 l (i : Int) = at_ l i := by unfold rd_T27; rw [Int.toNat_natCast]
theorem lessB_at (l : List Row) (i k : Nat) : lessB l i k = aheadB (at_ l k) (at_ l i) := by unfold lessB; rw [rd_at, rd_at]
theorem at_swap (l : List Row) (i k : Nat) (hi : i < l.length) (hk : k < l.length) (j : Nat) : at_ (swapL l i k) j = if j = k then at_ l i else if j = i then at_ l k else at_ l j := by
  unfold swapL
  rw [rd_at, rd_at]
  unfold at_
  rw [List.getD_eq_getElem?_getD, List.getElem?_set, List.getElem?_set]
  by_cases h1 : j = k
  · subst h1; simp [hk]
  · rw [if_neg (Ne.symm h1), if_neg h1]
    by_cases h2 : j = i
    · subst h2; simp [hi]
    · rw [if_neg (Ne.symm h2), if_neg h2, List.getD_eq_getElem?_getD]
theorem swap_perm (l : List Row) (i k : Nat) (hi : i < l.length) (hk : k < l.length) : (swapL l i k).Perm l := by
  unfold swapL
  rw [rd_at, rd_at]
  have e1 : at_ l i = l[i] := by unfold at_; rw [List.getD_eq_getElem?_getD, List.getElem?_eq_getElem hi]; rfl
  have e2 : at_ l k = l[k] := by unfold at_; rw [List.getD_eq_getElem?_getD, List.getElem?_eq_getElem hk]; rfl
  rw [e1, e2]
  exact List.set_set_perm hi hk

/-! ### The heap -/
def par (i : Nat) : Nat := (i - 1) / 2
def Heap (l : List Row) (n : Nat) : Prop := ∀ i, 0 < i → i < n → le (at_ l i) (at_ l (par i))
def HUp (l : List Row) (n j : Nat) : Prop := (∀ i, 0 < i → i < n → i ≠ j → le (at_ l i) (at_ l (par i))) ∧ (0 < j → ∀ i, 0 < i → i < n → par i = j → le (at_ l i) (at_ l (par j)))
def HDown (l : List Row) (n i : Nat) : Prop := (∀ k, 0 < k → k < n → par k ≠ i → le (at_ l k) (at_ l (par k))) ∧ (0 < i → ∀ k, 0 < k → k < n → par k = i → le (at_ l k) (at_ l (par i)))
theorem up_spec (f : Nat) : ∀ (l : List Row) (j : Nat), j < l.length → j < f → HUp l l.length j → (upL f l j).Perm l ∧ Heap (upL f l j) l.length := by
  induction f with
  | zero => intro l j _ h; omega
  | succ f ih =>
    intro l j hj hf hU
    simp only [upL]
    by_cases h0 : (j - 1) / 2 = j
    · rw [if_pos h0]
      have hz : j = 0 := by omega
      exact ⟨.refl _, fun i h1 h2 => hU.1 i h1 h2 (by omega)⟩
    · rw [if_neg h0]
      have hjp : 0 < j := by omega
      have hpl : (j - 1) / 2 < l.length := by omega
      by_cases hc : lessB l j ((j - 1) / 2) = true
      · rw [if_pos hc]
        rw [lessB_at] at hc
        have hle := le_of_ahead hc
        have hs : (swapL l ((j - 1) / 2) j).length = l.length := swapL_length _ _ _
        have hw := at_swap l ((j - 1) / 2) j hpl hj
        have := ih (swapL l ((j - 1) / 2) j) ((j - 1) / 2) (by rw [hs]; exact hpl) (by omega) (by
          rw [hs]
          refine ⟨fun i h1 h2 h3 => ?_, fun h1 i h2 h3 h4 => ?_⟩
          · rw [hw, hw]
            by_cases hij : i = j
            · subst hij
              rw [if_pos rfl]
              unfold par
              rw [if_neg (by omega), if_pos rfl]
              exact hle
            · rw [if_neg hij, if_neg h3]
              by_cases hpi : par i = j
              · rw [if_pos hpi]
                have := hU.2 hjp i h1 h2 hpi
                exact this
              · rw [if_neg hpi]
                have h5 := hU.1 i h1 h2 hij
                by_cases hpp : par i = (j - 1) / 2
                · rw [if_pos hpp]
                  rw [hpp] at h5
                  exact le_trans h5 hle
                · rw [if_neg hpp]
                  exact h5
          · rw [hw, hw]
            have hq : par ((j - 1) / 2) ≠ j := by unfold par; omega
            have hq2 : par ((j - 1) / 2) ≠ (j - 1) / 2 := by unfold par; omega
            rw [if_neg hq, if_neg hq2]
            have h5 := hU.1 ((j - 1) / 2) h1 hpl (by omega)
            by_cases hij : i = j
            · rw [if_pos hij]; exact h5
            · rw [if_neg hij, if_neg (by unfold par at h4; omega)]
              have h6 := hU.1 i h2 h3 hij
              rw [h4] at h6
              exact le_trans h6 h5)
        rw [hs] at this
        exact ⟨this.1.trans (swap_perm l _ _ hpl hj), this.2⟩
      · rw [if_neg hc]
        refine ⟨.refl _, fun i h1 h2 => ?_⟩
        by_cases hij : i = j
        · subst hij
          rw [lessB_at] at hc
          have : aheadB (at_ l ((i - 1) / 2)) (at_ l i) = false := by simpa using hc
          exact this
        · exact hU.1 i h1 h2 hij
theorem child_spec (l : List Row) (i n : Nat) (h : ¬ n ≤ 2 * i + 1) : par (childL l i n) = i ∧ childL l i n < n ∧ i < childL l i n ∧ ∀ k, 0 < k → k < n → par k = i → le (at_ l k) (at_ l (childL l i n)) := by
  have hlt := childL_lt l i n h
  refine ⟨?_, hlt.1, hlt.2, fun k h1 h2 h3 => ?_⟩
  · unfold childL par; split <;> omega
  · have hk : k = 2 * i + 1 ∨ k = 2 * i + 2 := by unfold par at h3; omega
    unfold childL
    by_cases hc : 2 * i + 2 < n ∧ lessB l (2 * i + 2) (2 * i + 1) = true
    · rw [if_pos hc]
      rcases hk with rfl | rfl
      · have := hc.2
        rw [lessB_at] at this
        exact le_of_ahead this
      · exact le_refl _
    · rw [if_neg hc]
      rcases hk with rfl | rfl
      · exact le_refl _
      · have : lessB l (2 * i + 2) (2 * i + 1) = false := by
          cases hb : lessB l (2 * i + 2) (2 * i + 1)
          · rfl
          · exact absurd ⟨h2, hb⟩ hc
        rw [lessB_at] at this
        exact this
theorem down_spec (f : Nat) : ∀ (l : List Row) (i n : Nat), i ≤ n → n ≤ l.length → n < i + f → HDown l n i → (downL f l i n).1.Perm l ∧ Heap (downL f l i n).1 n ∧ ∀ k, n ≤ k → at_ (downL f l i n).1 k = at_ l k := by
  induction f with
  | zero => intro l i n _ _ h; omega
  | succ f ih =>
    intro l i n hin hn hf hD
    simp only [downL]
    by_cases h0 : n ≤ 2 * i + 1
    · rw [if_pos h0]
      exact ⟨.refl _, fun k h1 h2 => hD.1 k h1 h2 (by unfold par; omega), fun _ _ => rfl⟩
    · rw [if_neg h0]
      obtain ⟨hp, hcn, hic, hmax⟩ := child_spec l i n h0
      generalize childL l i n = c at hp hcn hic hmax
      by_cases hc : lessB l c i = true
      · rw [if_pos hc]
        rw [lessB_at] at hc
        have hle := le_of_ahead hc
        have hs : (swapL l i c).length = l.length := swapL_length _ _ _
        have hw := at_swap l i c (by omega) (by omega)
        have := ih (swapL l i c) c n (by omega) (by omega) (by omega) ⟨fun k h1 h2 h3 => by
          rw [hw, hw, if_neg h3]
          by_cases hkc : k = c
          · rw [if_pos hkc]
            subst hkc
            rw [if_pos hp]
            exact hle
          · rw [if_neg hkc]
            by_cases hpi : par k = i
            · rw [if_pos hpi, if_neg (by unfold par at hpi; omega)]
              exact hmax k h1 h2 hpi
            · rw [if_neg hpi]
              by_cases hki : k = i
              · rw [if_pos hki]
                subst hki
                exact hD.2 h1 c (by omega) hcn hp
              · rw [if_neg hki]
                exact hD.1 k h1 h2 hpi, fun h1 k h2 h3 h4 => by
          rw [hw, hw, hp, if_neg (by unfold par at h4; omega), if_neg (by unfold par at h4; omega), if_neg (by omega), if_pos rfl]
          have := hD.1 k h2 h3 (by omega)
          rw [h4] at this
          exact this⟩
        refine ⟨this.1.trans (swap_perm l i c (by omega) (by omega)), this.2.1, fun k hk => ?_⟩
        rw [this.2.2 k hk, hw, if_neg (by omega), if_neg (by omega)]
      · rw [if_neg hc]
        refine ⟨.refl _, fun k h1 h2 => ?_, fun _ _ => rfl⟩
        by_cases hpi : par k = i
        · rw [lessB_at] at hc
          have h5 : le (at_ l c) (at_ l i) := by unfold le; simpa using hc
          rw [hpi]
          exact le_trans (hmax k h1 h2 hpi) h5
        · exact hD.1 k h1 h2 hpi
theorem heap_root (l : List Row) (n : Nat) (h : Heap l n) : ∀ i, i < n → le (at_ l i) (at_ l 0) := by
  intro i
  induction i using Nat.strongRecOn with
  | ind i ih =>
    intro hi
    rcases Nat.eq_zero_or_pos i with h0 | h0
    · subst h0; exact le_refl _
    · exact le_trans (h i h0 hi) (ih (par i) (by unfold par; omega) (by unfold par; omega))
theorem at_append_left (l r : List Row) (i : Nat) (h : i < l.length) : at_ (l ++ r) i = at_ l i := by
  unfold at_; rw [List.getD_eq_getElem?_getD, List.getD_eq_getElem?_getD, List.getElem?_append_left h]
theorem at_take (l : List Row) (n i : Nat) (h : i < n) : at_ (l.take n) i = at_ l i := by
  unfold at_; rw [List.getD_eq_getElem?_getD, List.getD_eq_getElem?_getD, List.getElem?_take_of_lt h]
theorem push_spec (l : List Row) (x : Row) (h : Heap l l.length) : (hpushL l x).Perm (l ++ [x]) ∧ Heap (hpushL l x) (l.length + 1) := by
  unfold hpushL
  have hl : (l ++ [x]).length = l.length + 1 := by simp
  have := up_spec (l.length + 1) (l ++ [x]) l.length (by omega) (by omega) (by
    rw [hl]
    refine ⟨fun i h1 h2 h3 => ?_, fun h1 i h2 h3 h4 => by unfold par at h4; omega⟩
    rw [at_append_left _ _ _ (by omega), at_append_left _ _ _ (by unfold par; omega)]
    exact h i h1 (by omega))
  rw [hl] at this
  exact this
theorem fix_eq (l : List Row) : hfixL l = (downL (l.length + 1) l 0 l.length).1 := by
  unfold hfixL
  split
  · rfl
  · simp [upL]
theorem fix_spec (l : List Row) (x : Row) (h : Heap l l.length) : (hfixL (l.set 0 x)).Perm (l.set 0 x) ∧ Heap (hfixL (l.set 0 x)) l.length := by
  rw [fix_eq, List.length_set]
  have hat : ∀ k, 0 < k → at_ (l.set 0 x) k = at_ l k := by
    intro k hk
    unfold at_
    rw [List.getD_eq_getElem?_getD, List.getElem?_set, if_neg (by omega), List.getD_eq_getElem?_getD]
  have := down_spec (l.length + 1) (l.set 0 x) 0 l.length (by omega) (by rw [List.length_set]; exact Nat.le_refl _) (by omega) ⟨fun k h1 h2 h3 => by
    rw [hat k h1, hat (par k) (by omega)]
    exact h k h1 h2, fun h1 => by omega⟩
  exact ⟨this.1, this.2.1⟩
theorem pop_spec (l : List Row) (n : Nat) (hn : l.length = n + 1) (h : Heap l l.length) : at_ (hpopL l) n = at_ l 0 ∧ (hpopL l).Perm l ∧ Heap ((hpopL l).take n) n := by
  unfold hpopL
  rw [hn, show n + 1 - 1 = n by omega]
  have hw := at_swap l 0 n (by omega) (by omega)
  have := down_spec (n + 1 + 1) (swapL l 0 n) 0 n (by omega) (by rw [swapL_length]; omega) (by omega) ⟨fun k h1 h2 h3 => by
    rw [hw, hw, if_neg (by omega), if_neg (by omega), if_neg (by unfold par; omega), if_neg (by omega)]
    exact h k h1 (by omega), fun h1 => by omega⟩
  refine ⟨?_, this.1.trans (swap_perm l 0 n (by omega) (by omega)), fun i h1 h2 => ?_⟩
  · rw [this.2.2 n (Nat.le_refl _), hw, if_pos rfl]
  · rw [at_take _ _ _ h2, at_take _ _ _ (by unfold par; omega)]
    exact this.2.1 i h1 h2
end Go.Proofs.Ytgefggokgjneoaa.TPure
