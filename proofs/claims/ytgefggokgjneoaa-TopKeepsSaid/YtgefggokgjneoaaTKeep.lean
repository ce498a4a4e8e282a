/- TopKeeps' plain laws: the first one again and again is the sorted list; whether a row is kept. Conditions as each theorem has them. -/
import Derived.Test.YtgefggokgjneoaaTSort
namespace Go.Proofs.Ytgefggokgjneoaa.TPure
open Go.RowKit Go.Proofs.Ytgefggokgjneoaa.QT Go.Proofs.YtgefggokgjneoaaW.PrintWords
theorem aheadp_f (a b : Row) : catchwordlaw18_ahead.f a.f0 a.f1 a.f2 b.f0 b.f1 b.f2 = some (aheadB a b) := by
  unfold catchwordlaw18_ahead.f aheadB
  by_cases h : a.f2 = b.f2
  · rw [if_neg (by omega), if_pos h, if_pos h]
    by_cases h1 : a.f0 = b.f0
    · rw [if_neg (by omega), if_pos h1, if_pos h1]
    · rw [if_neg h1]
      by_cases h2 : a.f0 < b.f0
      · simp [h2, h1]
      · simp [h2, h1]
  · rw [if_neg h]
    by_cases h1 : a.f2 > b.f2
    · simp [h1, h]
    · simp [h1, h]
theorem erase_perm : ∀ (l : List Row) (b : Nat) (hb : b < l.length), (l[b] :: l.eraseIdx b).Perm l
  | [], b, hb => absurd hb (by simp)
  | x :: l, 0, hb => List.Perm.refl _
  | x :: l, b + 1, hb => (List.Perm.swap _ _ _).trans ((erase_perm l b (by simpa using hb)).cons x)
theorem isort_erase (l : List Row) (b : Nat) (hb : b < l.length) (h : ∀ j, j < l.length → le (at_ l b) (at_ l j)) : isort l = at_ l b :: isort (l.eraseIdx b) := by
  have e1 : at_ l b = l[b] := by unfold at_; rw [List.getD_eq_getElem?_getD, List.getElem?_eq_getElem hb]; rfl
  have hp : (l[b] :: l.eraseIdx b).Perm l := erase_perm l b hb
  symm
  apply isort_eq
  · rw [e1]; exact ((isort_perm _).cons _).trans hp
  · refine List.Pairwise.cons ?_ (isort_sorted _)
    intro a ha
    have ha' : a ∈ l := hp.mem_iff.1 (List.mem_cons_of_mem _ ((isort_perm _).mem_iff.1 ha))
    obtain ⟨j, hj, rfl⟩ := List.mem_iff_getElem.1 ha'
    have := h j hj
    unfold at_ at this
    rw [List.getD_eq_getElem?_getD (i := j), List.getElem?_eq_getElem hj] at this
    exact this
def fuel_ : Nat → Nat
  | 0 => 1
  | n + 1 => 1 + (n + 1) + 1 + fuel_ n
theorem l1_spec (left out : List Row) (hl : left.length ≤ 60) (ho : out.length ≤ 60) (k : Nat) : ∀ (d i b : Nat), i + d = left.length → b < left.length → (∀ j, j < i → le (at_ left b) (at_ left j)) → (i = 0 → b = 0) →
    ∃ b', b' < left.length ∧ (∀ j, j < left.length → le (at_ left b') (at_ left j)) ∧ catchwordlaw18_Sorted.l1 (d + 1 + k) left out (b : Int) (left.length : Int) (i : Int) = catchwordlaw18_Sorted.l0 k (left.eraseIdx b') (out ++ [at_ left b']) := by
  intro d
  induction d with
  | zero =>
    intro i b hi hb hm _
    refine ⟨b, hb, fun j hj => hm j (by omega), ?_⟩
    rw [show 0 + 1 + k = k + 1 by omega]
    unfold catchwordlaw18_Sorted.l1
    have hw : wrap64 ((b : Int) + 1) = (b : Int) + 1 := by unfold wrap64; omega
    rw [if_neg (by omega), if_pos (by omega), if_pos (by omega), if_pos (by omega), if_pos (by omega), hw, if_pos (by omega), if_pos (by omega), Int.toNat_natCast, rd_at]
  | succ d ih =>
    intro i b hi hb hm h0
    have hw : wrap64 ((i : Int) + 1) = ((i + 1 : Nat) : Int) := by unfold wrap64; omega
    rw [show d + 1 + 1 + k = (d + 1 + k) + 1 by omega]
    unfold catchwordlaw18_Sorted.l1
    rw [if_pos (by omega), if_pos (by omega), if_pos (by omega), if_pos (by omega), if_pos (by omega), aheadp_f, rd_at, rd_at, hw]
    simp only [Option.bind_some]
    by_cases ha : aheadB (at_ left i) (at_ left b) = true
    · rw [if_pos ha]
      exact ih (i + 1) i (by omega) (by omega) (fun j hj => by
        by_cases hji : j = i
        · subst hji; exact le_refl _
        · exact le_trans (le_of_ahead ha) (hm j (by omega))) (fun h => by omega)
    · rw [if_neg ha]
      exact ih (i + 1) b (by omega) hb (fun j hj => by
        by_cases hji : j = i
        · subst hji; unfold le; simpa using ha
        · exact hm j (by omega)) (fun h => by omega)
theorem l0_spec (n : Nat) : ∀ (left out : List Row), left.length = n → n + out.length ≤ 60 → catchwordlaw18_Sorted.l0 (fuel_ n) left out = some (out ++ isort left) := by
  induction n with
  | zero =>
    intro left out h _
    obtain rfl := List.length_eq_zero_iff.1 h
    unfold fuel_ catchwordlaw18_Sorted.l0
    rw [if_neg (by simp)]
    simp [isort]
  | succ n ih =>
    intro left out h ho
    obtain ⟨b, hb, hm, he⟩ := l1_spec left out (by omega) (by omega) (fuel_ n) (n + 1) 0 0 (by omega) (by omega) (fun j hj => by omega) (fun _ => rfl)
    unfold fuel_
    rw [show 1 + (n + 1) + 1 + fuel_ n = (n + 1 + 1 + fuel_ n) + 1 by omega]
    unfold catchwordlaw18_Sorted.l0
    rw [if_pos (by omega)]
    refine (show _ = _ from he).trans ?_
    rw [ih _ _ (by rw [List.length_eraseIdx, if_pos hb]; omega) (by simp; omega), isort_erase left b hb hm]
    simp
theorem sorted_f (l : List Row) (h : l.length ≤ 60) : catchwordlaw18_Sorted.f (fuel_ l.length) l = some (isort l) := by
  unfold catchwordlaw18_Sorted.f
  simp only [Option.bind_some, List.nil_append, List.length_nil]
  rw [if_pos (by omega), l0_spec _ l [] rfl (by simpa using h)]
  simp
/-- How many of those that came are ahead of it, or the same. -/
def cnt (x : Row) (seen : List Row) : Nat := seen.countP (fun o => !aheadB x o)
theorem cnt_snoc (x : Row) (seen : List Row) (o : Row) : cnt x (seen ++ [o]) = if aheadB x o = true then cnt x seen else cnt x seen + 1 := by
  unfold cnt
  rw [List.countP_append, List.countP_singleton]
  cases aheadB x o <;> simp
theorem Keeps.kept {l : List Row} {m : Nat} {seen : List Row} (h : Keeps l m seen) (x : Row) : addB l m x = decide (cnt x seen < m) := by
  have hlen := h.length
  unfold addB
  by_cases hm : m = 0
  · subst hm; simp
  rw [if_neg hm]
  by_cases hl : l.length < m
  · rw [if_pos hl]
    have : cnt x seen ≤ seen.length := List.countP_le_length
    have : cnt x seen < m := by omega
    simp [this]
  rw [if_neg hl]
  have hl0 : 0 < l.length := by omega
  have hroot := h.root
  have hmem : at_ l 0 ∈ firsts m seen := by
    refine h.perm.mem_iff.1 ?_
    unfold at_
    rw [List.getD_eq_getElem?_getD, List.getElem?_eq_getElem hl0]
    exact List.getElem_mem hl0
  have hF : (firsts m seen).length = m := by rw [firsts_length]; omega
  have hc : cnt x seen = cnt x (firsts m seen) + cnt x ((isort seen).drop m) := by
    unfold cnt firsts
    rw [← List.countP_append, List.take_append_drop]
    exact ((isort_perm seen).countP_eq _).symm
  have hs := isort_sorted seen
  have hs2 : ∀ b ∈ (isort seen).drop m, le (at_ l 0) b := by
    have : Sorted ((isort seen).take m ++ (isort seen).drop m) := by rw [List.take_append_drop]; exact hs
    exact fun b hb => (List.pairwise_append.1 this).2.2 _ hmem b hb
  rw [show rd_T27 l 0 = at_ l 0 from rd_at l 0]
  cases ha : aheadB x (at_ l 0)
  · have h1 : cnt x (firsts m seen) = (firsts m seen).length := by
      unfold cnt
      rw [List.countP_eq_length]
      intro a haa
      have : le a x := le_trans (hroot a haa) ha
      unfold le at this
      rw [this]; rfl
    have : ¬ cnt x seen < m := by omega
    simp [this]
  · have h1 : cnt x (firsts m seen) < (firsts m seen).length := by
      rcases Nat.lt_or_ge (cnt x (firsts m seen)) (firsts m seen).length with h | h
      · exact h
      · exfalso
        have h2 : cnt x (firsts m seen) = (firsts m seen).length := Nat.le_antisymm List.countP_le_length h
        unfold cnt at h2
        rw [List.countP_eq_length] at h2
        have := h2 _ hmem
        rw [ha] at this
        exact absurd this (by simp)
    have h3 : cnt x ((isort seen).drop m) = 0 := by
      unfold cnt
      rw [List.countP_eq_zero]
      intro b hb hbx
      have hb2 : le b x := by unfold le; simpa using hbx
      exact not_le_of_ahead ha (le_trans (hs2 b hb) hb2)
    have : cnt x seen < m := by omega
    simp [this]
end Go.Proofs.Ytgefggokgjneoaa.TPure
