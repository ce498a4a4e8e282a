/- Plain mathematics of the scores: what one match is worth, what a list is worth: capped sums. No program in sight but the printed mirrors. -/
import Derived.Test.YthbjofpaegboiaaQSx1
namespace Go.Proofs.Ythbjofpaegboiaa.SMath
open Go.RowKit Go.Proofs.Ythbjofpaegboiaa.QS Go.Proofs.YthbjofpaegboiaaW.PrintWords Go.Proofs.YthbjofpaegboiaaW.PrintLast

/-- The weights fit into 64 bits. -/
def Fits (xs : List S31) : Prop := ∀ s ∈ xs, s.f3 ≤ 9223372036854775807

theorem mx_eq (a b : Int) : mx a b = max a b := by unfold mx; omega

theorem add_spec (a b : Int) (h0 : 0 ≤ a) (h1 : a ≤ 2147483647) (h2 : 0 ≤ b) (h3 : b ≤ 9223372036854775807) :
    score_add.f a b = some (min (a + b) 2147483647) := by
  unfold score_add.f wrap64
  split
  · congr 1; omega
  · congr 1; omega

def sumW : List S31 → Int
  | [] => 0
  | s :: r => max 0 s.f3 + sumW r

theorem sumW_nonneg (xs : List S31) : 0 ≤ sumW xs := by
  induction xs with
  | nil => exact Int.le_refl _
  | cons s r ih => simp only [sumW]; omega

theorem sumW_append (xs ys : List S31) : sumW (xs ++ ys) = sumW xs + sumW ys := by
  induction xs with
  | nil => simp [sumW]
  | cons s r ih => simp only [List.cons_append, sumW, ih]; omega

theorem one_loop (xs : List S31) (hf : Fits xs) (hn : xs.length ≤ 9223372036854775806) (d : Nat) : ∀ (k : Nat) (a i : Int), 0 ≤ a → a ≤ 2147483647 → 0 ≤ i → (xs.length : Int) - i = d → d < k →
    score_One.l0 k a xs (xs.length : Int) i = some (min (a + sumW (xs.drop i.toNat)) 2147483647) := by
  induction d with
  | zero =>
    intro k a i h0 h1 hi hd hk
    obtain ⟨k, rfl⟩ : ∃ m, k = m + 1 := ⟨k - 1, by omega⟩
    simp only [score_One.l0]
    rw [if_neg (by omega), List.drop_of_length_le (by omega)]
    simp only [sumW]
    congr 1; omega
  | succ d ih =>
    intro k a i h0 h1 hi hd hk
    obtain ⟨k, rfl⟩ : ∃ m, k = m + 1 := ⟨k - 1, by omega⟩
    have hlt : i.toNat < xs.length := by omega
    have hw : wrap64 (i + 1) = i + 1 := by unfold wrap64; omega
    have hr : rd_T31 xs i = xs[i.toNat] := by unfold rd_T31; simp [List.getD_eq_getElem?_getD, hlt]
    have hm : xs[i.toNat].f3 ≤ 9223372036854775807 := hf _ (List.getElem_mem hlt)
    have hdrop : xs.drop i.toNat = xs[i.toNat] :: xs.drop (i + 1).toNat := by
      rw [show (i + 1).toNat = i.toNat + 1 by omega]
      exact List.drop_eq_getElem_cons hlt
    have hsn := sumW_nonneg (xs.drop (i + 1).toNat)
    simp only [score_One.l0]
    rw [if_pos (by omega), if_pos hi, if_pos (by omega), hr, mx_eq, add_spec a _ h0 h1 (by omega) (by omega)]
    simp only [Option.bind_some]
    rw [hw, ih k _ (i + 1) (by omega) (by omega) (by omega) (by omega) (by omega), hdrop]
    simp only [sumW]
    congr 1; omega

/-- What a match is worth. -/
def oneV (xs : List S31) : Int := min (1 + sumW xs) 2147483647

theorem oneV_pos (xs : List S31) : 1 ≤ oneV xs ∧ oneV xs ≤ 2147483647 := by
  have := sumW_nonneg xs
  unfold oneV; omega

theorem one_spec (k : Nat) (xs ys : List S31) (hf : Fits xs) (hn : xs.length ≤ 9223372036854775806) (hk : xs.length < k) : score_One.f k xs ys = some (oneV xs) := by
  unfold score_One.f oneV
  rw [one_loop xs hf hn xs.length k 1 0 (by omega) (by omega) (by omega) (by omega) hk]
  simp

def sumM : List S25 → Int
  | [] => 0
  | m :: r => (if m.f1.length = 0 then oneV m.f0 else 0) + sumM r

theorem sumM_nonneg (l : List S25) : 0 ≤ sumM l := by
  induction l with
  | nil => exact Int.le_refl _
  | cons m r ih => have := oneV_pos m.f0; simp only [sumM]; split <;> omega

theorem sumM_append (a b : List S25) : sumM (a ++ b) = sumM a + sumM b := by
  induction a with
  | nil => simp [sumM]
  | cons m r ih => simp only [List.cons_append, sumM, ih]; omega

/-- A list of matches that the walk can go through. -/
structure Good (B : Nat) (l : List S25) : Prop where
  fits : ∀ m ∈ l, Fits m.f0
  size : ∀ m ∈ l, m.f0.length ≤ 9223372036854775806
  less : ∀ m ∈ l, m.f0.length < B
  long : l.length ≤ 9223372036854775806

theorem of_loop (B : Nat) (l : List S25) (hg : Good B l) (d : Nat) : ∀ (k : Nat) (a i : Int), 0 ≤ a → a ≤ 2147483647 → 0 ≤ i → (l.length : Int) - i = d → 2 * d + B < k →
    score_Of.l0 k a l (l.length : Int) i = some (min (a + sumM (l.drop i.toNat)) 2147483647) := by
  induction d with
  | zero =>
    intro k a i h0 h1 hi hd hk
    obtain ⟨k, rfl⟩ : ∃ m, k = m + 1 := ⟨k - 1, by omega⟩
    simp only [score_Of.l0]
    rw [if_neg (by omega), List.drop_of_length_le (by omega)]
    simp only [sumM]
    congr 1; omega
  | succ d ih =>
    intro k a i h0 h1 hi hd hk
    obtain ⟨k, rfl⟩ : ∃ m, k = m + 2 := ⟨k - 2, by omega⟩
    have hlong := hg.long
    have hlt : i.toNat < l.length := by omega
    have hw : wrap64 (i + 1) = i + 1 := by unfold wrap64; omega
    have hr : rd_T25 l i = l[i.toNat] := by unfold rd_T25; simp [List.getD_eq_getElem?_getD, hlt]
    have hmem := List.getElem_mem hlt
    have hdrop : l.drop i.toNat = l[i.toNat] :: l.drop (i + 1).toNat := by
      rw [show (i + 1).toNat = i.toNat + 1 by omega]
      exact List.drop_eq_getElem_cons hlt
    have hsn := sumM_nonneg (l.drop (i + 1).toNat)
    simp only [score_Of.l0]
    rw [if_pos (by omega), if_pos hi, if_pos (by omega), hr]
    simp only [score_Of.l1]
    rw [hw, hdrop]
    by_cases ho : l[i.toNat].f1.length = 0
    · rw [if_neg (by omega), one_spec k _ _ (hg.fits _ hmem) (hg.size _ hmem) (by have := hg.less _ hmem; omega)]
      have hp := oneV_pos l[i.toNat].f0
      simp only [Option.bind_some, sumM]
      rw [add_spec a _ h0 h1 (by omega) (by omega), if_pos ho]
      simp only [Option.bind_some]
      split
      · congr 1; omega
      · rw [ih k _ (i + 1) (by omega) (by omega) (by omega) (by omega) (by omega)]
        congr 1; omega
    · rw [if_pos (by omega), ih k a (i + 1) h0 h1 (by omega) (by omega) (by omega)]
      simp only [sumM]
      rw [if_neg ho]
      congr 1; omega

theorem of_spec (B : Nat) (l : List S25) (hg : Good B l) (k : Nat) (hk : 2 * l.length + B < k) : score_Of.f k l = some (min (sumM l) 2147483647) := by
  unfold score_Of.f
  rw [of_loop B l hg l.length k 0 0 (by omega) (by omega) (by omega) (by omega) hk]
  simp

theorem head_spec (k : Nat) (hk : 2 < k) : catchwordlaw17_head.f k = some true := by
  unfold catchwordlaw17_head.f
  rw [one_spec k _ _ (by intro s hs; simp at hs; subst hs; decide) (by simp) (by simpa using hk)]
  rfl
end Go.Proofs.Ythbjofpaegboiaa.SMath
