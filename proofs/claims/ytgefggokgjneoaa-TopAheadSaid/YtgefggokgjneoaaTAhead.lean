/- TopAhead's plain law: the order of rows is total and strict. Without condition. -/
import Derived.Test.YtgefggokgjneoaaQUx
namespace Go.Proofs.Ytgefggokgjneoaa.TAhead
open Go.RowKit Go.Proofs.Ytgefggokgjneoaa.QU
def ah (a0 a1 a2 b0 b1 b2 : Int) : Bool := if a2 = b2 then (if a0 = b0 then decide (a1 < b1) else decide (a0 < b0)) else decide (a2 > b2)
theorem A_f (a0 a1 a2 b0 b1 b2 : Int) : top_Row_Ahead.f a0 a1 a2 b0 b1 b2 = some (ah a0 a1 a2 b0 b1 b2) := by
  unfold top_Row_Ahead.f ah
  split
  · split <;> rfl
  · rfl
theorem B_f (a0 a1 a2 b0 b1 b2 : Int) : catchwordlaw18_ahead.f a0 a1 a2 b0 b1 b2 = some (ah a0 a1 a2 b0 b1 b2) := by
  unfold catchwordlaw18_ahead.f ah
  by_cases h : a2 = b2
  · subst h
    rw [if_neg (by omega), if_pos rfl, if_pos rfl]
    by_cases h1 : a0 = b0
    · subst h1
      simp
    · rw [if_neg h1]
      by_cases h2 : a0 < b0
      · simp [h2, h1]
      · simp [h2, h1]
  · rw [if_neg h]
    by_cases h1 : a2 > b2
    · simp [h1, h]
    · simp [h1, h]
theorem ah_iff (a0 a1 a2 b0 b1 b2 : Int) : ah a0 a1 a2 b0 b1 b2 = true ↔ a2 > b2 ∨ a2 = b2 ∧ (a0 < b0 ∨ a0 = b0 ∧ a1 < b1) := by
  unfold ah
  split
  · split <;> simp <;> omega
  · simp; omega
theorem ah_not (a0 a1 a2 b0 b1 b2 : Int) : ah a0 a1 a2 b0 b1 b2 = false ↔ ¬ (a2 > b2 ∨ a2 = b2 ∧ (a0 < b0 ∨ a0 = b0 ∧ a1 < b1)) := by
  rw [← ah_iff]; simp
theorem TopAhead (a0 a1 a2 b0 b1 b2 c0 c1 c2 : Int) : TAh.f 1 a0 a1 a2 b0 b1 b2 c0 c1 c2 = some true := by
  have haa : ah a0 a1 a2 a0 a1 a2 = false := by rw [ah_not]; omega
  cases hab : ah a0 a1 a2 b0 b1 b2 <;> cases hba : ah b0 b1 b2 a0 a1 a2 <;> cases hbc : ah b0 b1 b2 c0 c1 c2 <;> cases hac : ah a0 a1 a2 c0 c1 c2 <;>
    simp only [TAh.f, TAh.j0, catchwordlaw18_head.f, A_f, B_f, Option.bind_some, haa, hab, hba, hbc, hac] <;>
    simp only [ah_iff, ah_not] at hab hba hbc hac haa <;> simp <;> omega
end Go.Proofs.Ytgefggokgjneoaa.TAhead
