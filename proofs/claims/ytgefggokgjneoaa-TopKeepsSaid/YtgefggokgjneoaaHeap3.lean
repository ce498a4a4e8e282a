/- The contract of container/heap's down over a heap of rows in memory. Conditions as each theorem has them. -/
import Derived.Test.YtgefggokgjneoaaHeap2
namespace Go.Proofs.Ytgefggokgjneoaa.QT
open Go.RowKit Go.Proofs.YtgefggokgjneoaaW.PrintWords Go.Proofs.YtgefggokgjneoaaW.PrintLast Go.Proofs.YtgefggokgjneoaaW.PrintMore
attribute [local go_sem] max2_int min2_int max_two min_two max_three min_three max_four min_four   -- for this text's walks alone
set_option linter.unusedVariables false
set_option linter.unusedSimpArgs false

/-- The child that goes up in down, if one does. -/
def childL (l : List S27) (i n : Nat) : Nat := if 2 * i + 2 < n ∧ lessB l (2 * i + 2) (2 * i + 1) = true then 2 * i + 2 else 2 * i + 1
/-- down: fuel, rows, place, how many rows count; and where it stops. -/
def downL : Nat → List S27 → Nat → Nat → List S27 × Nat
  | 0, l, i, _ => (l, i)
  | f + 1, l, i, n => if n ≤ 2 * i + 1 then (l, i) else if lessB l (childL l i n) i = true then downL f (swapL l i (childL l i n)) (childL l i n) n else (l, i)
theorem childL_lt (l : List S27) (i n : Nat) (h : ¬ n ≤ 2 * i + 1) : childL l i n < n ∧ i < childL l i n := by
  unfold childL; split <;> omega
theorem downL_length (f : Nat) : ∀ (l : List S27) (i n : Nat), (downL f l i n).1.length = l.length := by
  induction f with
  | zero => intro l i n; rfl
  | succ f ih =>
    intro l i n
    simp only [downL]
    split
    · rfl
    · split
      · rw [ih, swapL_length]
      · rfl

set_option maxHeartbeats 16000000 in
set_option maxRecDepth 100000 in
theorem down_calls {w0 w : World} {P : Nat → Prop} {g : Nat} {T : TypeId} {rest : List Value} {A : Option Addr} {c : Nat} {l : List S27} (h : HS w0 P w g T rest A c l) (hB : Below w0.heap.size w0 w) (i0 n f : Nat) (hi : i0 ≤ n) (hn : n ≤ l.length) (hf : n < i0 + f) (hl : l.length ≤ 1099511627776) :
    Calls Try.prog 22 #[.iface 45 (.pointer (some ⟨g, 0, none⟩)), .int .i64 (i0 : Int), .int .i64 (n : Int)] w fun e w' => e = .returned (.bool (decide ((downL f l i0 n).2 > i0))) ∧ Left w0 w P w' g T rest A c (downL f l i0 n).1 := by
  have HLn := Aside0.mk hl
  have HT := Aside0.mk (Left.refl h hB)
  have HJ := Aside0.mk (show i0 ≤ n ∧ n < i0 + f from ⟨hi, hf⟩)
  have HN := Aside0.mk (show n ≤ l.length ∧ i0 ≤ i0 from ⟨hn, Nat.le_refl _⟩)
  clear h hB hi hn hf hl
  go_enter Try.func22, Try.ntmps22
  go_wp2
  go_loopg [7] f (fun gk v1 w' => ∃ (i : Nat) (m : List S27), v1 = .int .i64 (i : Int) ∧ Aside0 (i ≤ n ∧ n < i + gk) ∧ Aside0 (m.length = l.length ∧ i0 ≤ i) ∧ Aside0 (downL gk m i n = downL f l i0 n) ∧ Aside0 (Left w0 w P w' g T rest A c m))
  case atStart => exact ⟨i0, l, rfl, HJ, ⟨rfl, Nat.le_refl _⟩, ⟨rfl⟩, HT⟩
  case round =>
    clear HT HJ
    obtain ⟨i, m, rfl, HI, HM, HU, HT⟩ := hrel
    obtain ⟨gk, rfl⟩ : ∃ k, gk = k + 1 := ⟨gk - 1, by have := HI.out; omega⟩
    have hnb : (n : Int) ≤ 1099511627776 := by have := HN.out; have := HLn.out; omega
    have hib : (i : Int) ≤ n := by have := HI.out; omega
    have hgt : decide ((i0 : Int) < (i : Int)) = decide (i > i0) := by simp
    by_cases hge : n ≤ 2 * i + 1
    · have HU2 := Aside0.mk (show downL f l i0 n = (m, i) by rw [← HU.out]; simp only [downL]; rw [if_pos hge])
      have hgi : decide ((n : Int) ≤ 2 * (i : Int) + 1) = true := by simp; omega
      have hgj : (n : Int) ≤ 2 * (i : Int) + 1 := by omega
      clear HU hge HI
      go_wp2
      go_ret
      rw [HU2.out]
      exact ⟨by first | rfl | simp, HT.out⟩
    · have hgj : ¬ ((n : Int) ≤ 2 * (i : Int) + 1) := by omega
      have hgn : ¬ (2 * (i : Int) + 1 < 0) := by omega
      have hcell := HT.out.hs.cell
      have hM1 := m_Less g A _ c _ hcell
      clear hcell
      by_cases h2 : 2 * i + 2 < n
      · have hgk : 2 * (i : Int) + 1 + 1 < (n : Int) := by omega
        by_cases hb1 : lessB m (2 * i + 2) (2 * i + 1) = true
        · have hq0 := trivial
          have hG := Aside0.mk (less_calls HT.out.hs (2 * i + 2) (2 * i + 1) (by have := HM.out; have := HN.out; omega) (by have := HM.out; have := HN.out; omega))
          rw [hb1] at hG
          have hch : childL m i n = 2 * i + 2 := by unfold childL; rw [if_pos ⟨h2, hb1⟩]
          have HJ := Aside0.mk (show 2 * i + 2 < m.length ∧ i < m.length ∧ 2 * i + 2 ≤ n ∧ n < 2 * i + 2 + gk ∧ i0 ≤ 2 * i + 2 by have := HM.out; have := HN.out; have := HI.out; omega)
          clear HI
          by_cases hb2 : lessB m (2 * i + 2) i = true
          · have HU2 := Aside0.mk (show downL gk (swapL m i (2 * i + 2)) (2 * i + 2) n = downL f l i0 n by rw [← HU.out]; simp only [downL]; rw [if_neg hge, hch, if_pos hb2])
            clear hch HU hge
            go_wp2_with (first | (go_at_call 40; refine hG.out.mono ?_; rintro e w2 ⟨rfl, hbz⟩; have HT2 := Aside0.mk (Left.read HT.out hbz); clear hbz hM1 HT hG; have hM1 := m_Less g A _ c _ HT2.out.hs.cell; have HC1 := Aside0.mk (less_calls HT2.out.hs (2 * i + 2) i HJ.out.1 HJ.out.2.1); rw [hb2] at HC1) | (go_at_call 40; refine HC1.out.mono ?_; rintro e w3 ⟨rfl, hbz⟩; have HT3 := Aside0.mk (Left.read HT2.out hbz); clear hbz hM1 HT2 HC1; have hM2 := m_Swap g A _ c _ HT3.out.hs.cell; have HC2 := Aside0.mk (swap_calls HT3.out.hs HT3.out.below i (2 * i + 2) HJ.out.2.1 HJ.out.1)) | (go_at_call 41; refine HC2.out.mono ?_; rintro e w4 ⟨rfl, hs, hbb, hkk⟩; have HT4 := Aside0.mk (Left.swapped HT3.out hs hbb hkk); clear hs hbb hkk HT3 hM2 HC2))
            go_roundg gk
            case measure => omega
            case rel => exact ⟨2 * i + 2, swapL m i (2 * i + 2), (by first | rfl | (congr 1; omega) | (simp; omega)), ⟨HJ.out.2.2.1, HJ.out.2.2.2.1⟩, ⟨by rw [swapL_length]; exact HM.out.1, HJ.out.2.2.2.2⟩, HU2, HT4⟩
          · have HU2 := Aside0.mk (show downL f l i0 n = (m, i) by rw [← HU.out]; simp only [downL]; rw [if_neg hge, hch, if_neg hb2])
            have hb2 : lessB m (2 * i + 2) i = false := by simpa using hb2
            clear hch HU hge
            go_wp2_with (first | (go_at_call 40; refine hG.out.mono ?_; rintro e w2 ⟨rfl, hbz⟩; have HT2 := Aside0.mk (Left.read HT.out hbz); clear hbz hM1 HT hG; have hM1 := m_Less g A _ c _ HT2.out.hs.cell; have HC1 := Aside0.mk (less_calls HT2.out.hs (2 * i + 2) i HJ.out.1 HJ.out.2.1); rw [hb2] at HC1) | (go_at_call 40; refine HC1.out.mono ?_; rintro e w3 ⟨rfl, hbz⟩; have HT3 := Aside0.mk (Left.read HT2.out hbz); clear hbz hM1 HT2 HC1))
            go_ret
            rw [HU2.out]
            exact ⟨by first | rfl | simp, HT3.out⟩
        · have hb1 : lessB m (2 * i + 2) (2 * i + 1) = false := by simpa using hb1
          have hG := Aside0.mk (less_calls HT.out.hs (2 * i + 2) (2 * i + 1) (by have := HM.out; have := HN.out; omega) (by have := HM.out; have := HN.out; omega))
          rw [hb1] at hG
          have hch : childL m i n = 2 * i + 1 := by unfold childL; rw [if_neg (by rw [hb1]; simp)]
          have HJ := Aside0.mk (show 2 * i + 1 < m.length ∧ i < m.length ∧ 2 * i + 1 ≤ n ∧ n < 2 * i + 1 + gk ∧ i0 ≤ 2 * i + 1 by have := HM.out; have := HN.out; have := HI.out; omega)
          clear HI
          by_cases hb2 : lessB m (2 * i + 1) i = true
          · have HU2 := Aside0.mk (show downL gk (swapL m i (2 * i + 1)) (2 * i + 1) n = downL f l i0 n by rw [← HU.out]; simp only [downL]; rw [if_neg hge, hch, if_pos hb2])
            clear hch HU hge
            go_wp2_with (first | (go_at_call 40; refine hG.out.mono ?_; rintro e w2 ⟨rfl, hbz⟩; have HT2 := Aside0.mk (Left.read HT.out hbz); clear hbz hM1 HT hG; have hM1 := m_Less g A _ c _ HT2.out.hs.cell; have HC1 := Aside0.mk (less_calls HT2.out.hs (2 * i + 1) i HJ.out.1 HJ.out.2.1); rw [hb2] at HC1) | (go_at_call 40; refine HC1.out.mono ?_; rintro e w3 ⟨rfl, hbz⟩; have HT3 := Aside0.mk (Left.read HT2.out hbz); clear hbz hM1 HT2 HC1; have hM2 := m_Swap g A _ c _ HT3.out.hs.cell; have HC2 := Aside0.mk (swap_calls HT3.out.hs HT3.out.below i (2 * i + 1) HJ.out.2.1 HJ.out.1)) | (go_at_call 41; refine HC2.out.mono ?_; rintro e w4 ⟨rfl, hs, hbb, hkk⟩; have HT4 := Aside0.mk (Left.swapped HT3.out hs hbb hkk); clear hs hbb hkk HT3 hM2 HC2))
            go_roundg gk
            case measure => omega
            case rel => exact ⟨2 * i + 1, swapL m i (2 * i + 1), (by first | rfl | (congr 1; omega) | (simp; omega)), ⟨HJ.out.2.2.1, HJ.out.2.2.2.1⟩, ⟨by rw [swapL_length]; exact HM.out.1, HJ.out.2.2.2.2⟩, HU2, HT4⟩
          · have HU2 := Aside0.mk (show downL f l i0 n = (m, i) by rw [← HU.out]; simp only [downL]; rw [if_neg hge, hch, if_neg hb2])
            have hb2 : lessB m (2 * i + 1) i = false := by simpa using hb2
            clear hch HU hge
            go_wp2_with (first | (go_at_call 40; refine hG.out.mono ?_; rintro e w2 ⟨rfl, hbz⟩; have HT2 := Aside0.mk (Left.read HT.out hbz); clear hbz hM1 HT hG; have hM1 := m_Less g A _ c _ HT2.out.hs.cell; have HC1 := Aside0.mk (less_calls HT2.out.hs (2 * i + 1) i HJ.out.1 HJ.out.2.1); rw [hb2] at HC1) | (go_at_call 40; refine HC1.out.mono ?_; rintro e w3 ⟨rfl, hbz⟩; have HT3 := Aside0.mk (Left.read HT2.out hbz); clear hbz hM1 HT2 HC1))
            go_ret
            rw [HU2.out]
            exact ⟨by first | rfl | simp, HT3.out⟩
      · have hgk : ¬ (2 * (i : Int) + 1 + 1 < (n : Int)) := by omega
        have hch : childL m i n = 2 * i + 1 := by unfold childL; rw [if_neg (by omega)]
        have HJ := Aside0.mk (show 2 * i + 1 < m.length ∧ i < m.length ∧ 2 * i + 1 ≤ n ∧ n < 2 * i + 1 + gk ∧ i0 ≤ 2 * i + 1 by have := HM.out; have := HN.out; have := HI.out; omega)
        clear HI
        by_cases hb2 : lessB m (2 * i + 1) i = true
        · have HU2 := Aside0.mk (show downL gk (swapL m i (2 * i + 1)) (2 * i + 1) n = downL f l i0 n by rw [← HU.out]; simp only [downL]; rw [if_neg hge, hch, if_pos hb2])
          have HC1 := Aside0.mk (less_calls HT.out.hs (2 * i + 1) i HJ.out.1 HJ.out.2.1)
          rw [hb2] at HC1
          have HT2 := HT
          clear hch HU HT hge hb2
          go_wp2_with (first | (go_at_call 40; refine HC1.out.mono ?_; rintro e w3 ⟨rfl, hbz⟩; have HT3 := Aside0.mk (Left.read HT2.out hbz); clear hbz hM1 HT2 HC1; have hM2 := m_Swap g A _ c _ HT3.out.hs.cell; have HC2 := Aside0.mk (swap_calls HT3.out.hs HT3.out.below i (2 * i + 1) HJ.out.2.1 HJ.out.1)) | (go_at_call 41; refine HC2.out.mono ?_; rintro e w4 ⟨rfl, hs, hbb, hkk⟩; have HT4 := Aside0.mk (Left.swapped HT3.out hs hbb hkk); clear hs hbb hkk HT3 hM2 HC2))
          go_roundg gk
          case measure => omega
          case rel => exact ⟨2 * i + 1, swapL m i (2 * i + 1), (by first | rfl | (congr 1; omega) | (simp; omega)), ⟨HJ.out.2.2.1, HJ.out.2.2.2.1⟩, ⟨by rw [swapL_length]; exact HM.out.1, HJ.out.2.2.2.2⟩, HU2, HT4⟩
        · have HU2 := Aside0.mk (show downL f l i0 n = (m, i) by rw [← HU.out]; simp only [downL]; rw [if_neg hge, hch, if_neg hb2])
          have hb2 : lessB m (2 * i + 1) i = false := by simpa using hb2
          have HC1 := Aside0.mk (less_calls HT.out.hs (2 * i + 1) i HJ.out.1 HJ.out.2.1)
          rw [hb2] at HC1
          have HT2 := HT
          clear hch HU HT hge hb2
          go_wp2_with (first | (go_at_call 40; refine HC1.out.mono ?_; rintro e w3 ⟨rfl, hbz⟩; have HT3 := Aside0.mk (Left.read HT2.out hbz); clear hbz hM1 HT2 HC1))
          go_ret
          rw [HU2.out]
          exact ⟨by first | rfl | simp, HT3.out⟩
end Go.Proofs.Ytgefggokgjneoaa.QT
