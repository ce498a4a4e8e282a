/- The contracts of container/heap's up and down over a heap of rows in memory. Conditions as each theorem has them. -/
import Derived.Test.YtgefggokgjneoaaHeap1
namespace Go.Proofs.Ytgefggokgjneoaa.QT
open Go.RowKit Go.Proofs.YtgefggokgjneoaaW.PrintWords Go.Proofs.YtgefggokgjneoaaW.PrintLast Go.Proofs.YtgefggokgjneoaaW.PrintMore
attribute [local go_sem] max2_int min2_int max_two min_two max_three min_three max_four min_four   -- for this text's walks alone
set_option linter.unusedVariables false
set_option linter.unusedSimpArgs false

/-- up: fuel, rows, place. -/
def upL : Nat → List S27 → Nat → List S27
  | 0, l, _ => l
  | f + 1, l, j => if (j - 1) / 2 = j then l else if lessB l j ((j - 1) / 2) = true then upL f (swapL l ((j - 1) / 2) j) ((j - 1) / 2) else l
theorem upL_length (f : Nat) : ∀ (l : List S27) (j : Nat), (upL f l j).length = l.length := by
  induction f with
  | zero => intro l j; rfl
  | succ f ih =>
    intro l j
    simp only [upL]
    split
    · rfl
    · split
      · rw [ih, swapL_length]
      · rfl

/-- What an act over the heap leaves: the heap with other rows, all else that there was. -/
structure Left (w0 w : World) (P : Nat → Prop) (w' : World) (g : Nat) (T : TypeId) (rest : List Value) (A : Option Addr) (c : Nat) (l : List S27) : Prop where
  hs : HS w0 (fun q => P q ∨ w.heap.size ≤ q) w' g T rest A c l
  below : Below w0.heap.size w0 w'
  kept : Kept w w' (fun q => P q ∧ q ≠ g)

section
variable {w0 w w1 w2 : World} {P : Nat → Prop} {g : Nat} {T : TypeId} {rest : List Value} {A : Option Addr} {c : Nat} {l l' : List S27}
theorem Left.refl (h : HS w0 P w g T rest A c l) (hB : Below w0.heap.size w0 w) : Left w0 w P w g T rest A c l := ⟨h.mono (fun _ hq => .inl hq), hB, Kept.refl _ _⟩
theorem Left.read (h : Left w0 w P w1 g T rest A c l) (hb : Below w1.heap.size w1 w2) : Left w0 w P w2 g T rest A c l :=
  ⟨h.hs.below hb, below_then h.below h.below.size hb, Kept.below h.kept hb⟩
theorem Left.swapped (h : Left w0 w P w1 g T rest A c l) (hs : HS w0 (fun q => (P q ∨ w.heap.size ≤ q) ∨ w1.heap.size ≤ q) w2 g T rest A c l') (hB : Below w0.heap.size w0 w2) (hk : Kept w1 w2 (fun q => (P q ∨ w.heap.size ≤ q) ∧ q ≠ g)) : Left w0 w P w2 g T rest A c l' :=
  ⟨hs.mono (fun q hq => hq.elim id (fun hq => .inr (Nat.le_trans h.kept.1 hq))), hB, Kept.then_ h.kept hk (fun q hq => hq.1.elim (fun h1 => .inl ⟨h1, hq.2⟩) .inr)⟩
end

set_option maxHeartbeats 8000000 in
set_option maxRecDepth 100000 in
theorem up_calls {w0 w : World} {P : Nat → Prop} {g : Nat} {T : TypeId} {rest : List Value} {A : Option Addr} {c : Nat} {l : List S27} (h : HS w0 P w g T rest A c l) (hB : Below w0.heap.size w0 w) (j f : Nat) (hj : j < l.length) (hf : j < f) (hl : l.length ≤ 1099511627776) :
    Calls Try.prog 21 #[.iface 45 (.pointer (some ⟨g, 0, none⟩)), .int .i64 (j : Int)] w fun e w' => e = .returned (.tuple #[]) ∧ Left w0 w P w' g T rest A c (upL f l j) := by
  have HLn := Aside0.mk hl
  have HT := Aside0.mk (Left.refl h hB)
  have HJ := Aside0.mk (show j < l.length ∧ j < f from ⟨hj, hf⟩)
  clear h hB hj hf hl
  go_enter Try.func21, Try.ntmps21
  go_wp2
  go_loopg [1] f (fun gk v1 w' => ∃ (i : Nat) (m : List S27), v1 = .int .i64 (i : Int) ∧ Aside0 (i < m.length ∧ i < gk) ∧ Aside0 (m.length = l.length) ∧ Aside0 (upL gk m i = upL f l j) ∧ Aside0 (Left w0 w P w' g T rest A c m))
  case atStart => exact ⟨j, l, rfl, HJ, ⟨rfl⟩, ⟨rfl⟩, HT⟩
  case round =>
    clear HT HJ
    obtain ⟨i, m, rfl, HI, HM, HU, HT⟩ := hrel
    obtain ⟨gk, rfl⟩ : ∃ k, gk = k + 1 := ⟨gk - 1, by have := HI.out.2; omega⟩
    have hil := HI.out.1
    rcases Nat.eq_zero_or_pos i with hz | hz
    · subst hz
      have HU2 := Aside0.mk (show upL f l j = m by rw [← HU.out]; simp only [upL]; rw [if_pos (by decide)])
      clear HU hil HI
      go_wp2
      go_end0
      exact ⟨rfl, by rw [HU2.out]; exact HT.out⟩
    · obtain ⟨i, rfl⟩ : ∃ k, i = k + 1 := ⟨i - 1, by omega⟩
      obtain ⟨q, hqn⟩ : ∃ q : Nat, q = i / 2 := ⟨_, rfl⟩
      have hq : (i : Int) / 2 = (q : Int) := by omega
      have hqe : ((q : Int) == (i : Int) + 1) = false := beq_eq_false_iff_ne.mpr (by omega)
      have hqi : q < i + 1 := by omega
      have hcell := HT.out.hs.cell
      have hM1 := m_Less g A _ c _ hcell
      have HC1 := Aside0.mk (less_calls HT.out.hs (i + 1) q hil (by omega))
      have hlen := HM.out
      have hl2 := HLn.out
      have hib : (i : Int) + 1 ≤ 1099511627776 := by omega
      have HQ := Aside0.mk (show q < m.length ∧ i + 1 < m.length ∧ q < gk ∧ (i + 1 - 1) / 2 = q ∧ q ≠ i + 1 by have := HI.out; omega)
      clear hqn hcell hil hqi hz HI hlen hl2
      by_cases hless : lessB m (i + 1) q = true
      · have HU2 := Aside0.mk (show upL gk (swapL m q (i + 1)) q = upL f l j by rw [← HU.out]; simp only [upL]; rw [HQ.out.2.2.2.1, if_neg HQ.out.2.2.2.2, if_pos hless])
        rw [hless] at HC1
        clear hless HU
        go_wp2_with (first | (go_at_call 40; refine HC1.out.mono ?_; rintro e w3 ⟨rfl, hb⟩; have HT2 := Aside0.mk (Left.read HT.out hb); clear hb HT hM1; have hM2 := m_Swap g A _ c _ HT2.out.hs.cell; have HC2 := Aside0.mk (swap_calls HT2.out.hs HT2.out.below q (i + 1) HQ.out.1 HQ.out.2.1)) | (go_at_call 41; refine HC2.out.mono ?_; rintro e w4 ⟨rfl, hs, hbb, hkk⟩; have HT3 := Aside0.mk (Left.swapped HT2.out hs hbb hkk); clear hs hbb hkk HT2 hM2))
        go_roundg gk
        case measure => omega
        case rel => exact ⟨q, swapL m q (i + 1), rfl, ⟨by rw [swapL_length]; exact HQ.out.1, HQ.out.2.2.1⟩, ⟨by rw [swapL_length]; exact HM.out⟩, HU2, HT3⟩
      · have hless2 : lessB m (i + 1) q = false := by simpa using hless
        have HU2 := Aside0.mk (show upL f l j = m by rw [← HU.out]; simp only [upL]; rw [HQ.out.2.2.2.1, if_neg HQ.out.2.2.2.2, if_neg hless])
        rw [hless2] at HC1
        clear hless hless2 HU
        go_wp2_with (go_at_call 40; refine HC1.out.mono ?_; rintro e w3 ⟨rfl, hb⟩; have HT2 := Aside0.mk (Left.read HT.out hb); clear hb HT hM1)
        go_end0
        exact ⟨rfl, by rw [HU2.out]; exact HT2.out⟩
end Go.Proofs.Ytgefggokgjneoaa.QT
