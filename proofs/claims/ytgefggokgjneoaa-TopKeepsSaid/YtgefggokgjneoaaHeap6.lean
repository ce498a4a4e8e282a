/- The contracts of heap.Push, heap.Fix and heap.Pop over a heap of rows in memory. Conditions as each theorem has them. -/
import Derived.Test.YtgefggokgjneoaaHeap5
namespace Go.Proofs.Ytgefggokgjneoaa.QT
open Go.RowKit Go.Proofs.YtgefggokgjneoaaW.PrintWords Go.Proofs.YtgefggokgjneoaaW.PrintLast Go.Proofs.YtgefggokgjneoaaW.PrintMore
attribute [local go_sem] max2_int min2_int max_two min_two max_three min_three max_four min_four   -- for this text's walks alone
set_option linter.unusedVariables false
set_option linter.unusedSimpArgs false
section
variable {w0 w : World} {P : Nat → Prop} {g : Nat} {T : TypeId} {rest : List Value} {A : Option Addr} {c : Nat} {l : List S27}
theorem len_calls (h : HS w0 P w g T rest A c l) : Calls Try.prog 39 #[.slice A l.length c] w fun e w' => e = .returned (.int .i64 (l.length : Int)) ∧ Below w.heap.size w w' := by
  refine (top_rows_Len.calls A c l _ w h.reads h.fits rfl).mono ?_
  rintro e w' ⟨he, hb⟩
  exact ⟨he, hb.below⟩
/-- What heap.Push makes of the rows. -/
def hpushL (l : List S27) (x : S27) : List S27 := upL (l.length + 1) (l ++ [x]) l.length
/-- What heap.Fix(h, 0) makes of them. -/
def hfixL (l : List S27) : List S27 := if (downL (l.length + 1) l 0 l.length).2 > 0 then (downL (l.length + 1) l 0 l.length).1 else upL 1 (downL (l.length + 1) l 0 l.length).1 0
/-- What heap.Pop makes of them, before the last one goes. -/
def hpopL (l : List S27) : List S27 := (downL (l.length + 1) (swapL l 0 (l.length - 1)) 0 (l.length - 1)).1
set_option maxHeartbeats 4000000 in
set_option maxRecDepth 100000 in
theorem hpush_calls (h : HS w0 P w g T rest A c l) (hB : Below w0.heap.size w0 w) (x : S27) (hl : l.length < 1099511627776) :
    Calls Try.prog 17 #[.iface 45 (.pointer (some ⟨g, 0, none⟩)), .iface 27 (enc27 x)] w fun e w' => e = .returned (.tuple #[]) ∧ ∃ A' c', Moved w0 w P w' g T rest A' c' (hpushL l x) := by
  have HLn := Aside0.mk hl
  have hlb : (l.length : Int) ≤ 1099511627776 := by omega
  have hM0 := m_Push g w
  have HC0 := Aside0.mk (push_calls h hB x (by omega))
  clear h hB hl
  go_enter Try.func17, Try.ntmps17
  go_wp2_with (first
    | (go_at_call 43; refine HC0.out.mono ?_; rintro e w1 ⟨rfl, A', c', hm⟩; have HM := Aside0.mk hm; clear hm HC0 hM0; have hM1 := m_Len g A' _ c' _ HM.out.hs.cell; have HC1 := Aside0.mk (len_calls HM.out.hs); rw [show (l ++ [x]).length = l.length + 1 by simp] at HC1 hM1)
    | (go_at_call 39; refine HC1.out.mono ?_; rintro e w2 ⟨rfl, hb⟩; have HM2 := Aside0.mk (Moved.made HM.out hb); clear hb HM hM1 HC1; have HC2 := Aside0.mk (up_calls HM2.out.hs HM2.out.below l.length (l.length + 1) (by simp) (by omega) (by have := HLn.out; simp; omega)))
    | (go_at_call 21; refine HC2.out.mono ?_; rintro e w3 ⟨rfl, hlf⟩; have HM3 := Aside0.mk (Moved.then_ HM2.out hlf.moved); clear hlf HM2 HC2))
  go_end0
  exact ⟨rfl, A', c', HM3.out⟩
set_option maxHeartbeats 4000000 in
set_option maxRecDepth 100000 in
theorem hfix_calls (h : HS w0 P w g T rest A c l) (hB : Below w0.heap.size w0 w) (h1 : 0 < l.length) (hl : l.length < 1099511627776) :
    Calls Try.prog 18 #[.iface 45 (.pointer (some ⟨g, 0, none⟩)), .int .i64 0] w fun e w' => e = .returned (.tuple #[]) ∧ Moved w0 w P w' g T rest A c (hfixL l) := by
  have HLn := Aside0.mk (And.intro hl h1)
  have HB0 := Aside0.mk hB
  have HT := Aside0.mk h
  have hM1 := m_Len g A _ c _ h.cell
  have HC1 := Aside0.mk (len_calls h)
  clear h hB hl h1
  by_cases hd : (downL (l.length + 1) l 0 l.length).2 > 0
  · have hgo : decide ((downL (l.length + 1) l 0 l.length).2 > 0) = true := decide_eq_true hd
    have HF := Aside0.mk (show hfixL l = (downL (l.length + 1) l 0 l.length).1 by unfold hfixL; rw [if_pos hd])
    clear hd
    go_enter Try.func18, Try.ntmps18
    go_wp2_with (first
      | (go_at_call 39; refine HC1.out.mono ?_; rintro e w2 ⟨rfl, hb⟩; have HT2 := Aside0.mk (Left.read (Left.refl HT.out HB0.out) hb); clear hb hM1 HC1; have HC2 := Aside0.mk (down_calls HT2.out.hs HT2.out.below 0 l.length (l.length + 1) (by omega) (by omega) (by omega) (by have := HLn.out; omega)); rw [hgo] at HC2)
      | (go_at_call 22; refine HC2.out.mono ?_; rintro e w3 ⟨rfl, hlf⟩; have HM3 := Aside0.mk (Moved.then_ HT2.out.moved hlf.moved); clear hlf HC2))
    go_end0
    exact ⟨rfl, by rw [HF.out]; exact HM3.out⟩
  · have hgo : decide ((downL (l.length + 1) l 0 l.length).2 > 0) = false := decide_eq_false hd
    have HF := Aside0.mk (show hfixL l = upL 1 (downL (l.length + 1) l 0 l.length).1 0 by unfold hfixL; rw [if_neg hd])
    clear hd
    go_enter Try.func18, Try.ntmps18
    go_wp2_with (first
      | (go_at_call 39; refine HC1.out.mono ?_; rintro e w2 ⟨rfl, hb⟩; have HT2 := Aside0.mk (Left.read (Left.refl HT.out HB0.out) hb); clear hb hM1 HC1; have HC2 := Aside0.mk (down_calls HT2.out.hs HT2.out.below 0 l.length (l.length + 1) (by omega) (by omega) (by omega) (by have := HLn.out; omega)); rw [hgo] at HC2)
      | (go_at_call 22; refine HC2.out.mono ?_; rintro e w3 ⟨rfl, hlf⟩; have HM3 := Aside0.mk (Moved.then_ HT2.out.moved hlf.moved); clear hlf HC2; have HC3 := Aside0.mk (up_calls HM3.out.hs HM3.out.below 0 1 (by rw [downL_length]; exact HLn.out.2) (by omega) (by rw [downL_length]; have := HLn.out; omega)))
      | (go_at_call 21; refine HC3.out.mono ?_; rintro e w4 ⟨rfl, hlf⟩; have HM4 := Aside0.mk (Moved.then_ HM3.out hlf.moved); clear hlf HM3 HC3))
    go_end0
    exact ⟨rfl, by rw [HF.out]; exact HM4.out⟩
set_option maxHeartbeats 4000000 in
set_option maxRecDepth 100000 in
theorem hpop_calls (h : HS w0 P w g T rest A c l) (hB : Below w0.heap.size w0 w) (h1 : 0 < l.length) (hl : l.length < 1099511627776) :
    Calls Try.prog 20 #[.iface 45 (.pointer (some ⟨g, 0, none⟩))] w fun e w' => e = .returned (.iface 27 (enc27 (rd_T27 (hpopL l) ((l.length - 1 : Nat) : Int)))) ∧ Moved w0 w P w' g T rest A c ((hpopL l).take (l.length - 1)) := by
  obtain ⟨n, hn⟩ : ∃ n : Nat, n = l.length - 1 := ⟨_, rfl⟩
  have hn2 : l.length = n + 1 := by omega
  have hsub : (l.length : Int) - 1 = (n : Int) := by omega
  have hnb : (n : Int) ≤ 1099511627776 := by omega
  have HLn := Aside0.mk (And.intro hl h1)
  have HN := Aside0.mk hn2
  have HB0 := Aside0.mk hB
  have HT := Aside0.mk h
  have hM1 := m_Len g A _ c _ h.cell
  have HC1 := Aside0.mk (len_calls h)
  have hHP : hpopL l = (downL (l.length + 1) (swapL l 0 n) 0 n).1 := by unfold hpopL; rw [hn]
  rw [← hn, hHP]
  clear h hB hl h1 hn hn2 hHP
  go_enter Try.func20, Try.ntmps20
  go_wp2_with (first
    | (go_at_call 39; refine HC1.out.mono ?_; rintro e w2 ⟨rfl, hb⟩; have HT2 := Aside0.mk (Left.read (Left.refl HT.out HB0.out) hb); clear hb hM1 HC1; have hM2 := m_Swap g A _ c _ HT2.out.hs.cell; have HC2 := Aside0.mk (swap_calls HT2.out.hs HT2.out.below 0 n (by have := HLn.out; omega) (by have := HN.out; omega)))
    | (go_at_call 41; refine HC2.out.mono ?_; rintro e w3 ⟨rfl, hs, hbb, hkk⟩; have HT3 := Aside0.mk (Left.swapped HT2.out hs hbb hkk); clear hs hbb hkk HT2 hM2 HC2; have HC3 := Aside0.mk (down_calls HT3.out.hs HT3.out.below 0 n (l.length + 1) (by omega) (by rw [swapL_length]; have := HN.out; omega) (by have := HN.out; omega) (by rw [swapL_length]; have := HLn.out; omega)))
    | (go_at_call 22; refine HC3.out.mono ?_; rintro e w4 ⟨rfl, hlf⟩; have HM4 := Aside0.mk (Moved.then_ HT3.out.moved hlf.moved); clear hlf HC3 HT3; have hM4 := m_Pop g w4; have HC4 := Aside0.mk (popr_calls HM4.out.hs HM4.out.below n (by rw [downL_length, swapL_length]; exact HN.out) (by rw [downL_length, swapL_length]; have := HLn.out; omega)))
    | (go_at_call 42; refine HC4.out.mono ?_; rintro e w5 ⟨rfl, hm⟩; have HM5 := Aside0.mk (Moved.then_ HM4.out hm); clear hm HC4 HM4 hM4))
  go_ret
  exact ⟨rfl, HM5.out⟩
end
end Go.Proofs.Ytgefggokgjneoaa.QT
