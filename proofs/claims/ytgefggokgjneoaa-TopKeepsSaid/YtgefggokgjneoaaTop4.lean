/- The walk of TopParts' inner function. Conditions as each theorem has them. -/
import Derived.Test.YtgefggokgjneoaaTop3
namespace Go.Proofs.Ytgefggokgjneoaa.QT
open Go.RowKit Go.Proofs.YtgefggokgjneoaaW.PrintWords Go.Proofs.YtgefggokgjneoaaW.PrintLast Go.Proofs.YtgefggokgjneoaaW.PrintMore Go.Proofs.Ytgefggokgjneoaa.TPure
attribute [local go_sem] max2_int min2_int max_two min_two max_three min_three max_four min_four ta27  -- for this text's walks alone
set_option linter.unusedVariables false
set_option linter.unusedSimpArgs false
theorem firsts_idem (m : Nat) (s : List S27) : firsts m (firsts m s) = firsts m s := by
  have h : isort (firsts m s) = firsts m s := (isort_eq (.refl _) (firsts_sorted m s)).symm
  show (isort (firsts m s)).take m = _
  rw [h]
  unfold firsts
  rw [List.take_take, Nat.min_self]
theorem firsts_more (m : Nat) : ∀ (xs : List S27) {s1 s2 : List S27}, firsts m s1 = firsts m s2 → firsts m (s1 ++ xs) = firsts m (s2 ++ xs) := by
  intro xs
  induction xs with
  | nil => intro s1 s2 h; rw [List.append_nil, List.append_nil]; exact h
  | cons x xs ih =>
    intro s1 s2 h
    have := ih (show firsts m (s1 ++ [x]) = firsts m (s2 ++ [x]) by rw [firsts_snoc, firsts_snoc, h])
    rw [List.append_assoc, List.append_assoc] at this
    exact this
theorem firsts_perm (m : Nat) {s1 s2 : List S27} (h : s1.Perm s2) : firsts m s1 = firsts m s2 := by unfold firsts; rw [isort_of_perm h]
theorem firsts_parts (m : Nat) (a b : List S27) : firsts m (firsts m b ++ firsts m a) = firsts m (a ++ b) := by
  rw [firsts_more m (firsts m a) (firsts_idem m b), firsts_perm m (List.perm_append_comm), firsts_more m b (firsts_idem m a)]
section
variable {w0 w : World} {P : Nat → Prop} {g : Nat} {T : TypeId} {rest : List Value} {A : Option Addr} {c : Nat} {l : List S27}
/-- Lists that came in: a slice of slices of rows. -/
def Lists (w : World) (b : Nat) (ls : List (List S27)) : Prop := ∀ (i : Nat) (l : List S27), ls[i]? = some l → l.length ≤ 40 ∧ ∃ A c, w.cell? ⟨b, i, none⟩ = some (.slice A l.length c) ∧ l.length ≤ c ∧ Kd.C k27 w A l.length l
set_option maxHeartbeats 1000000 in
set_option maxRecDepth 100000 in
theorem keep_calls (b : Nat) (ls : List (List S27)) (hL : Lists w b ls) (hn : ls.length ≤ 2) (n c : Nat) (hnl : n = ls.length) (M : Nat) (hM : M ≤ 15) (p : Nat) (hp : w.cell? ⟨p, 0, none⟩ = some (.int .i64 (M : Int))) :
    Calls Try.prog 16 #[.slice (some ⟨b, 0, none⟩) n c, .pointer (some ⟨p, 0, none⟩)] w fun e w' => ∃ A' c', e = .returned (.slice A' (firsts M ls.flatten).length c') ∧ Kd.R k27 27 w' w.heap.size (fun _ => True) (.slice A' (firsts M ls.flatten).length c') (firsts M ls.flatten) ∧ Below w.heap.size w w' := by
  subst hnl
  have HL := Aside0.mk hL
  have HN := Aside0.mk (new_calls (w0 := w) (w := w) (M : Int) (by omega) (by omega) (Below.refl _ _))
  rw [show (if 0 < (M : Int) then (M : Int) else 0) = (M : Int) by split <;> omega] at HN
  have hM2 : (M : Int) ≤ 15 := by omega
  have hnb : (ls.length : Int) ≤ 2 := by omega
  clear hL
  go_enter Try.func16, Try.ntmps16
  go_wp2_with (go_at_call 9; refine HN.out.mono ?_; rintro e1 w2 ⟨g, rfl, hga, hsa, hb2, hb3⟩; have HT := Aside0.mk (show T1 w w2 (M : Int) g none 0 (addsL M [] (ls.take 0).flatten) from ⟨hsa.mono (fun _ _ => trivial), hb2⟩); clear hb2 hb3 hsa hga HN)
  go_loopg [13] (ls.length + 1) (fun gk v13 w' => ∃ (i : Nat) (A : Option Addr) (c : Nat), v13 = .int .i64 (i : Int) ∧ Aside0 (i ≤ ls.length ∧ ls.length < i + gk) ∧ Aside0 (T1 w w' (M : Int) g A c (addsL M [] (ls.take i).flatten)))
  case atStart => exact ⟨0, none, 0, rfl, ⟨by omega, by omega⟩, HT⟩
  case round =>
    clear HT
    obtain ⟨i, A, c, rfl, HI, HT⟩ := hrel
    obtain ⟨gi, rfl⟩ : ∃ k, gk = k + 1 := ⟨gk - 1, by have := HI.out; omega⟩
    have hi0 : (0 : Int) ≤ (i : Int) := by omega
    by_cases hi : i < ls.length
    · have hil : (i : Int) < (ls.length : Int) := by omega
      obtain ⟨l, hl⟩ : ∃ l, ls[i]? = some l := ⟨_, List.getElem?_eq_getElem (by omega)⟩
      obtain ⟨hl40, Al, cl, hxl, hcl, hC⟩ := HL.out i l hl
      have hx := (HT.out.below.cell (World.block_lt_of_cell? w _ hxl)).trans hxl
      have HC := Aside0.mk hC
      have hlb : (l.length : Int) ≤ 40 := by omega
      have hl0 : (0 : Int) ≤ (l.length : Int) := by omega
      have HF := Aside0.mk (show (ls.take (i + 1)).flatten = (ls.take i).flatten ++ l by rw [List.take_add_one, hl]; simp)
      clear hC hxl
      have HII := Aside0.mk hi
      go_wp2
      go_loopg [19] (l.length + 1) (fun gk v19 w' => ∃ (j : Nat) (A : Option Addr) (c : Nat), v19 = .int .i64 (j : Int) ∧ Aside0 (j ≤ l.length ∧ l.length < j + gk) ∧ Aside0 (T1 w w' (M : Int) g A c (addsL M [] ((ls.take i).flatten ++ l.take j))))
      case atStart => exact ⟨0, A, c, rfl, ⟨by omega, by omega⟩, ⟨by rw [List.take_zero, List.append_nil]; exact HT.out⟩⟩
      case round =>
        clear HT
        obtain ⟨j, A2, c2, rfl, HJ, HT⟩ := hrel
        obtain ⟨gj, rfl⟩ : ∃ k, gk = k + 1 := ⟨gk - 1, by have := HJ.out; omega⟩
        have hj0 : (0 : Int) ≤ (j : Int) := by omega
        by_cases hj : j < l.length
        · have hjl : (j : Int) < (l.length : Int) := by omega
          obtain ⟨ad, rfl, hx0, hx1, hx2⟩ := row_cells HC.out HT.out.below j hj
          have hjg : l[j]? = some (rd_T27 l (j : Int)) := by
            rw [rd_at]; unfold at_; rw [List.getD_eq_getElem?_getD, List.getElem?_eq_getElem hj]; rfl
          have HS1 := Aside0.mk (show addsL M [] ((ls.take i).flatten ++ l.take (j + 1)) = addL (addsL M [] ((ls.take i).flatten ++ l.take j)) M (rd_T27 l (j : Int)) by
            rw [← addsL_snoc, List.append_assoc]
            congr 2
            rw [List.take_add_one, hjg]; rfl)
          have hlen : (addsL M [] ((ls.take i).flatten ++ l.take j)).length ≤ 15 := by
            have hk := Keeps.adds ((ls.take i).flatten ++ l.take j) (Keeps.nil M)
            rw [hk.length]; omega
          have HCA := Aside0.mk (fun (W : World) (hb : Below _ _ W) => add_calls (HT.out.hs.below hb) (below_then HT.out.below HT.out.below.size hb) (rd_T27 l (j : Int)) (by omega) (by omega))
          unfold enc27 at HCA
          generalize rd_T27 l (j : Int) = X at hx0 hx1 hx2 HCA HS1
          clear hjg hlen
          go_wp2_with (go_at_call 11; refine (HCA.out _ (by repeat (first | exact Below.refl _ _ | apply below_alloc | apply below_drew1))).mono ?_; rintro e1 w3 ⟨rfl, A3, c3, hmv⟩; have HT2 := Aside0.mk (T1.moved hmv); clear hmv HCA HT)
          go_roundg gj
          case measure => omega
          case rel => exact ⟨j + 1, A3, c3, (by first | rfl | (congr 1; omega) | simp), ⟨by omega, by have := HJ.out; omega⟩, ⟨by rw [HS1.out]; exact HT2.out⟩⟩
        · obtain rfl : j = l.length := by have := HJ.out; omega
          have HT2 := Aside0.mk (show T1 w _ (M : Int) g A2 c2 (addsL M [] (ls.take (i + 1)).flatten) by rw [HF.out]; have := HT.out; rw [List.take_of_length_le (Nat.le_refl _)] at this; exact this)
          clear HT
          go_wp2
          go_roundg gi
          case measure => omega
          case rel => exact ⟨i + 1, A2, c2, (by first | rfl | (congr 1; omega) | simp), ⟨by have := HII.out; omega, by have := HI.out; omega⟩, HT2⟩
    · obtain rfl : i = ls.length := by have := HI.out; omega
      have hk := Keeps.adds (ls.take ls.length).flatten (Keeps.nil M)
      rw [List.nil_append] at hk
      have hF : rowsL (addsL M [] (ls.take ls.length).flatten) = firsts M ls.flatten := by rw [hk.rows, List.take_of_length_le (by omega)]
      have HC1 := Aside0.mk (rows_calls HT.out.hs (by rw [hk.length]; omega))
      rw [hF] at HC1
      clear hk hF
      have HWB := Aside0.mk HT.out.below
      go_wp2_with (go_at_call 13; refine HC1.out.mono ?_; rintro e1 w4 ⟨A1, c1, rfl, hr1, hb1⟩; have HR1 := Aside0.mk (Kd.R_lower hr1 HWB.out.size); have HB4 := Aside0.mk (below_then HWB.out HWB.out.size hb1); clear hr1 hb1 HC1)
      go_ret
      exact ⟨A1, c1, rfl, HR1.out, HB4.out⟩
end
end Go.Proofs.Ytgefggokgjneoaa.QT
