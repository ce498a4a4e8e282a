/- ScoreSums as a plain statement: what any matches are worth by the program and by the law's own count; above nought just if one of them holds. Condition: weights and lengths fit into 64 bits, as whatever comes in does. -/
import Derived.Test.YthbjofpaegboiaaQSx4
import Derived.Test.YthbjofpaegboiaaSParts
namespace Go.Proofs.Ythbjofpaegboiaa.SSums
open Go.RowKit Go.Proofs.Ythbjofpaegboiaa.QS Go.Proofs.Ythbjofpaegboiaa.SMath Go.Proofs.Ythbjofpaegboiaa.SOpn Go.Proofs.Ythbjofpaegboiaa.SParts Go.Proofs.YthbjofpaegboiaaW.PrintWords Go.Proofs.YthbjofpaegboiaaW.PrintLast

theorem lawone_loop (xs : List S31) (hf : Fits xs) (hn : xs.length ≤ 9223372036854775806) (d : Nat) : ∀ (k : Nat) (a i : Int), 0 ≤ a → a ≤ 2147483647 → 0 ≤ i → (xs.length : Int) - i = d → d < k →
    catchwordlaw17_one.l0 k a xs (xs.length : Int) i = some (min (a + sumW (xs.drop i.toNat)) 2147483647) := by
  induction d with
  | zero =>
    intro k a i h0 h1 hi hd hk
    obtain ⟨k, rfl⟩ : ∃ m, k = m + 1 := ⟨k - 1, by omega⟩
    simp only [catchwordlaw17_one.l0]
    rw [if_neg (by omega), List.drop_of_length_le (by omega)]
    simp only [sumW]
    congr 1; omega
  | succ d ih =>
    intro k a i h0 h1 hi hd hk
    obtain ⟨k, rfl⟩ : ∃ m, k = m + 1 := ⟨k - 1, by omega⟩
    have hlt : i.toNat < xs.length := by omega
    have hw : wrap64 (i + 1) = i + 1 := by unfold wrap64; omega
    have hr : rd_T31 xs i = xs[i.toNat] := by unfold rd_T31; simp [List.getD_eq_getElem?_getD, hlt]
    have hm : xs[i.toNat].f3 ≤ 9223372036854775807 := hf _ (List.getElem_mem hlt)
    have hdrop : xs.drop i.toNat = xs[i.toNat] :: xs.drop (i + 1).toNat := by
      rw [show (i + 1).toNat = i.toNat + 1 by omega]
      exact List.drop_eq_getElem_cons hlt
    have hsn := sumW_nonneg (xs.drop (i + 1).toNat)
    simp only [catchwordlaw17_one.l0]
    rw [if_pos (by omega), if_pos hi, if_pos (by omega), hr, hw]
    by_cases hp : xs[i.toNat].f3 > 0
    · have he : mn (IntKind.u64.wrap (a + IntKind.u64.wrap xs[i.toNat].f3)) 2147483647 = min (a + xs[i.toNat].f3) 2147483647 := by
        rw [wrap_u64, wrap_u64]; unfold mn; omega
      rw [if_pos hp, he, ih k _ (i + 1) (by omega) (by omega) (by omega) (by omega) (by omega), hdrop]
      simp only [sumW]
      congr 1; omega
    · rw [if_neg hp, ih k _ (i + 1) h0 h1 (by omega) (by omega) (by omega), hdrop]
      simp only [sumW]
      congr 1; omega

theorem lawone_spec (k : Nat) (xs ys : List S31) (hf : Fits xs) (hn : xs.length ≤ 9223372036854775806) (hk : xs.length < k) : catchwordlaw17_one.f k xs ys = some (oneV xs) := by
  unfold catchwordlaw17_one.f oneV
  rw [lawone_loop xs hf hn xs.length k 1 0 (by omega) (by omega) (by omega) (by omega) hk]
  simp

theorem first_nonneg (l : List S25) : ∀ i : Int, 0 ≤ i → (0 ≤ firstAt l i ↔ 0 < sumM l) := by
  induction l with
  | nil => intro i _; simp [firstAt, sumM]
  | cons m r ih =>
    intro i hi
    simp only [firstAt, sumM]
    have h1 := sumM_nonneg r
    have h2 := oneV_pos m.f0
    by_cases h : m.f1.length = 0
    · rw [if_pos h, if_pos h]; omega
    · rw [if_neg h, if_neg h, ih (i + 1) (by omega)]; omega

theorem sums_loop (l : List S25) (hg : SMath.Good 21 l) (hl : l.length ≤ 60) (d : Nat) : ∀ (k : Nat) (a i : Int), 0 ≤ i → (l.length : Int) - i = d → a = min (sumM (l.take i.toNat)) 2147483647 → 1000 + d < k →
    catchwordlaw17_ScoreSums.l0 k l a l (l.length : Int) i = some true := by
  induction d with
  | zero =>
    intro k a i hi hd ha hk
    obtain ⟨k, rfl⟩ : ∃ m, k = m + 1 := ⟨k - 1, by omega⟩
    have p0 := sumM_nonneg l
    rw [List.take_of_length_le (by omega)] at ha
    simp only [catchwordlaw17_ScoreSums.l0]
    rw [if_neg (by omega), of_spec 21 l hg k (by omega)]
    simp only [Option.bind_some, match_Holds.f]
    rw [wrap_u64, if_pos (by omega)]
    congr 1
    rw [beq_iff_eq]
    have h := first_nonneg l 0 (by omega)
    by_cases hp : 0 < sumM l
    · rw [decide_eq_true (by omega : min (sumM l) 2147483647 > 0), decide_eq_true (h.2 hp)]
    · rw [decide_eq_false (by omega : ¬ min (sumM l) 2147483647 > 0), decide_eq_false (fun hh => hp (h.1 hh))]
  | succ d ih =>
    intro k a i hi hd ha hk
    obtain ⟨k, rfl⟩ : ∃ m, k = m + 1 := ⟨k - 1, by omega⟩
    have hlt : i.toNat < l.length := by omega
    have hw : wrap64 (i + 1) = i + 1 := by unfold wrap64; omega
    have hr : rd_T25 l i = l[i.toNat] := by unfold rd_T25; simp [List.getD_eq_getElem?_getD, hlt]
    have hmem := List.getElem_mem hlt
    have hless := hg.less _ hmem
    have hp := oneV_pos l[i.toNat].f0
    have hpt := sumM_nonneg (l.take i.toNat)
    have htake : l.take (i + 1).toNat = l.take i.toNat ++ [l[i.toNat]] := by
      rw [show (i + 1).toNat = i.toNat + 1 by omega]
      exact List.take_succ_eq_append_getElem hlt
    have hsum : sumM (l.take (i + 1).toNat) = sumM (l.take i.toNat) + (if l[i.toNat].f1.length = 0 then oneV l[i.toNat].f0 else 0) := by
      rw [htake, sumM_append]; simp [sumM]
    simp only [catchwordlaw17_ScoreSums.l0]
    rw [if_pos (by omega), if_pos hi, if_pos (by omega), hr, one_spec k _ _ (hg.fits _ hmem) (hg.size _ hmem) (by omega)]
    simp only [Option.bind_some]
    rw [lawone_spec k _ _ (hg.fits _ hmem) (hg.size _ hmem) (by omega)]
    simp only [Option.bind_some]
    rw [if_pos (by rw [wrap_u64]; omega), hw]
    by_cases ho : l[i.toNat].f1.length = 0
    · rw [if_pos (by omega)]
      rw [if_pos ho] at hsum
      refine ih k _ (i + 1) (by omega) (by omega) ?_ (by omega)
      rw [hsum, wrap_u64]
      unfold mn; omega
    · rw [if_neg (by omega)]
      rw [if_neg ho] at hsum
      exact ih k _ (i + 1) (by omega) (by omega) (by rw [hsum]; omega) (by omega)

theorem ScoreSums (l0 : List S25) (h0 : ∀ m ∈ l0, Wf25 m) (n0 : l0.length ≤ 9223372036854775807) : catchwordlaw17_ScoreSums.f (l0.length + 2000) l0 = some true := by
  obtain ⟨b0, e0, s0⟩ := few_spec l0 n0 (l0.length + 2000) (by omega)
  unfold catchwordlaw17_ScoreSums.f
  rw [head_spec _ (by omega)]
  simp only [Option.bind_some, if_true]
  rw [e0]
  simp only [Option.bind_some]
  cases b0 with
  | false => rfl
  | true =>
    obtain ⟨a0, t0⟩ := s0 rfl
    simp only [if_true]
    exact sums_loop l0 (good_of h0 (by omega) (fun x hx => (t0 x hx).1)) a0 l0.length _ 0 0 (by omega) (by omega) (by simp [sumM]; omega) (by omega)
end Go.Proofs.Ythbjofpaegboiaa.SSums
