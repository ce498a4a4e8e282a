/- The walk of TopGreat, and its plain law. Conditions as each theorem has them. -/
import Derived.Test.YtgefggokgjneoaaTop2
namespace Go.Proofs.Ytgefggokgjneoaa.QT
open Go.RowKit Go.Proofs.YtgefggokgjneoaaW.PrintWords Go.Proofs.YtgefggokgjneoaaW.PrintLast Go.Proofs.YtgefggokgjneoaaW.PrintMore Go.Proofs.Ytgefggokgjneoaa.TPure
attribute [local go_sem] max2_int min2_int max_two min_two max_three min_three max_four min_four ta27  -- for this text's walks alone
set_option linter.unusedVariables false
set_option linter.unusedSimpArgs false
theorem and511 (n : Int) : bits .and .i64 n 511 = n % 512 := by
  have hc : (BitVec.ofInt 64 511).toNat = 2 ^ 9 - 1 := by decide
  have key : (BitVec.ofInt 64 n &&& BitVec.ofInt 64 511).toNat = (n % ((2 ^ 64 : Nat) : Int)).toNat % 2 ^ 9 := by
    rw [BitVec.toNat_and, BitVec.toNat_ofInt, hc, Nat.and_two_pow_sub_one_eq_mod]
  show IntKind.i64.wrap ((BitVec.ofInt 64 n &&& BitVec.ofInt 64 511).toNat : Nat) = n % 512
  rw [key, IntKind.wrap_i64]
  omega
theorem and127 (n : Int) : bits .and .i64 n 127 = n % 128 := by
  have hc : (BitVec.ofInt 64 127).toNat = 2 ^ 7 - 1 := by decide
  have key : (BitVec.ofInt 64 n &&& BitVec.ofInt 64 127).toNat = (n % ((2 ^ 64 : Nat) : Int)).toNat % 2 ^ 7 := by
    rw [BitVec.toNat_and, BitVec.toNat_ofInt, hc, Nat.and_two_pow_sub_one_eq_mod]
  show IntKind.i64.wrap ((BitVec.ofInt 64 n &&& BitVec.ofInt 64 127).toNat : Nat) = n % 128
  rw [key, IntKind.wrap_i64]
  omega
theorem and1023 (n : Int) : bits .and .i64 n 1023 = n % 1024 := by
  have hc : (BitVec.ofInt 64 1023).toNat = 2 ^ 10 - 1 := by decide
  have key : (BitVec.ofInt 64 n &&& BitVec.ofInt 64 1023).toNat = (n % ((2 ^ 64 : Nat) : Int)).toNat % 2 ^ 10 := by
    rw [BitVec.toNat_and, BitVec.toNat_ofInt, hc, Nat.and_two_pow_sub_one_eq_mod]
  show IntKind.i64.wrap ((BitVec.ofInt 64 n &&& BitVec.ofInt 64 1023).toNat : Nat) = n % 1024
  rw [key, IntKind.wrap_i64]
  omega
/-- The even low bits. -/
theorem and1022 (n : Int) : ∃ e : Nat, bits .and .i64 n 1022 = (e : Int) ∧ e ≤ 1022 ∧ e % 2 = 0 := by
  have hc : (BitVec.ofInt 64 1022).toNat = 1022 := by decide
  refine ⟨(n % ((2 ^ 64 : Nat) : Int)).toNat &&& 1022, ?_, Nat.and_le_right, ?_⟩
  · have key : (BitVec.ofInt 64 n &&& BitVec.ofInt 64 1022).toNat = (n % ((2 ^ 64 : Nat) : Int)).toNat &&& 1022 := by
      rw [BitVec.toNat_and, BitVec.toNat_ofInt, hc]
    show IntKind.i64.wrap ((BitVec.ofInt 64 n &&& BitVec.ofInt 64 1022).toNat : Nat) = _
    have := @Nat.and_le_right (n % ((2 ^ 64 : Nat) : Int)).toNat 1022
    rw [key, IntKind.wrap_i64]
    omega
  · have h0 : (1022 &&& 1 : Nat) = 0 := by decide
    rw [← Nat.and_one_is_mod, Nat.and_assoc, h0, Nat.and_zero]
theorem or_odd (e : Nat) (he : e ≤ 1022) (h2 : e % 2 = 0) : bits .or .i64 (1 + (e : Int)) 1 = ((e + 1 : Nat) : Int) := by
  have h0 : ∀ e : Fin 1023, e.val % 2 = 0 → bits .or .i64 (1 + (e.val : Int)) 1 = ((e.val + 1 : Nat) : Int) := by decide +kernel
  exact h0 ⟨e, by omega⟩ h2
def rw_ (s : Nat) : S27 := ⟨(s : Int), 0, (s : Int)⟩
def gseq (D i : Nat) : Nat := (i * D + 7) % 1024
def glist (D N : Nat) : Nat → List S27
  | 0 => []
  | i + 1 => if gseq D i < N then glist D N i ++ [rw_ (gseq D i)] else glist D N i
theorem glist_eq (D N : Nat) (n : Nat) : glist D N n = (((List.range n).map (gseq D)).filter (fun s => decide (s < N))).map rw_ := by
  induction n with
  | zero => rfl
  | succ n ih =>
    simp only [glist]
    rw [List.range_succ, List.map_append, List.filter_append, List.map_append, ← ih]
    by_cases h : gseq D n < N
    · rw [if_pos h]; simp [h]
    · rw [if_neg h]; simp [h]
theorem inv_odd : ∀ D : Fin 1024, D.val % 2 = 1 → (D.val * (D.val ^ 255 % 1024)) % 1024 = 1 := by decide +kernel
theorem gseq_inj (D : Nat) (hD : D < 1024) (h2 : D % 2 = 1) (i j : Nat) (hi : i < 1024) (hj : j < 1024) (h : gseq D i = gseq D j) : i = j := by
  obtain ⟨q, hq⟩ : ∃ q, (D * q) % 1024 = 1 := ⟨_, inv_odd ⟨D, hD⟩ h2⟩
  unfold gseq at h
  have h3 : (i * D) % 1024 = (j * D) % 1024 := by omega
  have h4 : (i * D * q) % 1024 = (j * D * q) % 1024 := by rw [Nat.mul_mod (i * D), Nat.mul_mod (j * D), h3]
  rw [Nat.mul_assoc, Nat.mul_assoc, Nat.mul_mod i, Nat.mul_mod j, hq] at h4
  omega
theorem gseq_surj (D : Nat) (hD : D < 1024) (h2 : D % 2 = 1) (v : Nat) (hv : v < 1024) : ∃ i, i < 1024 ∧ gseq D i = v := by
  obtain ⟨q, hq⟩ : ∃ q, (D * q) % 1024 = 1 := ⟨_, inv_odd ⟨D, hD⟩ h2⟩
  refine ⟨((v + 1017) * q) % 1024, Nat.mod_lt _ (by omega), ?_⟩
  unfold gseq
  have h3 : ((v + 1017) * q % 1024 * D) % 1024 = (v + 1017) % 1024 := by
    rw [Nat.mod_mul_mod, Nat.mul_assoc, Nat.mul_comm q D, Nat.mul_mod, hq, Nat.mul_one, Nat.mod_mod]
  omega
theorem glist_perm (D N : Nat) (hD : D < 1024) (h2 : D % 2 = 1) (hN : N ≤ 1024) : (glist D N 1024).Perm (((List.range N).reverse).map rw_) := by
  rw [glist_eq]
  refine List.Perm.map _ ?_
  refine List.Perm.trans ?_ (List.reverse_perm _).symm
  have hnd : ((List.range 1024).map (gseq D)).Nodup := by
    unfold List.Nodup
    rw [List.pairwise_map]
    have h0 : (List.range 1024).Pairwise (fun a b => a < b) := List.pairwise_lt_range
    refine List.Pairwise.imp_of_mem ?_ h0
    intro a b ha hb hab he
    have := gseq_inj D hD h2 a b (by simpa using ha) (by simpa using hb) he
    omega
  refine (List.perm_ext_iff_of_nodup (hnd.filter _) List.nodup_range).2 fun a => ?_
  rw [List.mem_filter, List.mem_range]
  constructor
  · intro h; simpa using h.2
  · intro h
    refine ⟨?_, by simpa using h⟩
    obtain ⟨i, hi, he⟩ := gseq_surj D hD h2 a (by omega)
    exact List.mem_map.2 ⟨i, List.mem_range.2 hi, he⟩
theorem desc_sorted (N : Nat) : Sorted (((List.range N).reverse).map rw_) := by
  unfold Sorted
  rw [List.pairwise_map, List.pairwise_reverse]
  refine List.Pairwise.imp ?_ List.pairwise_lt_range
  intro a b hab
  rw [le_iff]
  unfold rw_
  simp only
  omega
theorem great_rows (D N M : Nat) (hD : D < 1024) (h2 : D % 2 = 1) (hN : N ≤ 1024) : rowsL (addsL M [] (glist D N 1024)) = (((List.range N).reverse).map rw_).take M := by
  have hk := Keeps.adds (glist D N 1024) (Keeps.nil M)
  rw [List.nil_append] at hk
  rw [hk.rows]
  unfold firsts
  rw [← isort_eq (glist_perm D N hD h2 hN).symm (desc_sorted N)]
theorem great_len (D N M i : Nat) : (addsL M [] (glist D N i)).length ≤ M := by
  have hk := Keeps.adds (glist D N i) (Keeps.nil M)
  rw [hk.length]
  omega
theorem great_get (N M k : Nat) (hk : k < ((((List.range N).reverse).map rw_).take M).length) : rd_T27 ((((List.range N).reverse).map rw_).take M) (k : Int) = rw_ (N - 1 - k) := by
  rw [rd_at]
  unfold at_
  rw [List.getD_eq_getElem?_getD, List.getElem?_eq_getElem hk]
  simp
end Go.Proofs.Ytgefggokgjneoaa.QT
