/- What the printed mirror of the checksum tells: the sum of VMath, for bytes. -/
import Derived.Test.YtgmbefkbonaodaaQVx1
import Derived.Test.YtgmbefkbonaodaaVMath
namespace Go.Proofs.Ytgmbefkbonaodaa.VSum
open Go.RowKit Go.Proofs.Ytgmbefkbonaodaa.QV Go.Proofs.Ytgmbefkbonaodaa.VMath Go.Proofs.YtgmbefkbonaodaaW.PrintWords Go.Proofs.YtgmbefkbonaodaaW.PrintLast

def Bytes (l : List Int) : Prop := ∀ x ∈ l, 0 ≤ x ∧ x < 256
def nat (l : List Int) : List Nat := l.map Int.toNat

theorem nat_lt {l : List Int} (h : Bytes l) : ∀ x ∈ nat l, x < 256 := by
  intro x hx
  obtain ⟨y, hy, rfl⟩ := List.mem_map.1 hx
  have := h y hy
  omega

theorem rounds (xs : List Int) (n i9 : Int) (d : Nat) : ∀ (c k : Nat), c < 4294967296 → d ≤ 8 →
    vint_Sum.l1 (k + d + 1) (c : Int) xs n i9 (8 - (d : Int)) = vint_Sum.l0 k (steps d c : Nat) xs n (wrap64 (i9 + 1)) := by
  induction d with
  | zero =>
    intro c k hc hd
    simp only [vint_Sum.l1]
    rw [if_neg (by omega)]
    rfl
  | succ d ih =>
    intro c k hc hd
    have hw : wrap64 (8 - ((d + 1 : Nat) : Int) + 1) = 8 - (d : Int) := by unfold wrap64; omega
    have ha : Go.bits .and .u32 (c : Int) 1 = ((c % 2 : Nat) : Int) := by
      have h := u32_and_nat c 1 hc (by decide)
      rw [nat_mask1] at h
      exact h
    have hx : Go.bits .xor .u32 ((c : Int) / 2) 3988292384 = (((c / 2) ^^^ 3988292384 : Nat) : Int) := by
      have h := u32_xor_nat (c / 2) 3988292384 (by omega) (by decide)
      rw [← h]
      congr 1
    have e : k + (d + 1) + 1 = (k + d + 1) + 1 := by omega
    have hsl := stp_lt c hc
    have hih := ih (stp c) k hsl (by omega)
    rw [e]
    obtain ⟨K, hK⟩ : ∃ K, K = k + d + 1 := ⟨_, rfl⟩
    rw [← hK] at hih ⊢
    simp only [vint_Sum.l1]
    rw [if_pos (by omega), ha, hw]
    by_cases hm : c % 2 = 1
    · rw [if_pos (by omega), hx]
      have hs : stp c = (c / 2) ^^^ 3988292384 := by unfold stp; rw [if_pos hm]
      rw [← hs, hih]
      rfl
    · rw [if_neg (by omega)]
      have hs : stp c = c / 2 := by unfold stp; rw [if_neg hm]
      have hc2 : (c : Int) / 2 = ((stp c : Nat) : Int) := by rw [hs]; omega
      rw [hc2, hih]
      rfl

theorem loop (xs : List Int) (hb : Bytes xs) (hn : xs.length ≤ 9223372036854775806) (d : Nat) : ∀ (k c : Nat) (i : Int), c < 4294967296 → 0 ≤ i → (xs.length : Int) - i = d → 10 * d < k →
    vint_Sum.l0 k (c : Int) xs (xs.length : Int) i = some ((4294967295 ^^^ crc c (nat (xs.drop i.toNat)) : Nat) : Int) := by
  induction d with
  | zero =>
    intro k c i hc hi hd hk
    obtain ⟨k, rfl⟩ : ∃ m, k = m + 1 := ⟨k - 1, by omega⟩
    simp only [vint_Sum.l0]
    rw [if_neg (by omega), List.drop_of_length_le (by omega)]
    congr 1
    have h := u32_xor_nat 4294967295 c (by decide) hc
    rw [show crc c (nat []) = c by rfl, ← h]
    unfold bits
    rfl
  | succ d ih =>
    intro k c i hc hi hd hk
    obtain ⟨k, rfl⟩ : ∃ m, k = (m + 8 + 1) + 1 := ⟨k - 10, by omega⟩
    have hlt : i.toNat < xs.length := by omega
    have hw : wrap64 (i + 1) = i + 1 := by unfold wrap64; omega
    have hx := hb _ (List.getElem_mem hlt)
    have hr : rd xs i = (xs[i.toNat].toNat : Int) := by
      unfold rd
      rw [List.getD_eq_getElem?_getD, List.getElem?_eq_getElem hlt]
      simp; omega
    have hdrop : xs.drop i.toNat = xs[i.toNat] :: xs.drop (i + 1).toNat := by
      rw [show (i + 1).toNat = i.toNat + 1 by omega]
      exact List.drop_eq_getElem_cons hlt
    have hxr : Go.bits .xor .u32 (c : Int) (rd xs i % 4294967296) = ((c ^^^ xs[i.toNat].toNat : Nat) : Int) := by
      rw [hr, show ((xs[i.toNat].toNat : Int) % 4294967296) = (xs[i.toNat].toNat : Int) by omega]
      exact u32_xor_nat c _ hc (by omega)
    have hcx : c ^^^ xs[i.toNat].toNat < 4294967296 := Nat.xor_lt_two_pow (n := 32) (by omega) (by omega)
    simp only [vint_Sum.l0]
    rw [if_pos (by omega), if_pos hi, if_pos (by omega), hxr]
    have h := rounds xs (xs.length : Int) i 8 (c ^^^ xs[i.toNat].toNat) k hcx (by omega)
    rw [show (8 : Int) - ((8 : Nat) : Int) = 0 by omega] at h
    rw [h, hw]
    have h2 := ih k (steps 8 (c ^^^ xs[i.toNat].toNat)) (i + 1) (steps_lt 8 _ hcx) (by omega) (by omega) (by omega)
    rw [h2, hdrop]
    rfl

/-- The sum of bytes. -/
def sum (l : List Nat) : Nat := 4294967295 ^^^ crc 4294967295 l

theorem sum_spec (xs : List Int) (hb : Bytes xs) (hn : xs.length ≤ 9223372036854775806) (k : Nat) (hk : 10 * xs.length < k) : vint_Sum.f k xs = some ((sum (nat xs) : Nat) : Int) := by
  unfold vint_Sum.f sum
  have h := loop xs hb hn xs.length k 4294967295 0 (by decide) (by omega) (by omega) hk
  simpa using h
end Go.Proofs.Ytgmbefkbonaodaa.VSum
