/- Numbers to the base 128, the highest digits ahead: what Put lays, what the law's own put lays, what Get reads, and that each undoes the other. Condition: numbers below 2^64, bytes. -/
import Derived.Test.YtgmbefkbonaodaaQVx3
import Derived.Test.YtgmbefkbonaodaaVSum
namespace Go.Proofs.Ytgmbefkbonaodaa.VDig
open Go.RowKit Go.Proofs.Ytgmbefkbonaodaa.QV Go.Proofs.Ytgmbefkbonaodaa.VSum Go.Proofs.YtgmbefkbonaodaaW.PrintWords Go.Proofs.YtgmbefkbonaodaaW.PrintLast

/-- The digits of a number, each with the mark that more follow. -/
def E (n : Nat) : List Int := if _h : n = 0 then [] else E (n / 128) ++ [((n % 128 + 128 : Nat) : Int)]
termination_by n
decreasing_by omega

theorem E_zero : E 0 = [] := by rw [E]; simp
theorem E_pos {n : Nat} (h : 0 < n) : E n = E (n / 128) ++ [((n % 128 + 128 : Nat) : Int)] := by rw [E]; rw [dif_neg (by omega)]

/-- A number's form. -/
def D (n : Nat) : List Int := E (n / 128) ++ [((n % 128 : Nat) : Int)]

theorem E_len (j : Nat) : ∀ n, n < 128 ^ j → (E n).length ≤ j := by
  induction j with
  | zero => intro n h; obtain rfl : n = 0 := by simpa using h
            simp [E_zero]
  | succ j ih =>
    intro n h
    rcases Nat.eq_zero_or_pos n with h0 | h0
    · subst h0; simp [E_zero]
    · rw [E_pos h0, List.length_append]
      have := ih (n / 128) (by rw [Nat.pow_succ] at h; omega)
      simp; omega

theorem E_len_pos {n : Nat} (h : 0 < n) : 0 < (E n).length := by rw [E_pos h]; simp

theorem D_len (n : Nat) (h : n < 18446744073709551616) : (D n).length ≤ 10 := by
  have := E_len 9 (n / 128) (by omega)
  unfold D; simp; omega

theorem E_bytes (j : Nat) : ∀ n, n < 128 ^ j → Bytes (E n) := by
  induction j with
  | zero => intro n h; obtain rfl : n = 0 := by simpa using h
            rw [E_zero]; intro x hx; cases hx
  | succ j ih =>
    intro n h
    rcases Nat.eq_zero_or_pos n with h0 | h0
    · subst h0; rw [E_zero]; intro x hx; cases hx
    · rw [E_pos h0]
      intro x hx
      rcases List.mem_append.1 hx with hx | hx
      · exact ih (n / 128) (by rw [Nat.pow_succ] at h; omega) x hx
      · rw [List.mem_singleton] at hx; omega

theorem D_bytes (n : Nat) (h : n < 18446744073709551616) : Bytes (D n) := by
  intro x hx
  rcases List.mem_append.1 hx with hx | hx
  · exact E_bytes 9 (n / 128) (by omega) x hx
  · rw [List.mem_singleton] at hx; omega

theorem putL_E (f : Nat) : ∀ (n : Nat) (acc : List Int), 0 < n → n < 128 ^ f → putL f (n : Int) 128 acc = E n ++ acc := by
  induction f with
  | zero => intro n acc h0 h; simp at h; omega
  | succ f ih =>
    intro n acc h0 h
    have e1 : (n : Int) % 128 + 128 = ((n % 128 + 128 : Nat) : Int) := by omega
    have e2 : (n : Int) / 128 = ((n / 128 : Nat) : Int) := by omega
    simp only [putL]
    rw [e1, e2, E_pos h0]
    by_cases hz : n / 128 = 0
    · rw [if_pos (by omega), hz, E_zero]; rfl
    · rw [if_neg (by omega), ih (n / 128) _ (by omega) (by rw [Nat.pow_succ] at h; omega)]
      simp

theorem putL_succ (f : Nat) (n m : Int) (acc : List Int) : putL (f + 1) n m acc = if n / 128 = 0 then (n % 128 + m) :: acc else putL f (n / 128) 128 ((n % 128 + m) :: acc) := rfl

theorem put_D (n : Nat) (h : n < 18446744073709551616) : putL 10 (n : Int) 0 [] = D n := by
  have e1 : (n : Int) % 128 + 0 = ((n % 128 : Nat) : Int) := by omega
  have e2 : (n : Int) / 128 = ((n / 128 : Nat) : Int) := by omega
  rw [show (10 : Nat) = 9 + 1 from rfl, putL_succ, e1, e2]
  unfold D
  by_cases hz : n / 128 = 0
  · rw [if_pos (by omega), hz, E_zero]; rfl
  · rw [if_neg (by omega), putL_E 9 (n / 128) _ (by omega) (by omega)]

theorem Put_spec (l : List Int) (hl : l.length < 140737488355318) (n : Nat) (h : n < 18446744073709551616) : vint_Put.f l (n : Int) = some (l ++ D n) := by
  unfold vint_Put.f
  rw [if_pos (by omega), if_pos (by omega), if_pos hl, put_D n h]

/-! ### The law's own put -/
theorem str_cons (a : Int) (l : List Int) : strOfNums [a] ++ strOfNums l = strOfNums (a :: l) := by
  apply ByteArray.ext
  rw [ByteArray.data_append]
  simp [strOfNums]
theorem str_app (a b : List Int) : strOfNums a ++ strOfNums b = strOfNums (a ++ b) := by
  apply ByteArray.ext
  rw [ByteArray.data_append]
  simp [strOfNums]

theorem wrap_u64 (n : Int) : IntKind.u64.wrap n = n % 18446744073709551616 := by simp [IntKind.wrap, IntKind.bits, IntKind.signed]

theorem putlaw_loop (f : Nat) : ∀ (n k : Nat) (acc : List Int), n < 128 ^ f → n < 18446744073709551616 → acc.length + f ≤ 1000 → f < k →
    catchwordlaw01_put.l0 k (n : Int) (strOfNums acc) = some (strOfNums (E n ++ acc)) := by
  induction f with
  | zero =>
    intro n k acc h h64 ha hk
    obtain ⟨k, rfl⟩ : ∃ m, k = m + 1 := ⟨k - 1, by omega⟩
    obtain rfl : n = 0 := by simpa using h
    simp only [catchwordlaw01_put.l0]
    rw [if_neg (by simp), E_zero]; rfl
  | succ f ih =>
    intro n k acc h h64 ha hk
    obtain ⟨k, rfl⟩ : ∃ m, k = m + 1 := ⟨k - 1, by omega⟩
    rcases Nat.eq_zero_or_pos n with h0 | h0
    · subst h0
      simp only [catchwordlaw01_put.l0]
      rw [if_neg (by simp), E_zero]; rfl
    · have e1 : (((Int.tmod (n : Int) 128) % 256) + 128) % 256 = ((n % 128 + 128 : Nat) : Int) := by
        rw [Int.tmod_eq_emod_of_nonneg (by omega)]; omega
      have e2 : IntKind.u64.wrap (Int.tdiv (n : Int) 128) = ((n / 128 : Nat) : Int) := by
        rw [wrap_u64, Int.tdiv_eq_ediv_of_nonneg (by omega)]; omega
      simp only [catchwordlaw01_put.l0]
      rw [if_pos (by omega), e1, e2]
      simp only [Option.bind_some]
      rw [if_pos (by rw [strOfNums_size, strOfNums_size]; simp; omega), str_cons, ih (n / 128) k _ (by rw [Nat.pow_succ] at h; omega) (by omega) (by simp; omega) (by omega), E_pos h0]
      simp

theorem putlaw_spec (n k : Nat) (h : n < 18446744073709551616) (hk : 10 < k) : catchwordlaw01_put.f k (n : Int) = some (strOfNums (D n)) := by
  unfold catchwordlaw01_put.f
  have e1 : (Int.tmod (n : Int) 128) % 256 = ((n % 128 : Nat) : Int) := by
    rw [Int.tmod_eq_emod_of_nonneg (by omega)]; omega
  have e2 : IntKind.u64.wrap (Int.tdiv (n : Int) 128) = ((n / 128 : Nat) : Int) := by
    rw [wrap_u64, Int.tdiv_eq_ediv_of_nonneg (by omega)]; omega
  rw [e1, e2, putlaw_loop 9 (n / 128) k _ (by omega) (by omega) (by simp) (by omega)]
  rfl

/-! ### Get -/
/-- The number that begins here, and behind how many bytes; i bytes were read, a is what they tell. -/
def getL : Nat → Nat → List Int → Nat × Nat
  | _, _, [] => (0, 0)
  | i, a, c :: r => if (i = 0 ∧ c = 128) ∨ a / 144115188075855872 ≠ 0 then (0, 0) else if c < 128 then (a * 128 + c.toNat, i + 1) else getL (i + 1) (a * 128 + (c.toNat - 128)) r

theorem u8_127 (c : Int) (h0 : 0 ≤ c) (h1 : c < 256) : bits .and .u8 c 127 = c % 128 := by
  rw [u8_and c 127 h0 h1 (by omega) (by omega)]
  have : (127 : Int).toNat = 2 ^ 7 - 1 := rfl
  rw [this, Nat.and_two_pow_sub_one_eq_mod]; omega

/-- A further digit. -/
theorem digit (a : Nat) (c : Int) (ha : a < 144115188075855872) (h0 : 0 ≤ c) (h1 : c < 256) :
    Go.bits .or .u64 (IntKind.u64.wrap ((a : Int) * 128)) (IntKind.u64.wrap (Go.bits .and .u8 c 127)) = ((a * 128 + c.toNat % 128 : Nat) : Int) := by
  have e1 : Go.bits .and .u8 c 127 = ((c.toNat % 128 : Nat) : Int) := by
    have := u8_127 c h0 h1
    rw [show Go.bits .and .u8 c 127 = c % 128 from this]; omega
  have e2 : IntKind.u64.wrap ((a : Int) * 128) = ((a * 128 : Nat) : Int) := by rw [wrap_u64]; omega
  have e3 : IntKind.u64.wrap ((c.toNat % 128 : Nat) : Int) = ((c.toNat % 128 : Nat) : Int) := by rw [wrap_u64]; omega
  rw [e1, e2, e3]
  have h := u64_or_nat (a * 128) (c.toNat % 128) (by omega) (by omega)
  rw [show Go.bits .or .u64 ((a * 128 : Nat) : Int) ((c.toNat % 128 : Nat) : Int) = ((a * 128 ||| c.toNat % 128 : Nat) : Int) from h]
  congr 1
  have h2 := Nat.two_pow_add_eq_or_of_lt (i := 7) (b := c.toNat % 128) (by omega) a
  rw [show a * 128 = 2 ^ 7 * a by omega, ← h2]

theorem get_loop (xs : List Int) (hb : Bytes xs) (hn : xs.length ≤ 9223372036854775806) (d : Nat) : ∀ (k a i : Nat), a < 18446744073709551616 → i + d = xs.length → 2 * d + 1 < k →
    vint_Get.l0 k (a : Int) xs (xs.length : Int) (i : Int) = some (((getL i a (xs.drop i)).1 : Int), ((getL i a (xs.drop i)).2 : Int)) := by
  induction d with
  | zero =>
    intro k a i ha hi hk
    obtain ⟨k, rfl⟩ : ∃ m, k = m + 1 := ⟨k - 1, by omega⟩
    simp only [vint_Get.l0]
    rw [if_neg (by omega), List.drop_of_length_le (by omega)]
    rfl
  | succ d ih =>
    intro k a i ha hi hk
    obtain ⟨k, rfl⟩ : ∃ m, k = m + 2 := ⟨k - 2, by omega⟩
    have hlt : i < xs.length := by omega
    have hx := hb _ (List.getElem_mem hlt)
    have hw : wrap64 ((i : Int) + 1) = ((i + 1 : Nat) : Int) := by unfold wrap64; omega
    have hr : rd xs (i : Int) = xs[i] := by
      unfold rd; rw [Int.toNat_natCast, List.getD_eq_getElem?_getD, List.getElem?_eq_getElem hlt]; rfl
    have hdrop : xs.drop i = xs[i] :: xs.drop (i + 1) := List.drop_eq_getElem_cons hlt
    have hg : getL i a (xs.drop i) = if (i = 0 ∧ xs[i] = 128) ∨ a / 144115188075855872 ≠ 0 then (0, 0) else if xs[i] < 128 then (a * 128 + xs[i].toNat, i + 1) else getL (i + 1) (a * 128 + (xs[i].toNat - 128)) (xs.drop (i + 1)) := by rw [hdrop]; rfl
    have hj : ∀ b : Bool, b = decide ((i = 0 ∧ xs[i] = 128) ∨ a / 144115188075855872 ≠ 0) → vint_Get.j1 (k + 1) (a : Int) (i : Int) xs[i] xs (xs.length : Int) (i : Int) b = some (((getL i a (xs.drop i)).1 : Int), ((getL i a (xs.drop i)).2 : Int)) := by
      intro b hbq
      simp only [vint_Get.j1]
      rw [hg, hw]
      by_cases hc : (i = 0 ∧ xs[i] = 128) ∨ a / 144115188075855872 ≠ 0
      · rw [if_pos hc, hbq, if_pos (decide_eq_true hc)]; rfl
      · rw [if_neg hc, hbq, if_neg (by simpa using hc)]
        have ha57 : a < 144115188075855872 := by
          have : a / 144115188075855872 = 0 := by
            rcases Nat.eq_zero_or_pos (a / 144115188075855872) with h | h
            · exact h
            · exact absurd (Or.inr (by omega)) hc
          omega
        have hdg := digit a xs[i] ha57 hx.1 hx.2
        rw [hdg]
        by_cases hl : xs[i] < 128
        · rw [if_pos hl, if_pos hl]
          congr 2
          omega
        · rw [if_neg hl, if_neg hl]
          have he : a * 128 + xs[i].toNat % 128 = a * 128 + (xs[i].toNat - 128) := by omega
          rw [he]
          exact ih k _ (i + 1) (by omega) (by omega) (by omega)
    simp only [vint_Get.l0]
    rw [if_pos (by omega), if_pos (by omega), if_pos (by omega), hr]
    have hq : ((a : Int) / 144115188075855872 != 0) = decide (a / 144115188075855872 ≠ 0) := by
      by_cases h : a / 144115188075855872 = 0
      · have : (a : Int) / 144115188075855872 = 0 := by omega
        simp [h, this]
      · have : (a : Int) / 144115188075855872 ≠ 0 := by omega
        simp [h, this]
    by_cases hi0 : (i : Int) = 0
    · rw [if_pos hi0]
      by_cases h128 : xs[i] = 128
      · rw [if_pos h128]
        exact hj true (by symm; exact decide_eq_true (Or.inl ⟨by omega, h128⟩))
      · rw [if_neg h128]
        exact hj _ (by rw [hq]; simp [h128])
    · rw [if_neg hi0]
      exact hj _ (by rw [hq]; have : i ≠ 0 := by omega
                     simp [this])

theorem Get_spec (xs : List Int) (hb : Bytes xs) (hn : xs.length ≤ 9223372036854775806) (k : Nat) (hk : 2 * xs.length + 1 < k) : vint_Get.f k xs = some (((getL 0 0 xs).1 : Int), ((getL 0 0 xs).2 : Int)) := by
  unfold vint_Get.f
  exact get_loop xs hb hn xs.length k 0 0 (by decide) (by omega) hk

/-! ### Laid and read -/
theorem get_E (j : Nat) : ∀ (m : Nat) (rest : List Int), m < 128 ^ j → m < 144115188075855872 → getL 0 0 (E m ++ rest) = getL (E m).length m rest := by
  induction j with
  | zero => intro m rest h _; obtain rfl : m = 0 := by simpa using h
            rw [E_zero]; rfl
  | succ j ih =>
    intro m rest h h57
    rcases Nat.eq_zero_or_pos m with h0 | h0
    · subst h0; rw [E_zero]; rfl
    · rw [E_pos h0, List.append_assoc, ih (m / 128) _ (by rw [Nat.pow_succ] at h; omega) (by omega)]
      have hl : (E (m / 128) ++ [((m % 128 + 128 : Nat) : Int)]).length = (E (m / 128)).length + 1 := by simp
      rw [hl]
      show (if _ then _ else if _ then _ else _) = _
      have hne : ¬ (((E (m / 128)).length = 0 ∧ ((m % 128 + 128 : Nat) : Int) = 128) ∨ m / 128 / 144115188075855872 ≠ 0) := by
        intro hc
        rcases hc with ⟨h1, h2⟩ | h1
        · rcases Nat.eq_zero_or_pos (m / 128) with h3 | h3
          · omega
          · have := E_len_pos h3; omega
        · omega
      rw [if_neg hne, if_neg (by omega)]
      have e : m / 128 * 128 + ((((m % 128 + 128 : Nat) : Int)).toNat - 128) = m := by omega
      rw [e]
      rfl

theorem get_D (n : Nat) (h : n < 18446744073709551616) (more : List Int) : getL 0 0 (D n ++ more) = (n, (D n).length) := by
  unfold D
  rw [List.append_assoc, get_E 9 (n / 128) _ (by omega) (by omega)]
  show (if _ then _ else if _ then _ else _) = _
  rw [if_neg (by omega), if_pos (by omega)]
  simp
  omega

/-- What is read is the form of its number. -/
theorem get_form (r : List Int) : ∀ (i a : Nat) (p : List Int), Bytes r → p = E a → p.length = i → (0 < i → 0 < a) → (i = 0 → a = 0) → a < 18446744073709551616 → 0 < (getL i a r).2 →
    (getL i a r).2 ≤ i + r.length ∧ (getL i a r).1 < 18446744073709551616 ∧ (p ++ r).take (getL i a r).2 = D (getL i a r).1 := by
  induction r with
  | nil => intro i a p _ _ _ _ _ _ h; simp [getL] at h
  | cons c r ih =>
    intro i a p hb hp hl hpos hz ha hk
    have hc := hb c (by simp)
    have hg : getL i a (c :: r) = if (i = 0 ∧ c = 128) ∨ a / 144115188075855872 ≠ 0 then (0, 0) else if c < 128 then (a * 128 + c.toNat, i + 1) else getL (i + 1) (a * 128 + (c.toNat - 128)) r := rfl
    by_cases h1 : (i = 0 ∧ c = 128) ∨ a / 144115188075855872 ≠ 0
    · rw [hg, if_pos h1] at hk; simp at hk
    · rw [hg, if_neg h1] at hk ⊢
      have ha57 : a < 144115188075855872 := by
        have : a / 144115188075855872 = 0 := by
          rcases Nat.eq_zero_or_pos (a / 144115188075855872) with h | h
          · exact h
          · exact absurd (Or.inr (by omega)) h1
        omega
      by_cases h2 : c < 128
      · rw [if_pos h2]
        refine ⟨by simp only [List.length_cons]; omega, by show a * 128 + c.toNat < _; omega, ?_⟩
        show (p ++ c :: r).take (i + 1) = D (a * 128 + c.toNat)
        have hd : D (a * 128 + c.toNat) = E a ++ [c] := by
          unfold D
          rw [show (a * 128 + c.toNat) / 128 = a by omega, show ((a * 128 + c.toNat) % 128 : Nat) = c.toNat by omega]
          congr 2; omega
        rw [hd, ← hp, ← hl, List.take_length_add_append]
        rfl
      · rw [if_neg h2] at hk ⊢
        have he : p ++ [c] = E (a * 128 + (c.toNat - 128)) := by
          have hpos2 : 0 < a * 128 + (c.toNat - 128) := by
            rcases Nat.eq_zero_or_pos i with h0 | h0
            · have : c ≠ 128 := fun h => h1 (Or.inl ⟨h0, h⟩)
              omega
            · have := hpos h0; omega
          rw [E_pos hpos2, show (a * 128 + (c.toNat - 128)) / 128 = a by omega, hp]
          congr 2
          omega
        have hpos2 : 0 < a * 128 + (c.toNat - 128) := by
          rcases Nat.eq_zero_or_pos i with h0 | h0
          · have : c ≠ 128 := fun h => h1 (Or.inl ⟨h0, h⟩)
            omega
          · have := hpos h0; omega
        have h := ih (i + 1) (a * 128 + (c.toNat - 128)) (p ++ [c]) (fun x hx => hb x (by simp [hx])) he (by simp; omega) (fun _ => hpos2) (by omega) (by omega) hk
        refine ⟨by simp; omega, h.2.1, ?_⟩
        have h3 := h.2.2
        rw [List.append_assoc] at h3
        exact h3
end Go.Proofs.Ytgmbefkbonaodaa.VDig
