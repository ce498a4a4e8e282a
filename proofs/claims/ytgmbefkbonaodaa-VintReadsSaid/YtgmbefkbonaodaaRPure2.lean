/- Parts laid one behind the other, and read, whole or cut off: plain laws. Conditions as each theorem has them. -/
import Derived.Test.YtgmbefkbonaodaaRPure
namespace Go.Proofs.Ytgmbefkbonaodaa.QV
open Go.RowKit Go.Proofs.YtgmbefkbonaodaaW.PrintWords Go.Proofs.YtgmbefkbonaodaaW.PrintLast Go.Proofs.YtgmbefkbonaodaaW.PrintMore Go.Proofs.Ytgmbefkbonaodaa.VSum Go.Proofs.Ytgmbefkbonaodaa.VDig
theorem and24 (n : Int) : bits .and .i64 n 16777215 = n % 16777216 := by
  have hc : (BitVec.ofInt 64 16777215).toNat = 2 ^ 24 - 1 := by decide
  have key : (BitVec.ofInt 64 n &&& BitVec.ofInt 64 16777215).toNat = (n % ((2 ^ 64 : Nat) : Int)).toNat % 2 ^ 24 := by
    rw [BitVec.toNat_and, BitVec.toNat_ofInt, hc, Nat.and_two_pow_sub_one_eq_mod]
  show IntKind.i64.wrap ((BitVec.ofInt 64 n &&& BitVec.ofInt 64 16777215).toNat : Nat) = n % 16777216
  rw [key, IntKind.wrap_i64]
  omega
theorem and255 (n : Int) : bits .and .i64 n 255 = n % 256 := by
  have hc : (BitVec.ofInt 64 255).toNat = 2 ^ 8 - 1 := by decide
  have key : (BitVec.ofInt 64 n &&& BitVec.ofInt 64 255).toNat = (n % ((2 ^ 64 : Nat) : Int)).toNat % 2 ^ 8 := by
    rw [BitVec.toNat_and, BitVec.toNat_ofInt, hc, Nat.and_two_pow_sub_one_eq_mod]
  show IntKind.i64.wrap ((BitVec.ofInt 64 n &&& BitVec.ofInt 64 255).toNat : Nat) = n % 256
  rw [key, IntKind.wrap_i64]
  omega
/-- A part's number. -/
def nOf (x : S39) : Nat := (x.f1 % 16777216).toNat
theorem nOf_lt (x : S39) : nOf x < 16777216 := by unfold nOf; omega
theorem nOf_and (x : S39) : bits .and .i64 x.f1 16777215 = (nOf x : Int) := by rw [and24]; unfold nOf; omega
/-- A part as it is laid. -/
def encP (x : S39) : List Int := if x.f0 = true then txtE x.f2 else D (nOf x)
/-- How great it is: what is held against the most. -/
def sizeP (x : S39) : Nat := if x.f0 = true then x.f2.size else nOf x
def encPs (l : List S39) : List Int := (l.map encP).flatten
theorem encPs_snoc (l : List S39) (s : S39) : encPs (l ++ [s]) = encPs l ++ encP s := by unfold encPs; simp
theorem encPs_take (l : List S39) (i : Nat) (s : S39) (h : l[i]? = some s) : encPs (l.take (i + 1)) = encPs (l.take i) ++ encP s := by
  rw [← encPs_snoc, List.take_add_one, h]; rfl
theorem encPs_split (l : List S39) (i : Nat) (s : S39) (h : l[i]? = some s) : encPs l = encPs (l.take i) ++ (encP s ++ encPs (l.drop (i + 1))) := by
  have hi : i < l.length := (List.getElem?_eq_some_iff.1 h).1
  have e : l = l.take i ++ (s :: l.drop (i + 1)) := by
    have h2 : l[i] = s := (List.getElem?_eq_some_iff.1 h).2
    rw [← h2, ← List.drop_eq_getElem_cons hi, List.take_append_drop]
  conv => lhs; rw [e]
  unfold encPs
  simp
theorem encP_bytes (x : S39) (h : x.f2.size ≤ 100) : Bytes (encP x) := by
  unfold encP
  split
  · exact txtE_bytes _ (by omega)
  · exact D_bytes _ (by have := nOf_lt x; omega)
theorem encP_length (x : S39) (h : x.f2.size ≤ 100) : (encP x).length ≤ 110 := by
  unfold encP
  split
  · have := txtE_length x.f2 (by omega); omega
  · have := D_len (nOf x) (by have := nOf_lt x; omega); omega
theorem encPs_bytes (l : List S39) (h : ∀ s ∈ l, s.f2.size ≤ 100) : Bytes (encPs l) := by
  intro x hx
  unfold encPs at hx
  obtain ⟨b, hb, hx⟩ := List.mem_flatten.1 hx
  obtain ⟨s, hs, rfl⟩ := List.mem_map.1 hb
  exact encP_bytes s (h s hs) x hx
theorem encPs_length : ∀ (l : List S39), (∀ s ∈ l, s.f2.size ≤ 100) → (encPs l).length ≤ l.length * 110 := by
  intro l
  induction l with
  | nil => intro _; simp [encPs]
  | cons s l ih =>
    intro h
    have h1 := ih (fun t ht => h t (List.mem_cons_of_mem _ ht))
    have h3 := encP_length s (h s (by simp))
    have h4 : encPs (s :: l) = encP s ++ encPs l := by unfold encPs; simp
    rw [h4, List.length_append, List.length_cons, Nat.add_mul]
    omega
/-! ### Cut off -/
theorem get_marked : ∀ (r : List Int) (i a : Nat), (∀ c ∈ r, 128 ≤ c) → (getL i a r).2 = 0 := by
  intro r
  induction r with
  | nil => intro i a _; rfl
  | cons c r ih =>
    intro i a h
    have hc := h c (by simp)
    show (if _ then _ else if _ then _ else _ : Nat × Nat).2 = 0
    split
    · rfl
    · rw [if_neg (by omega)]
      exact ih _ _ (fun d hd => h d (List.mem_cons_of_mem _ hd))
theorem E_marked (j : Nat) : ∀ n, n < 128 ^ j → ∀ c ∈ E n, (128 : Int) ≤ c := by
  induction j with
  | zero => intro n h; obtain rfl : n = 0 := by simpa using h
            rw [E_zero]; intro c hc; cases hc
  | succ j ih =>
    intro n h
    rcases Nat.eq_zero_or_pos n with h0 | h0
    · subst h0; rw [E_zero]; intro c hc; cases hc
    · rw [E_pos h0]
      intro c hc
      rcases List.mem_append.1 hc with hc | hc
      · exact ih (n / 128) (by rw [Nat.pow_succ] at h; omega) c hc
      · rw [List.mem_singleton] at hc; omega
theorem get_cut (n k : Nat) (hn : n < 18446744073709551616) (hk : k < (D n).length) : (getL 0 0 ((D n).take k)).2 = 0 := by
  apply get_marked
  intro c hc
  unfold D at hc hk
  rw [List.length_append, List.length_singleton] at hk
  rw [List.take_append_of_le_length (by omega)] at hc
  exact E_marked 9 (n / 128) (by omega) c (List.mem_of_mem_take hc)
theorem numR_cut (l : List Int) (p n k : Nat) (m : Int) (hn : n < 18446744073709551616) (hk : k < (D n).length) (h : l.drop p = (D n).take k) : numR l p m = (0, p, 2) := by
  unfold numR
  rw [h]
  exact if_pos (Or.inl (get_cut n k hn hk))
theorem textR_cut (l : List Int) (p k : Nat) (s : ByteArray) (m : Int) (hn : s.size < 18446744073709551616) (hm : s.size ≤ m.toNat) (hp : p ≤ l.length) (hk : k < (txtE s).length) (h : l.drop p = (txtE s).take k) : (textR l p m).2.2 = 2 := by
  unfold textR
  by_cases hk2 : k < (D s.size).length
  · have h2 := numR_cut l p s.size k m hn hk2 (by rw [h]; unfold txtE; rw [List.take_append_of_le_length (by omega)])
    rw [h2]
    rw [if_pos (Or.inl (show (2 : Int) ≠ 0 by decide))]
  · have hsp : l.drop p = D s.size ++ (bytesOf s).take (k - (D s.size).length) := by
      rw [h]; unfold txtE; rw [List.take_append]
      rw [List.take_of_length_le (by omega)]
    have h2 : numR l p m = (s.size, p + (D s.size).length, 0) := by
      unfold numR
      rw [hsp, get_D s.size hn]
      rw [if_neg]
      intro h
      rcases h with h | h
      · simp only at h
        unfold D at h
        simp at h
      · simp only at h
        omega
    rw [h2]
    have hl : l.length = p + k := by
      have := congrArg List.length h
      rw [List.length_drop, List.length_take] at this
      omega
    have hks : k < (D s.size).length + s.size := by
      unfold txtE at hk
      rw [List.length_append, bytesOf_length] at hk
      exact hk
    rw [if_pos (Or.inr (show l.length - (p + (D s.size).length) < s.size by omega))]
/-! ### A reader of what was cut off behind k bytes -/
/-- Where it stands behind i parts. -/
def QOk (l : List S39) (X : List Int) (k i p : Nat) (e : Int) : Prop := (e = 0 ∧ p = (encPs (l.take i)).length ∧ p ≤ k) ∨ (e = 2 ∧ p ≤ k ∧ k < X.length)
theorem drop_cut (pre mid post : List Int) (k : Nat) (h1 : pre.length ≤ k) (h2 : k < pre.length + mid.length) : ((pre ++ (mid ++ post)).take k).drop pre.length = mid.take (k - pre.length) := by
  rw [List.drop_take, List.drop_left, List.take_append_of_le_length (by omega)]
theorem take_whole (pre mid post : List Int) (k : Nat) (h2 : pre.length + mid.length ≤ k) : ∃ post', (pre ++ (mid ++ post)).take k = pre ++ (mid ++ post') := by
  refine ⟨post.take (k - (pre.length + mid.length)), ?_⟩
  rw [← List.append_assoc, List.take_append, List.take_of_length_le (by rw [List.length_append]; omega), List.length_append, List.append_assoc]
theorem q_text (l : List S39) (X : List Int) (k i p : Nat) (Y : S39) (hX : X = encPs l) (hB : Bytes X) (hi : l[i]? = some Y) (hf : Y.f0 = true) (hs : Y.f2.size ≤ 100) (hk : k ≤ X.length) (h : QOk l X k i p 0) :
    QOk l X k (i + 1) (textR (X.take k) p 1073741824).2.1 (textR (X.take k) p 1073741824).2.2 := by
  rcases h with ⟨_, hp, hpk⟩ | ⟨h, _⟩
  · have hsp := encPs_split l i Y hi
    rw [← hX, show encP Y = txtE Y.f2 from if_pos hf] at hsp
    have htk := encPs_take l i Y hi
    rw [show encP Y = txtE Y.f2 from if_pos hf] at htk
    by_cases hw : p + (txtE Y.f2).length ≤ k
    · obtain ⟨post', hpo⟩ := take_whole (encPs (l.take i)) (txtE Y.f2) (encPs (l.drop (i + 1))) k (by omega)
      rw [← hsp] at hpo
      have hR := textR_at (encPs (l.take i)) post' Y.f2 1073741824 (by omega) (by show _ ≤ 1073741824; omega)
      rw [← hpo, ← hp] at hR
      rw [hR]
      exact Or.inl ⟨rfl, by rw [htk, List.length_append, ← hp], hw⟩
    · have hd := drop_cut (encPs (l.take i)) (txtE Y.f2) (encPs (l.drop (i + 1))) k (by omega) (by omega)
      rw [← hsp, ← hp] at hd
      have hle : p ≤ (X.take k).length := by rw [List.length_take]; omega
      have hR := textR_cut (X.take k) p (k - p) Y.f2 1073741824 (by omega) (by show _ ≤ 1073741824; omega) hle (by omega) hd
      refine Or.inr ⟨hR, ?_, ?_⟩
      · have hb : Bytes (X.take k) := fun x hx => hB x (List.mem_of_mem_take hx)
        have := textR_le hle hb 1073741824
        rw [List.length_take] at this
        omega
      · rw [hsp]; simp only [List.length_append]; omega
  · cases h
theorem q_num (l : List S39) (X : List Int) (k i p : Nat) (Y : S39) (hX : X = encPs l) (hi : l[i]? = some Y) (hf : Y.f0 = false) (h : QOk l X k i p 0) :
    QOk l X k (i + 1) (numR (X.take k) p 1073741824).2.1 (numR (X.take k) p 1073741824).2.2 := by
  have hn := nOf_lt Y
  have hE : encP Y = D (nOf Y) := if_neg (by rw [hf]; decide)
  rcases h with ⟨_, hp, hpk⟩ | ⟨h, _⟩
  · have hsp := encPs_split l i Y hi
    rw [← hX, hE] at hsp
    have htk := encPs_take l i Y hi
    rw [hE] at htk
    by_cases hw : p + (D (nOf Y)).length ≤ k
    · obtain ⟨post', hpo⟩ := take_whole (encPs (l.take i)) (D (nOf Y)) (encPs (l.drop (i + 1))) k (by omega)
      rw [← hsp] at hpo
      have hR := numR_at (encPs (l.take i)) post' (nOf Y) 1073741824 (by omega) (by show _ ≤ 1073741824; omega)
      rw [← hpo, ← hp] at hR
      rw [hR]
      exact Or.inl ⟨rfl, by rw [htk, List.length_append, ← hp], hw⟩
    · have hd := drop_cut (encPs (l.take i)) (D (nOf Y)) (encPs (l.drop (i + 1))) k (by omega) (by omega)
      rw [← hsp, ← hp] at hd
      have hR := numR_cut (X.take k) p (nOf Y) (k - p) 1073741824 (by omega) (by omega) hd
      rw [hR]
      refine Or.inr ⟨rfl, hpk, ?_⟩
      rw [hsp]; simp only [List.length_append]; omega
  · cases h
theorem QOk.start (l : List S39) (X : List Int) (k : Nat) : QOk l X k 0 0 0 := Or.inl ⟨rfl, by simp [encPs], Nat.zero_le _⟩
theorem QOk.err {l : List S39} {X : List Int} {k i p : Nat} (h : QOk l X k i p 2) (j : Nat) : QOk l X k j p 2 := by
  rcases h with ⟨h, _⟩ | ⟨h1, h2, h3⟩
  · cases h
  · exact Or.inr ⟨rfl, h2, h3⟩
theorem QOk.le {l : List S39} {X : List Int} {k i p : Nat} {e : Int} (h : QOk l X k i p e) : p ≤ k := by
  rcases h with ⟨_, _, h⟩ | ⟨_, h, _⟩ <;> exact h
theorem QOk.e {l : List S39} {X : List Int} {k i p : Nat} {e : Int} (h : QOk l X k i p e) : e = 0 ∨ e = 2 := by
  rcases h with ⟨h, _⟩ | ⟨h, _⟩
  · exact .inl h
  · exact .inr h
theorem QOk.all {l : List S39} {X : List Int} {k p : Nat} {e : Int} (hX : X = encPs l) (hk : k ≤ X.length) (h : QOk l X k l.length p e) : (e = 0 ∧ k = X.length) ∨ (e = 2 ∧ k ≠ X.length) := by
  rcases h with ⟨h, hp, hpk⟩ | ⟨h, _, h3⟩
  · rw [List.take_of_length_le (Nat.le_refl _), ← hX] at hp
    exact .inl ⟨h, by omega⟩
  · exact .inr ⟨h, by omega⟩
end Go.Proofs.Ytgmbefkbonaodaa.QV
