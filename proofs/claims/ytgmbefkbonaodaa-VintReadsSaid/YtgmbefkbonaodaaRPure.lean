/- Texts and numbers laid one behind the other, and read: plain laws of the reader's steps. Conditions as each theorem has them. -/
import Derived.Test.YtgmbefkbonaodaaRd2
namespace Go.Proofs.Ytgmbefkbonaodaa.QV
open Go.RowKit Go.Proofs.YtgmbefkbonaodaaW.PrintWords Go.Proofs.YtgmbefkbonaodaaW.PrintLast Go.Proofs.YtgmbefkbonaodaaW.PrintMore Go.Proofs.Ytgmbefkbonaodaa.VSum Go.Proofs.Ytgmbefkbonaodaa.VDig
theorem E_mono : ∀ (n a b : Nat), b ≤ n → a ≤ b → (E a).length ≤ (E b).length := by
  intro n
  induction n with
  | zero => intro a b h1 h2; obtain rfl : a = 0 := by omega
            rw [E_zero]; simp
  | succ n ih =>
    intro a b h1 h2
    rcases Nat.eq_zero_or_pos a with h0 | h0
    · subst h0; rw [E_zero]; simp
    · rw [E_pos h0, E_pos (show 0 < b by omega), List.length_append, List.length_append]
      have := ih (a / 128) (b / 128) (by omega) (Nat.div_le_div_right h2)
      simp; omega
theorem D_mono {a b : Nat} (h : a ≤ b) : (D a).length ≤ (D b).length := by
  unfold D
  rw [List.length_append, List.length_append]
  have := E_mono (b / 128) (a / 128) (b / 128) (Nat.le_refl _) (Nat.div_le_div_right h)
  simp; omega
theorem strOf_bytes (s : ByteArray) : strOfNums (bytesOf s) = s := by
  apply ByteArray.ext
  apply Array.toList_inj.1
  rw [strOfNums_data]
  unfold bytesOf
  rw [List.map_map]
  conv => rhs; rw [← List.map_id s.data.toList]
  apply List.map_congr_left
  intro b _
  simp
theorem bytes_bytesOf (s : ByteArray) : Bytes (bytesOf s) := by
  intro x hx
  unfold bytesOf at hx
  obtain ⟨b, _, rfl⟩ := List.mem_map.1 hx
  have := b.toNat_lt
  omega
/-- A text as it is laid. -/
def txtE (s : ByteArray) : List Int := D s.size ++ bytesOf s
theorem txtE_bytes (s : ByteArray) (h : s.size < 18446744073709551616) : Bytes (txtE s) := by
  intro x hx
  rcases List.mem_append.1 hx with hx | hx
  · exact D_bytes _ h x hx
  · exact bytes_bytesOf s x hx
theorem txtE_length (s : ByteArray) (h : s.size < 18446744073709551616) : (txtE s).length ≤ 10 + s.size := by
  unfold txtE
  rw [List.length_append, bytesOf_length]
  have := D_len _ h
  omega
theorem Text_spec (l : List Int) (s : ByteArray) (hl : l.length + s.size + 10 < 140737488355318) : vint_Text.f l s = some (l ++ txtE s) := by
  have hs : s.size < 18446744073709551616 := by omega
  have hw : IntKind.u64.wrap (s.size : Int) = (s.size : Int) := by rw [wrap_u64]; omega
  unfold vint_Text.f
  rw [hw, Put_spec l (by omega) s.size hs]
  simp only [Option.bind_some]
  have := D_len _ hs
  rw [if_pos (by rw [List.length_append]; omega), List.append_assoc]
  rfl
/-- A number that stands there. -/
theorem numR_at (pre post : List Int) (n : Nat) (m : Int) (hn : n < 18446744073709551616) (hm : n ≤ m.toNat) : numR (pre ++ (D n ++ post)) pre.length m = (n, pre.length + (D n).length, 0) := by
  unfold numR
  rw [List.drop_left, get_D n hn]
  rw [if_neg]
  intro h
  rcases h with h | h
  · simp only at h
    unfold D at h
    simp at h
  · simp only at h
    omega
theorem numR_big (pre post : List Int) (n : Nat) (m : Int) (hn : n < 18446744073709551616) (hm : m.toNat < n) : numR (pre ++ (D n ++ post)) pre.length m = (0, pre.length, 2) := by
  unfold numR
  rw [List.drop_left, get_D n hn]
  exact if_pos (Or.inr hm)
theorem textR_at (pre post : List Int) (s : ByteArray) (m : Int) (hn : s.size < 18446744073709551616) (hm : s.size ≤ m.toNat) : textR (pre ++ (txtE s ++ post)) pre.length m = (s, pre.length + (txtE s).length, 0) := by
  have h := numR_at pre (bytesOf s ++ post) s.size m hn hm
  rw [show pre ++ (D s.size ++ (bytesOf s ++ post)) = pre ++ (txtE s ++ post) by unfold txtE; rw [List.append_assoc]] at h
  unfold textR
  rw [h]
  have hl : (pre ++ (txtE s ++ post)).length - (pre.length + (D s.size).length) = s.size + post.length := by
    unfold txtE
    simp only [List.length_append, bytesOf_length]
    omega
  rw [if_neg]
  · have hd : (pre ++ (txtE s ++ post)).drop (pre.length + (D s.size).length) = bytesOf s ++ post := by
      unfold txtE
      rw [← List.drop_drop, List.drop_left, List.append_assoc, List.drop_left]
    simp only
    rw [hd]
    have ht : (bytesOf s ++ post).take s.size = bytesOf s := by rw [← bytesOf_length s, List.take_left]
    rw [ht, strOf_bytes]
    unfold txtE
    rw [List.length_append, bytesOf_length, Nat.add_assoc]
  · intro h2
    rcases h2 with h2 | h2
    · exact h2 rfl
    · simp only at h2
      rw [hl] at h2
      omega
theorem textR_big (pre post : List Int) (s : ByteArray) (m : Int) (hn : s.size < 18446744073709551616) (hm : m.toNat < s.size) : textR (pre ++ (txtE s ++ post)) pre.length m = (⟨#[]⟩, pre.length, 2) := by
  have h := numR_big pre (bytesOf s ++ post) s.size m hn hm
  rw [show pre ++ (D s.size ++ (bytesOf s ++ post)) = pre ++ (txtE s ++ post) by unfold txtE; rw [List.append_assoc]] at h
  unfold textR
  rw [h]
  exact if_pos (Or.inl (show (2 : Int) ≠ 0 by decide))
/-- Texts as they are laid. -/
def encs (l : List ByteArray) : List Int := (l.map txtE).flatten
theorem encs_snoc (l : List ByteArray) (s : ByteArray) : encs (l ++ [s]) = encs l ++ txtE s := by
  unfold encs; simp
theorem encs_take (l : List ByteArray) (i : Nat) (s : ByteArray) (h : l[i]? = some s) : encs (l.take (i + 1)) = encs (l.take i) ++ txtE s := by
  rw [← encs_snoc, List.take_add_one, h]; rfl
theorem encs_split (l : List ByteArray) (i : Nat) (s : ByteArray) (h : l[i]? = some s) : encs l = encs (l.take i) ++ (txtE s ++ encs (l.drop (i + 1))) := by
  have hi : i < l.length := (List.getElem?_eq_some_iff.1 h).1
  have e : l = l.take i ++ (s :: l.drop (i + 1)) := by
    have h2 : l[i] = s := (List.getElem?_eq_some_iff.1 h).2
    rw [← h2, ← List.drop_eq_getElem_cons hi, List.take_append_drop]
  conv => lhs; rw [e]
  unfold encs
  simp
theorem encs_bytes (l : List ByteArray) (h : ∀ s ∈ l, s.size < 18446744073709551616) : Bytes (encs l) := by
  intro x hx
  unfold encs at hx
  obtain ⟨b, hb, hx⟩ := List.mem_flatten.1 hx
  obtain ⟨s, hs, rfl⟩ := List.mem_map.1 hb
  exact txtE_bytes s (h s hs) x hx
theorem encs_length (B : Nat) : ∀ (l : List ByteArray), (∀ s ∈ l, s.size ≤ B) → B < 1099511627776 → (encs l).length ≤ l.length * (10 + B) := by
  intro l
  induction l with
  | nil => intro _ _; simp [encs]
  | cons s l ih =>
    intro h hB
    have h1 := ih (fun t ht => h t (List.mem_cons_of_mem _ ht)) hB
    have h2 := h s (by simp)
    have h3 := txtE_length s (by omega)
    have h4 : encs (s :: l) = txtE s ++ encs l := by unfold encs; simp
    rw [h4, List.length_append, List.length_cons, Nat.add_mul]
    omega
end Go.Proofs.Ytgmbefkbonaodaa.QV
