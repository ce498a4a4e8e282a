/- The plain laws of rows kept in a heap: sorted rows, the first ones of those that came, in whatever order. Conditions as each theorem has them. -/
import Derived.Test.YtgefggokgjneoaaTPure
namespace Go.Proofs.Ytgefggokgjneoaa.TPure
open Go.Proofs.Ytgefggokgjneoaa.QT
def Sorted (l : List Row) : Prop := l.Pairwise le
def ins (x : Row) : List Row → List Row
  | [] => [x]
  | a :: s => if le x a then x :: a :: s else a :: ins x s
def isort : List Row → List Row
  | [] => []
  | x :: l => ins x (isort l)
theorem ins_perm (x : Row) (s : List Row) : (ins x s).Perm (x :: s) := by
  induction s with
  | nil => exact .refl _
  | cons a s ih =>
    simp only [ins]
    split
    · exact .refl _
    · exact (List.Perm.cons a ih).trans (List.Perm.swap x a s)
theorem ins_sorted (x : Row) (s : List Row) (h : Sorted s) : Sorted (ins x s) := by
  induction s with
  | nil => exact List.pairwise_singleton _ _
  | cons a s ih =>
    have h1 := List.pairwise_cons.1 h
    simp only [ins]
    split
    · rename_i hx
      refine List.pairwise_cons.2 ⟨fun b hb => ?_, h⟩
      rcases List.mem_cons.1 hb with rfl | hb
      · exact hx
      · exact le_trans hx (h1.1 b hb)
    · rename_i hx
      refine List.pairwise_cons.2 ⟨fun b hb => ?_, ih h1.2⟩
      rcases List.mem_cons.1 ((ins_perm x s).mem_iff.1 hb) with rfl | hb
      · exact (le_total a b).resolve_right hx
      · exact h1.1 b hb
theorem isort_perm (l : List Row) : (isort l).Perm l := by
  induction l with
  | nil => exact .refl _
  | cons a l ih => exact (ins_perm a _).trans (ih.cons a)
theorem isort_sorted (l : List Row) : Sorted (isort l) := by
  induction l with
  | nil => exact List.Pairwise.nil
  | cons a l ih => exact ins_sorted a _ ih
/-- Rows in order are told by which rows they are. -/
theorem sorted_unique : ∀ (s t : List Row), Sorted s → Sorted t → s.Perm t → s = t := by
  intro s
  induction s with
  | nil => intro t _ _ h; exact h.nil_eq
  | cons a s ih =>
    intro t hs ht h
    cases t with
    | nil => exact absurd h.length_eq (by simp)
    | cons b t =>
      have hs1 := List.pairwise_cons.1 hs
      have ht1 := List.pairwise_cons.1 ht
      have hab : a = b := by
        have h1 : a ∈ b :: t := h.mem_iff.1 (List.mem_cons_self ..)
        have h2 : b ∈ a :: s := h.mem_iff.2 (List.mem_cons_self ..)
        rcases List.mem_cons.1 h1 with h1 | h1
        · exact h1
        · rcases List.mem_cons.1 h2 with h2 | h2
          · exact h2.symm
          · exact le_antisymm (hs1.1 b h2) (ht1.1 a h1)
      subst hab
      rw [ih t hs1.2 ht1.2 (h.cons_inv)]
theorem isort_eq {l t : List Row} (h : t.Perm l) (ht : Sorted t) : t = isort l := sorted_unique _ _ ht (isort_sorted l) (h.trans (isort_perm l).symm)
theorem isort_of_perm {l l' : List Row} (h : l.Perm l') : isort l = isort l' := isort_eq ((isort_perm l).trans h) (isort_sorted l)
theorem isort_snoc (l : List Row) (x : Row) : isort (l ++ [x]) = ins x (isort l) :=
  (isort_eq ((ins_perm x _).trans (((isort_perm l).cons x).trans (List.perm_append_singleton x l).symm)) (ins_sorted x _ (isort_sorted l))).symm
theorem take_ins (x : Row) : ∀ (m : Nat) (s : List Row), (ins x s).take m = (ins x (s.take m)).take m := by
  intro m
  induction m with
  | zero => intro s; rfl
  | succ m ih =>
    intro s
    cases s with
    | nil => rfl
    | cons a s =>
      simp only [List.take_succ_cons, ins]
      split
      · simp only [List.take_succ_cons]
        cases m with
        | zero => rfl
        | succ m => simp [List.take_succ_cons, List.take_take]
      · simp only [List.take_succ_cons]
        rw [ih]
theorem ins_length (x : Row) (s : List Row) : (ins x s).length = s.length + 1 := by simpa using (ins_perm x s).length_eq
theorem isort_length (s : List Row) : (isort s).length = s.length := (isort_perm s).length_eq
/-- The first m of the rows that came. -/
def firsts (m : Nat) (seen : List Row) : List Row := (isort seen).take m
theorem firsts_snoc (m : Nat) (seen : List Row) (x : Row) : firsts m (seen ++ [x]) = (ins x (firsts m seen)).take m := by
  unfold firsts
  rw [isort_snoc, take_ins]
theorem firsts_sorted (m : Nat) (seen : List Row) : Sorted (firsts m seen) := (isort_sorted seen).sublist (List.take_sublist _ _)
theorem firsts_length (m : Nat) (seen : List Row) : (firsts m seen).length = min m seen.length := by unfold firsts; rw [List.length_take, isort_length]

/-! ### Rows: the heap's rows in order -/
theorem rowsGo_spec (j : Nat) : ∀ (m o : List Row), m.length = j → j ≤ o.length → Heap m j → ∃ s : List Row, s.Perm m ∧ Sorted s ∧ rowsGo j m o = s ++ o.drop j := by
  induction j with
  | zero =>
    intro m o hm _ _
    have : m = [] := List.eq_nil_of_length_eq_zero hm
    subst this
    exact ⟨[], .refl _, List.Pairwise.nil, by simp [rowsGo]⟩
  | succ j ih =>
    intro m o hm ho hH
    obtain ⟨h1, h2, h3⟩ := pop_spec m j hm (by rw [hm]; exact hH)
    have hpl : (hpopL m).length = j + 1 := by rw [h2.length_eq, hm]
    have htl : ((hpopL m).take j).length = j := by rw [List.length_take]; omega
    simp only [rowsGo]
    rw [hm, show j + 1 - 1 = j by omega, rd_at, h1]
    obtain ⟨s, hs1, hs2, hs3⟩ := ih ((hpopL m).take j) (o.set j (at_ m 0)) htl (by rw [List.length_set]; omega) h3
    have hsplit : hpopL m = (hpopL m).take j ++ [at_ m 0] := by
      have e1 := (List.take_append_drop j (hpopL m)).symm
      have e2 : (hpopL m).drop j = [at_ m 0] := by
        rw [← h1]
        unfold at_
        rw [List.drop_eq_getElem_cons (by omega), List.drop_eq_nil_of_le (by omega), List.getD_eq_getElem?_getD, List.getElem?_eq_getElem (by omega)]
        rfl
      rw [e2] at e1
      exact e1
    refine ⟨s ++ [at_ m 0], ?_, ?_, ?_⟩
    · have := List.Perm.append_right [at_ m 0] hs1
      rw [← hsplit] at this
      exact this.trans h2
    · refine List.pairwise_append.2 ⟨hs2, List.pairwise_singleton _ _, fun a ha b hb => ?_⟩
      obtain rfl : b = at_ m 0 := by simpa using hb
      have ha2 : a ∈ m := h2.mem_iff.1 (List.mem_of_mem_take (hs1.mem_iff.1 ha))
      obtain ⟨i, hi, rfl⟩ := List.mem_iff_getElem.1 ha2
      have := heap_root m (j + 1) hH i (by omega)
      unfold at_ at this
      rw [List.getD_eq_getElem?_getD, List.getElem?_eq_getElem hi] at this
      exact this
    · rw [hs3, List.append_assoc]
      congr 1
      rw [List.drop_eq_getElem_cons (by rw [List.length_set]; omega), List.getElem_set_self, List.drop_set_of_lt (by omega)]
      rfl
theorem rows_spec (l : List Row) (h : Heap l l.length) : rowsL l = isort l := by
  obtain ⟨s, h1, h2, h3⟩ := rowsGo_spec l.length l (List.replicate l.length z27) rfl (by simp) h
  unfold rowsL
  rw [h3, List.drop_eq_nil_of_le (by simp), List.append_nil]
  exact isort_eq h1 h2

/-! ### Add: the first ones of all that came -/
theorem last_max (s : List Row) (hs : Sorted s) (n : Nat) (hn : s.length = n + 1) : ∃ z, s = s.take n ++ [z] ∧ ∀ a ∈ s, le a z := by
  have hd : s.drop n = [s[n]] := by
    rw [List.drop_eq_getElem_cons (by omega), List.drop_eq_nil_of_le (by omega)]
  have hsp : s = s.take n ++ [s[n]] := by
    have e1 := (List.take_append_drop n s).symm
    rw [hd] at e1
    exact e1
  refine ⟨s[n], hsp, fun a ha => ?_⟩
  have hs2 := hs
  unfold Sorted at hs2
  rw [hsp] at hs2 ha
  have := (List.pairwise_append.1 hs2).2.2
  rcases List.mem_append.1 ha with h | h
  · exact this a h _ (by simp)
  · have : a = s[n] := by simpa using h
    rw [this]; exact le_refl _
structure Keeps (l : List Row) (m : Nat) (seen : List Row) : Prop where
  heap : Heap l l.length
  perm : l.Perm (firsts m seen)
theorem Keeps.nil (m : Nat) : Keeps [] m [] := ⟨fun i _ h => by simp at h, by simp [firsts, isort]⟩
theorem Keeps.length {l : List Row} {m : Nat} {seen : List Row} (h : Keeps l m seen) : l.length = min m seen.length := by rw [h.perm.length_eq, firsts_length]
theorem Keeps.rows {l : List Row} {m : Nat} {seen : List Row} (h : Keeps l m seen) : rowsL l = firsts m seen := by
  rw [rows_spec l h.heap]
  exact (isort_eq h.perm.symm (firsts_sorted m seen)).symm
theorem Keeps.root {l : List Row} {m : Nat} {seen : List Row} (h : Keeps l m seen) : ∀ a ∈ firsts m seen, le a (at_ l 0) := by
  intro a ha
  obtain ⟨i, hi, rfl⟩ := List.mem_iff_getElem.1 (h.perm.mem_iff.2 ha)
  have := heap_root l l.length h.heap i hi
  unfold at_ at this
  rw [List.getD_eq_getElem?_getD, List.getElem?_eq_getElem hi] at this
  exact this
theorem Keeps.add {l : List Row} {m : Nat} {seen : List Row} (h : Keeps l m seen) (x : Row) : Keeps (addL l m x) m (seen ++ [x]) := by
  unfold addL
  by_cases hm : m = 0
  · subst hm
    rw [if_pos rfl]
    exact ⟨h.heap, by have := h.perm; simpa [firsts] using this⟩
  · rw [if_neg hm]
    by_cases hlm : l.length < m
    · rw [if_pos hlm]
      obtain ⟨h1, h2⟩ := push_spec l x h.heap
      have hl : (hpushL l x).length = l.length + 1 := by rw [h1.length_eq]; simp
      refine ⟨by rw [hl]; exact h2, ?_⟩
      rw [firsts_snoc, List.take_of_length_le (by rw [ins_length, ← h.perm.length_eq]; omega)]
      exact h1.trans ((List.perm_append_singleton x l).trans ((h.perm.cons x).trans (ins_perm x _).symm))
    · rw [if_neg hlm]
      have hlen : l.length = m := by have := h.length; omega
      have hfl : (firsts m seen).length = m := by rw [← h.perm.length_eq, hlen]
      obtain ⟨z, hz1, hz2⟩ := last_max (ins x (firsts m seen)) (ins_sorted x _ (firsts_sorted m seen)) m (by rw [ins_length, hfl])
      have hzin : z ∈ x :: firsts m seen := (ins_perm x _).mem_iff.1 (by rw [hz1]; simp)
      have hxz : le x z := hz2 x ((ins_perm x _).mem_iff.2 (List.mem_cons_self ..))
      have hpos : 0 < l.length := by omega
      have hroot : at_ l 0 ∈ firsts m seen := h.perm.mem_iff.1 (by
        unfold at_
        rw [List.getD_eq_getElem?_getD, List.getElem?_eq_getElem hpos]
        exact List.getElem_mem _)
      have hrz : le (at_ l 0) z := hz2 _ ((ins_perm x _).mem_iff.2 (List.mem_cons_of_mem _ hroot))
      have hperm : ((ins x (firsts m seen)).take m ++ [z]).Perm (x :: firsts m seen) := by rw [← hz1]; exact ins_perm x _
      have hrd : rd_T27 l 0 = at_ l 0 := rfl
      rw [hrd]
      obtain ⟨r, t, hrt⟩ : ∃ r t, l = r :: t := by
        cases l with
        | nil => simp at hpos
        | cons r t => exact ⟨r, t, rfl⟩
      have har : at_ l 0 = r := by rw [hrt]; rfl
      by_cases hah : aheadB x (at_ l 0) = true
      · rw [if_pos hah]
        obtain ⟨h1, h2⟩ := fix_spec l x h.heap
        have hl : (hfixL (l.set 0 x)).length = l.length := by rw [h1.length_eq, List.length_set]
        refine ⟨by rw [hl]; exact h2, ?_⟩
        rw [firsts_snoc]
        have hzr : z = r := by
          rcases List.mem_cons.1 hzin with hzx | hzf
          · exfalso
            rw [hzx] at hrz
            exact not_le_of_ahead hah hrz
          · rw [← har]
            exact le_antisymm (h.root z hzf) hrz
        rw [hzr] at hperm
        have hx : (l.set 0 x) = x :: t := by rw [hrt]; rfl
        refine h1.trans ?_
        rw [hx]
        have h3 : (x :: firsts m seen).Perm ((x :: t) ++ [r]) := by
          refine (h.perm.symm.cons x).trans ?_
          rw [hrt]
          exact (List.Perm.cons x (List.perm_append_singleton r t).symm)
        exact ((List.perm_append_right_iff [r]).1 (hperm.trans h3)).symm
      · rw [if_neg hah]
        refine ⟨h.heap, ?_⟩
        rw [firsts_snoc]
        have hrx : le (at_ l 0) x := by unfold le; simpa using hah
        have hzx : z = x := by
          rcases List.mem_cons.1 hzin with hzx | hzf
          · exact hzx
          · exact le_antisymm (le_trans (h.root z hzf) hrx) hxz
        rw [hzx] at hperm
        have h3 : (x :: firsts m seen).Perm (firsts m seen ++ [x]) := (List.perm_append_singleton x _).symm
        exact h.perm.trans ((List.perm_append_right_iff [x]).1 (hperm.trans h3)).symm
/-- Rows that come one behind the other. -/
def addsL (m : Nat) (l : List Row) : List Row → List Row
  | [] => l
  | x :: xs => addsL m (addL l m x) xs
theorem Keeps.adds {m : Nat} : ∀ (xs : List Row) {l seen : List Row}, Keeps l m seen → Keeps (addsL m l xs) m (seen ++ xs) := by
  intro xs
  induction xs with
  | nil => intro l seen h; rw [List.append_nil]; exact h
  | cons x xs ih =>
    intro l seen h
    have := ih (h.add x)
    rw [List.append_assoc] at this
    exact this
theorem addsL_snoc (m : Nat) : ∀ (xs l : List Row) (x : Row), addsL m l (xs ++ [x]) = addL (addsL m l xs) m x := by
  intro xs
  induction xs with
  | nil => intro l x; rfl
  | cons a xs ih => intro l x; exact ih _ _
end Go.Proofs.Ytgefggokgjneoaa.TPure
