/- ScoreParts and ScoreMore as plain statements: what two lists, or a list and a match, are worth together. Condition: weights and lengths fit into 64 bits, as whatever comes in does. -/
import Derived.Test.YthbjofpaegboiaaQSx2
import Derived.Test.YthbjofpaegboiaaQSx3
import Derived.Test.YthbjofpaegboiaaSOpn
namespace Go.Proofs.Ythbjofpaegboiaa.SParts
open Go.RowKit Go.Proofs.Ythbjofpaegboiaa.QS Go.Proofs.Ythbjofpaegboiaa.SMath Go.Proofs.Ythbjofpaegboiaa.SOpn Go.Proofs.YthbjofpaegboiaaW.PrintWords Go.Proofs.YthbjofpaegboiaaW.PrintLast

def Small (l : List S25) : Prop := l.length ≤ 60 ∧ ∀ m ∈ l, m.f0.length ≤ 20 ∧ m.f1.length ≤ 20

theorem few_loop (l : List S25) (hn : l.length ≤ 9223372036854775807) (d : Nat) : ∀ (k : Nat) (i : Int), 0 ≤ i → (l.length : Int) - i = d → d < k →
    ∃ b, catchwordlaw17_Few.l0 k l l (l.length : Int) i = some b ∧ (b = true → l.length ≤ 60 ∧ ∀ m ∈ l.drop i.toNat, m.f0.length ≤ 20 ∧ m.f1.length ≤ 20) := by
  induction d with
  | zero =>
    intro k i hi hd hk
    obtain ⟨k, rfl⟩ : ∃ m, k = m + 1 := ⟨k - 1, by omega⟩
    simp only [catchwordlaw17_Few.l0]
    rw [if_neg (by omega), List.drop_of_length_le (by omega)]
    refine ⟨_, rfl, fun h => ⟨?_, fun m hm => by cases hm⟩⟩
    have := of_decide_eq_true h
    omega
  | succ d ih =>
    intro k i hi hd hk
    obtain ⟨k, rfl⟩ : ∃ m, k = m + 1 := ⟨k - 1, by omega⟩
    have hlt : i.toNat < l.length := by omega
    have hw : wrap64 (i + 1) = i + 1 := by unfold wrap64; omega
    have hr : rd_T25 l i = l[i.toNat] := by unfold rd_T25; simp [List.getD_eq_getElem?_getD, hlt]
    have hdrop : l.drop i.toNat = l[i.toNat] :: l.drop (i + 1).toNat := by
      rw [show (i + 1).toNat = i.toNat + 1 by omega]
      exact List.drop_eq_getElem_cons hlt
    simp only [catchwordlaw17_Few.l0]
    rw [if_pos (by omega), if_pos hi, if_pos (by omega), hr]
    by_cases c0 : ((l[i.toNat].f0).length : Int) > 20
    · rw [if_pos c0]; exact ⟨false, rfl, fun h => by cases h⟩
    rw [if_neg c0]
    by_cases c1 : ((l[i.toNat].f1).length : Int) > 20
    · rw [if_pos c1]; exact ⟨false, rfl, fun h => by cases h⟩
    rw [if_neg c1, hw]
    obtain ⟨b, h1, h2⟩ := ih k (i + 1) (by omega) (by omega) (by omega)
    refine ⟨b, h1, fun hb => ⟨(h2 hb).1, fun m hm => ?_⟩⟩
    rw [hdrop] at hm
    rcases List.mem_cons.1 hm with rfl | hm
    · exact ⟨by omega, by omega⟩
    · exact (h2 hb).2 m hm

theorem few_spec (l : List S25) (hn : l.length ≤ 9223372036854775807) (k : Nat) (hk : l.length < k) : ∃ b, catchwordlaw17_Few.f k l = some b ∧ (b = true → Small l) := by
  obtain ⟨b, h1, h2⟩ := few_loop l hn l.length k 0 (by omega) (by omega) hk
  exact ⟨b, h1, h2⟩

theorem good_of {l : List S25} (hw : ∀ m ∈ l, Wf25 m) (hs : l.length ≤ 200) (h : ∀ m ∈ l, m.f0.length ≤ 20) : SMath.Good 21 l :=
  ⟨fun m hm s hsm => (hw m hm).1 s hsm, fun m hm => by have := h m hm; omega, fun m hm => by have := h m hm; omega, by omega⟩

theorem wrap_u64 (n : Int) : IntKind.u64.wrap n = n % 18446744073709551616 := by simp [IntKind.wrap, IntKind.bits, IntKind.signed]

theorem ScoreParts (l0 l1 : List S25) (h0 : ∀ m ∈ l0, Wf25 m) (h1 : ∀ m ∈ l1, Wf25 m) (n0 : l0.length ≤ 9223372036854775807) (n1 : l1.length ≤ 9223372036854775807) :
    catchwordlaw17_ScoreParts.f (l0.length + l1.length + 2000) l0 l1 = some true := by
  obtain ⟨b0, e0, s0⟩ := few_spec l0 n0 (l0.length + l1.length + 2000) (by omega)
  obtain ⟨b1, e1, s1⟩ := few_spec l1 n1 (l0.length + l1.length + 2000) (by omega)
  unfold catchwordlaw17_ScoreParts.f
  rw [head_spec _ (by omega)]
  simp only [Option.bind_some, if_true]
  rw [e0]
  simp only [Option.bind_some]
  cases b0 with
  | false => rfl
  | true =>
    simp only [if_true]
    rw [e1]
    simp only [Option.bind_some]
    cases b1 with
    | false => rfl
    | true =>
      obtain ⟨a0, t0⟩ := s0 rfl
      obtain ⟨a1, t1⟩ := s1 rfl
      simp only [catchwordlaw17_ScoreParts.j0]
      rw [if_neg (by decide), of_spec 21 l0 (good_of h0 (by omega) (fun m hm => (t0 m hm).1)) _ (by omega)]
      simp only [Option.bind_some, List.nil_append, List.length_nil]
      rw [of_spec 21 l1 (good_of h1 (by omega) (fun m hm => (t1 m hm).1)) _ (by omega)]
      simp only [Option.bind_some]
      have hg : SMath.Good 21 (l0 ++ l1) := good_of (fun m hm => (List.mem_append.1 hm).elim (h0 m) (h1 m)) (by rw [List.length_append]; omega) (fun m hm => (List.mem_append.1 hm).elim (fun h => (t0 m h).1) (fun h => (t1 m h).1))
      rw [if_pos (by omega), if_pos (by omega), of_spec 21 (l0 ++ l1) hg _ (by rw [List.length_append]; omega)]
      simp only [Option.bind_some]
      have p0 := sumM_nonneg l0
      have p1 := sumM_nonneg l1
      rw [sumM_append, wrap_u64, wrap_u64, wrap_u64, wrap_u64]
      congr 1
      rw [beq_iff_eq]
      unfold mn
      omega

theorem ScoreMore (l0 : List S25) (m : S25) (h0 : ∀ m ∈ l0, Wf25 m) (hm : Wf25 m) (n0 : l0.length ≤ 9223372036854775807) :
    catchwordlaw17_ScoreMore.f (l0.length + 2000) l0 m.f0 m.f1 = some true := by
  obtain ⟨b0, e0, s0⟩ := few_spec l0 n0 (l0.length + 2000) (by omega)
  obtain ⟨b1, e1, s1⟩ := few_spec [m] (by simp) (l0.length + 2000) (by simp)
  unfold catchwordlaw17_ScoreMore.f
  rw [head_spec _ (by omega)]
  simp only [Option.bind_some, if_true]
  rw [e0]
  simp only [Option.bind_some]
  cases b0 with
  | false => rfl
  | true =>
    simp only [if_true]
    rw [show ([(⟨m.f0, m.f1⟩ : S25)] : List S25) = [m] from rfl, e1]
    simp only [Option.bind_some]
    cases b1 with
    | false => rfl
    | true =>
      obtain ⟨a0, t0⟩ := s0 rfl
      obtain ⟨_, t1⟩ := s1 rfl
      have t1' := t1 m (by simp)
      have w1 : ∀ x ∈ l0 ++ [m], Wf25 x := fun x hx => (List.mem_append.1 hx).elim (h0 x) (fun h => by rw [List.mem_singleton] at h; subst h; exact hm)
      have w2 : ∀ x ∈ [m] ++ l0, Wf25 x := fun x hx => (List.mem_append.1 hx).elim (fun h => by rw [List.mem_singleton] at h; subst h; exact hm) (h0 x)
      have v1 : ∀ x ∈ l0 ++ [m], x.f0.length ≤ 20 := fun x hx => (List.mem_append.1 hx).elim (fun h => (t0 x h).1) (fun h => by rw [List.mem_singleton] at h; subst h; exact t1'.1)
      have v2 : ∀ x ∈ [m] ++ l0, x.f0.length ≤ 20 := fun x hx => (List.mem_append.1 hx).elim (fun h => by rw [List.mem_singleton] at h; subst h; exact t1'.1) (fun h => (t0 x h).1)
      simp only [catchwordlaw17_ScoreMore.j0]
      rw [if_neg (by decide), of_spec 21 l0 (good_of h0 (by omega) (fun x hx => (t0 x hx).1)) _ (by omega)]
      simp only [Option.bind_some, List.nil_append, List.length_nil, List.length_singleton]
      rw [if_pos (by omega), if_pos (by omega), show ([(⟨m.f0, m.f1⟩ : S25)] : List S25) = [m] from rfl, of_spec 21 (l0 ++ [m]) (good_of w1 (by simp; omega) v1) _ (by simp; omega)]
      simp only [Option.bind_some, catchwordlaw17_ScoreMore.j1, List.length_singleton]
      rw [if_pos (by omega), show ([(⟨m.f0, m.f1⟩ : S25)] : List S25) = [m] from rfl, of_spec 21 ([m] ++ l0) (good_of w2 (by simp; omega) v2) _ (by simp; omega)]
      simp only [Option.bind_some, catchwordlaw17_ScoreMore.j2]
      have p0 := sumM_nonneg l0
      have p1 := sumM_nonneg [m]
      rw [sumM_append, sumM_append, if_pos (by omega), if_pos (by omega), if_pos (by omega)]
      congr 1
      exact decide_eq_true (by omega)
end Go.Proofs.Ythbjofpaegboiaa.SParts
