/- ScoreGreat: what n matches of one span of weight w are worth together: each one and its weight, no more than there may be. For all numbers n and w. -/
import Derived.Test.YthbjofpaegboiaaQSx3
import Derived.Test.YthbjofpaegboiaaSMath
namespace Go.Proofs.Ythbjofpaegboiaa.Pure
open Go.RowKit Go.Proofs.Ythbjofpaegboiaa.QS Go.Proofs.Ythbjofpaegboiaa.SMath Go.Proofs.YthbjofpaegboiaaW.PrintWords Go.Proofs.YthbjofpaegboiaaW.PrintLast

theorem and255 (n : Int) : bits .and .i64 n 255 = n % 256 := by
  have h255 : (BitVec.ofInt 64 255).toNat = 2 ^ 8 - 1 := by decide
  have key : (BitVec.ofInt 64 n &&& BitVec.ofInt 64 255).toNat = (n % ((2 ^ 64 : Nat) : Int)).toNat % 2 ^ 8 := by
    rw [BitVec.toNat_and, BitVec.toNat_ofInt, h255, Nat.and_two_pow_sub_one_eq_mod]
  show IntKind.i64.wrap ((BitVec.ofInt 64 n &&& BitVec.ofInt 64 255).toNat : Nat) = n % 256
  rw [key, IntKind.wrap_i64]
  omega

theorem wrap_u64 (n : Int) : IntKind.u64.wrap n = n % 18446744073709551616 := by simp [IntKind.wrap, IntKind.bits, IntKind.signed]

def unit_ (w : Int) : S25 := ⟨[⟨0, 0, 0, w⟩], []⟩

theorem sumM_rep (w : Int) (n : Nat) : sumM (List.replicate n (unit_ w)) = n * oneV [⟨0, 0, 0, w⟩] := by
  induction n with
  | zero => simp [sumM]
  | succ n ih =>
    rw [List.replicate_succ]
    show (if ([] : List S31).length = 0 then oneV [⟨0, 0, 0, w⟩] else 0) + sumM (List.replicate n (unit_ w)) = _
    rw [ih, if_pos List.length_nil, Int.natCast_succ, Int.add_mul]
    omega

theorem good_rep (w : Int) (hw : w ≤ 9223372036854775807) (n : Nat) (hn : n ≤ 255) : SMath.Good 2 (List.replicate n (unit_ w)) := by
  refine ⟨?_, ?_, ?_, by simp; omega⟩
  · intro m hm
    rw [List.eq_of_mem_replicate hm]
    intro s hs
    simp only [unit_, List.mem_singleton] at hs
    subst hs; exact hw
  · intro m hm; rw [List.eq_of_mem_replicate hm]; simp [unit_]
  · intro m hm; rw [List.eq_of_mem_replicate hm]; simp [unit_]

/-- What the list is worth is what the law wants. -/
theorem end_spec (k n : Nat) (w : Int) (hw : w ≤ 9223372036854775807) (hw0 : -9223372036854775808 ≤ w) (hn : n ≤ 255) (hk : 2 * n + 2 < k) :
    (if w > 0 then ((score_Of.f k (List.replicate n (unit_ w))).bind fun t123 => (some ((IntKind.u64.wrap (t123)) == (mn (IntKind.u64.wrap ((mn (IntKind.u64.wrap ((IntKind.u64.wrap (w)) + 1)) 2147483647) * (IntKind.u64.wrap (n : Int)))) 2147483647)))) else ((score_Of.f k (List.replicate n (unit_ w))).bind fun t124 => (some ((IntKind.u64.wrap (t124)) == (IntKind.u64.wrap (n : Int)))))) = some true := by
  rw [of_spec 2 _ (good_rep w hw n hn) k (by simpa using hk), sumM_rep]
  have h1 : oneV [⟨0, 0, 0, w⟩] = min (1 + max 0 w) 2147483647 := by simp [oneV, sumW]
  have hp := oneV_pos [⟨0, 0, 0, w⟩]
  obtain ⟨e, he⟩ : ∃ e, e = oneV [⟨0, 0, 0, w⟩] := ⟨_, rfl⟩
  rw [← he] at h1 hp ⊢
  have hb0 : 0 ≤ (n : Int) * e := Int.mul_nonneg (by omega) (by omega)
  have hb1 : (n : Int) * e ≤ 255 * 2147483647 := Int.mul_le_mul (by omega) (by omega) (by omega) (by omega)
  split
  · rename_i hpos
    have h2 : mn (IntKind.u64.wrap (IntKind.u64.wrap w + 1)) 2147483647 = e := by
      rw [wrap_u64, wrap_u64, Int.emod_eq_of_lt (a := w) (by omega) (by omega), Int.emod_eq_of_lt (by omega) (by omega)]
      unfold mn; rw [h1]; omega
    simp only [Option.bind_some]
    rw [h2, wrap_u64, wrap_u64, wrap_u64, Int.emod_eq_of_lt (a := (n : Int)) (by omega) (by omega), Int.mul_comm e, Int.emod_eq_of_lt (a := (n : Int) * e) (by omega) (by omega), Int.emod_eq_of_lt (by omega) (by omega)]
    congr 1
    rw [beq_iff_eq]
    unfold mn; omega
  · rename_i hpos
    have h2 : e = 1 := by omega
    subst h2
    simp only [Option.bind_some]
    rw [wrap_u64, wrap_u64, Int.emod_eq_of_lt (a := (n : Int)) (by omega) (by omega), Int.emod_eq_of_lt (by omega) (by omega)]
    congr 1
    rw [beq_iff_eq]
    omega

theorem great_loop (n : Nat) (hn : n ≤ 255) (w : Int) (hw : w ≤ 9223372036854775807) (hw0 : -9223372036854775808 ≤ w) (d : Nat) : ∀ (k j : Nat), j + d = n → 3 * n + 3 + d < k →
    catchwordlaw17_ScoreGreat.l0 k (n : Int) w (List.replicate j (unit_ w)) (j : Int) = some true := by
  induction d with
  | zero =>
    intro k j hj hk
    obtain ⟨k, rfl⟩ : ∃ m, k = m + 1 := ⟨k - 1, by omega⟩
    obtain rfl : j = n := by omega
    simp only [catchwordlaw17_ScoreGreat.l0]
    rw [if_neg (by omega)]
    exact end_spec k j w hw hw0 hn (by omega)
  | succ d ih =>
    intro k j hj hk
    obtain ⟨k, rfl⟩ : ∃ m, k = m + 1 := ⟨k - 1, by omega⟩
    have hwr : wrap64 ((j : Int) + 1) = ((j + 1 : Nat) : Int) := by unfold wrap64; omega
    simp only [catchwordlaw17_ScoreGreat.l0]
    rw [if_pos (by omega), if_pos (by simp; omega), hwr]
    have h := ih k (j + 1) (by omega) (by omega)
    rw [List.replicate_succ'] at h
    exact h

theorem ScoreGreat : catchwordlaw17_ScoreGreat.Pure := by
  intro a0 a1 h0 h1
  have hw : -9223372036854775808 ≤ a1 ∧ a1 ≤ 9223372036854775807 := by
    simp [Lit.wf, IntKind.min, IntKind.max, IntKind.signed, IntKind.bits] at h1
    omega
  refine ⟨2000, ?_⟩
  unfold catchwordlaw17_ScoreGreat.f
  rw [head_spec 2000 (by omega)]
  simp only [Option.bind_some, if_true]
  have hb : bits .and .i64 a0 255 = ((a0 % 256).toNat : Int) := by rw [and255]; omega
  rw [show Go.bits .and .i64 a0 255 = ((a0 % 256).toNat : Int) from hb]
  exact great_loop (a0 % 256).toNat (by omega) a1 hw.2 hw.1 (a0 % 256).toNat 2000 0 (by omega) (by omega)
end Go.Proofs.Ythbjofpaegboiaa.Pure
