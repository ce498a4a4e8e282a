/- VintSums: bytes of which up to four side by side are turned by bits that are not all nought have another sum. For all bytes, places and bits. -/
import Derived.Test.YtgmbefkbonaodaaQVx1
import Derived.Test.YtgmbefkbonaodaaVSum
namespace Go.Proofs.Ytgmbefkbonaodaa.Pure
open Go.RowKit Go.Proofs.Ytgmbefkbonaodaa.QV Go.Proofs.Ytgmbefkbonaodaa.VMath Go.Proofs.Ytgmbefkbonaodaa.VSum Go.Proofs.YtgmbefkbonaodaaW.PrintWords Go.Proofs.YtgmbefkbonaodaaW.PrintLast Go.Proofs.YtgmbefkbonaodaaW.PrintMore

theorem bytes_of {l : List Int} (h : ∀ x ∈ l, (Lit.int .u8 x).wf = true) : Bytes l := by
  intro x hx
  have h1 := h x hx
  simp [Lit.wf, IntKind.min, IntKind.max, IntKind.signed, IntKind.bits] at h1
  omega

theorem and65535 (n : Int) : bits .and .i64 n 65535 = n % 65536 := by
  have h : (BitVec.ofInt 64 65535).toNat = 2 ^ 16 - 1 := by decide
  have key : (BitVec.ofInt 64 n &&& BitVec.ofInt 64 65535).toNat = (n % ((2 ^ 64 : Nat) : Int)).toNat % 2 ^ 16 := by
    rw [BitVec.toNat_and, BitVec.toNat_ofInt, h, Nat.and_two_pow_sub_one_eq_mod]
  show IntKind.i64.wrap ((BitVec.ofInt 64 n &&& BitVec.ofInt 64 65535).toNat : Nat) = n % 65536
  rw [key, IntKind.wrap_i64]
  omega

/-- Byte k of the four that are laid over. -/
def part (b : Nat) (k : Nat) : Nat := b / 2 ^ (8 * k) % 256

theorem part_lt (b k : Nat) : part b k < 256 := Nat.mod_lt _ (by decide)

theorem wrapU (n : Int) : IntKind.u64.wrap n = n % 18446744073709551616 := by simp [IntKind.wrap, IntKind.bits, IntKind.signed]

theorem count (k : Nat) (hk : k < 4) : IntKind.u64.wrap (wrap64 (8 * (k : Int))) = ((8 * k : Nat) : Int) := by
  rw [wrapU]; unfold wrap64; omega

theorem shr_part (b k : Nat) (hk : k < 4) : (shr .u32 (b : Int) ((8 * k : Nat) : Int)) % 256 = ((part b k : Nat) : Int) := by
  unfold shr part
  rw [Int.toNat_natCast, Nat.min_eq_left (show 8 * k ≤ IntKind.u32.bits from by show 8 * k ≤ 32; omega), Int.natCast_emod, Int.natCast_ediv, Int.natCast_pow]
  rfl

theorem rd_mid (p q : List Int) (x : Int) (a : Int) (ha : a = p.length) : rd (p ++ x :: q) a = x := by
  unfold rd
  rw [ha, Int.toNat_natCast, List.getD_eq_getElem?_getD]
  simp

theorem set_mid (p q : List Int) (x y : Int) (a : Int) (ha : a = p.length) : (p ++ x :: q).set a.toNat y = p ++ y :: q := by
  rw [ha, Int.toNat_natCast]
  simp

/-- A round of the law's loop, at a list that is laid open. -/
theorem turn (p q : List Int) (x b k : Nat) (a s : Int) (ha : s + (k : Int) = a) (hap : a = p.length) (hk : k < 4) (hx : x < 256) (hl : p.length ≤ 1000) (K : Nat) (x0 : List Int) :
    catchwordlaw01_VintSums.l0 (K + 1) x0 s (b : Int) (p ++ (x : Int) :: q) (k : Int) = catchwordlaw01_VintSums.l0 K x0 s (b : Int) (p ++ ((x ^^^ part b k : Nat) : Int) :: q) ((k + 1 : Nat) : Int) := by
  have hw : wrap64 (s + (k : Int)) = a := by rw [ha]; unfold wrap64; omega
  have hw1 : wrap64 ((k : Int) + 1) = ((k + 1 : Nat) : Int) := by unfold wrap64; omega
  have hxor : Go.bits .xor .u8 (x : Int) ((part b k : Nat) : Int) = ((x ^^^ part b k : Nat) : Int) := u8_xor_nat x _ hx (part_lt b k)
  have hlen : a < ((p ++ (x : Int) :: q).length : Int) := by rw [hap, List.length_append, List.length_cons]; omega
  have ha0 : 0 ≤ a := by omega
  have hk4 : (k : Int) < 4 := by omega
  have hc0 : (0 : Int) ≤ ((8 * k : Nat) : Int) := by omega
  simp only [catchwordlaw01_VintSums.l0]
  rw [if_pos hk4, hw, count k hk, if_pos ha0, if_pos hlen, if_pos hc0, shr_part b k hk, rd_mid p q _ a hap, hxor, set_mid p q _ _ a hap, hw1]

theorem nat_app (p q : List Int) : nat (p ++ q) = nat p ++ nat q := by simp [nat]

theorem sum_eq {a b : List Nat} (h : sum a = sum b) : crc 4294967295 a = crc 4294967295 b := by
  have h1 := congrArg (4294967295 ^^^ ·) h
  simp only [sum, ← Nat.xor_assoc, Nat.xor_self, Nat.zero_xor] at h1
  exact h1

theorem split4 (l : List Int) (s : Nat) (h : s + 4 ≤ l.length) : ∃ p x0 x1 x2 x3 q, l = p ++ x0 :: x1 :: x2 :: x3 :: q ∧ p.length = s := by
  refine ⟨l.take s, l[s], l[s + 1], l[s + 2], l[s + 3], l.drop (s + 4), ?_, by rw [List.length_take]; omega⟩
  have h0 : l.drop s = l[s] :: l.drop (s + 1) := List.drop_eq_getElem_cons (by omega)
  have h1 : l.drop (s + 1) = l[s + 1] :: l.drop (s + 2) := List.drop_eq_getElem_cons (by omega)
  have h2 : l.drop (s + 2) = l[s + 2] :: l.drop (s + 3) := List.drop_eq_getElem_cons (by omega)
  have h3 : l.drop (s + 3) = l[s + 3] :: l.drop (s + 4) := List.drop_eq_getElem_cons (by omega)
  rw [← h3, ← h2, ← h1, ← h0, List.take_append_drop]

theorem byte_of {l : List Int} (hb : Bytes l) {x : Int} (hx : x ∈ l) : ∃ n : Nat, x = (n : Int) ∧ n < 256 := ⟨x.toNat, by have := hb x hx; omega, by have := hb x hx; omega⟩

/-- The law's loop, laid open: the sums of the bytes and of those that were turned are not the same. -/
theorem four (p q : List Int) (hp : Bytes p) (hq : Bytes q) (x0 x1 x2 x3 b : Nat) (g0 : x0 < 256) (g1 : x1 < 256) (g2 : x2 < 256) (g3 : x3 < 256) (hb : b < 4294967296) (hb0 : b ≠ 0) (hl : p.length + 4 + q.length ≤ 200) (K : Nat) (hK : 3000 ≤ K) :
    catchwordlaw01_VintSums.l0 K (p ++ (x0 : Int) :: (x1 : Int) :: (x2 : Int) :: (x3 : Int) :: q) (p.length : Int) (b : Int) (p ++ (x0 : Int) :: (x1 : Int) :: (x2 : Int) :: (x3 : Int) :: q) 0 = some true := by
  obtain ⟨K, rfl⟩ : ∃ m, K = m + 5 := ⟨K - 5, by omega⟩
  obtain ⟨l, hle⟩ : ∃ l, l = p ++ (x0 : Int) :: (x1 : Int) :: (x2 : Int) :: (x3 : Int) :: q := ⟨_, rfl⟩
  have X : ∀ (a k : Nat), a < 256 → a ^^^ part b k < 256 := fun a k ha => Nat.xor_lt_two_pow (n := 8) ha (part_lt b k)
  rw [← hle]
  have t0 := turn p ((x1 : Int) :: (x2 : Int) :: (x3 : Int) :: q) x0 b 0 (p.length : Int) (p.length : Int) (by simp) rfl (by decide) g0 (by omega) (K + 4) l
  have t1 := turn (p ++ [((x0 ^^^ part b 0 : Nat) : Int)]) ((x2 : Int) :: (x3 : Int) :: q) x1 b 1 ((p.length : Int) + 1) (p.length : Int) (by simp) (by simp) (by decide) g1 (by simp; omega) (K + 3) l
  have t2 := turn (p ++ [((x0 ^^^ part b 0 : Nat) : Int), ((x1 ^^^ part b 1 : Nat) : Int)]) ((x3 : Int) :: q) x2 b 2 ((p.length : Int) + 2) (p.length : Int) (by simp) (by simp) (by decide) g2 (by simp; omega) (K + 2) l
  have t3 := turn (p ++ [((x0 ^^^ part b 0 : Nat) : Int), ((x1 ^^^ part b 1 : Nat) : Int), ((x2 ^^^ part b 2 : Nat) : Int)]) q x3 b 3 ((p.length : Int) + 3) (p.length : Int) (by simp) (by simp) (by decide) g3 (by simp; omega) (K + 1) l
  simp only [List.append_assoc, List.cons_append, List.nil_append, Int.natCast_zero, Int.natCast_one] at t0 t1 t2 t3
  rw [← hle] at t0
  rw [t0]
  refine t1.trans (t2.trans (t3.trans ?_))
  obtain ⟨c, hc⟩ : ∃ c, c = p ++ ((x0 ^^^ part b 0 : Nat) : Int) :: ((x1 ^^^ part b 1 : Nat) : Int) :: ((x2 ^^^ part b 2 : Nat) : Int) :: ((x3 ^^^ part b 3 : Nat) : Int) :: q := ⟨_, rfl⟩
  rw [← hc]
  simp only [catchwordlaw01_VintSums.l0]
  rw [if_neg (by omega)]
  have hbl : Bytes l := by
    rw [hle]
    intro y hy
    simp only [List.mem_append, List.mem_cons] at hy
    rcases hy with hy | rfl | rfl | rfl | rfl | hy
    · exact hp y hy
    · omega
    · omega
    · omega
    · omega
    · exact hq y hy
  have e0 := X x0 0 g0
  have e1 := X x1 1 g1
  have e2 := X x2 2 g2
  have e3 := X x3 3 g3
  have hbc : Bytes c := by
    rw [hc]
    intro y hy
    simp only [List.mem_append, List.mem_cons] at hy
    rcases hy with hy | rfl | rfl | rfl | rfl | hy
    · exact hp y hy
    · omega
    · omega
    · omega
    · omega
    · exact hq y hy
  have hll : l.length ≤ 200 := by rw [hle]; simp; omega
  have hcl : c.length ≤ 200 := by rw [hc]; simp; omega
  rw [sum_spec l hbl (by omega) K (by omega), sum_spec c hbc (by omega) K (by omega)]
  simp only [Option.bind_some]
  congr 1
  rw [bne_iff_ne]
  intro he
  have he' : sum (nat l) = sum (nat c) := by omega
  have hcrc := sum_eq he'
  have hnl : nat l = nat p ++ x0 :: x1 :: x2 :: x3 :: nat q := by rw [hle]; simp [nat]
  have hnc : nat c = nat p ++ (x0 ^^^ part b 0) :: (x1 ^^^ part b 1) :: (x2 ^^^ part b 2) :: (x3 ^^^ part b 3) :: nat q := by
    rw [hc]
    simp only [nat, List.map_append, List.map_cons, Int.toNat_natCast]
  rw [hnl, hnc] at hcrc
  obtain ⟨z0, z1, z2, z3⟩ := crc_burst 4294967295 (by decide) (nat p) (nat q) (nat_lt hp) (nat_lt hq) x0 x1 x2 x3 (part b 0) (part b 1) (part b 2) (part b 3) g0 g1 g2 g3 (part_lt b 0) (part_lt b 1) (part_lt b 2) (part_lt b 3) hcrc
  unfold part at z0 z1 z2 z3
  simp only [Nat.mul_zero, Nat.pow_zero, Nat.mul_one, Nat.reducePow, Nat.reduceMul, Nat.div_one] at z0 z1 z2 z3
  omega

theorem VintSums : catchwordlaw01_VintSums.Pure := by
  intro l0 a1 a2 hl1 hl2 hb0 h1 h2
  have hb := bytes_of hb0
  refine ⟨4000, ?_⟩
  unfold catchwordlaw01_VintSums.f catchwordlaw01_head.f
  simp only [Option.bind_some, if_true]
  by_cases c1 : (l0.length : Int) < 4
  · rw [if_pos c1]; simp only [catchwordlaw01_VintSums.j0, if_true]
  rw [if_neg c1]
  by_cases c2 : (l0.length : Int) > 200
  · rw [if_pos c2]; simp only [catchwordlaw01_VintSums.j0, if_true]
  rw [if_neg c2]
  have h2' : 0 ≤ a2 ∧ a2 < 4294967296 := by
    simp [Lit.wf, IntKind.min, IntKind.max, IntKind.signed, IntKind.bits] at h2
    omega
  by_cases c3 : a2 = 0
  · rw [c3]; simp only [catchwordlaw01_VintSums.j0, beq_self_eq_true, if_true]
  have hbe : (a2 == 0) = false := beq_eq_false_iff_ne.mpr c3
  rw [hbe]
  simp only [catchwordlaw01_VintSums.j0]
  have hw : wrap64 ((l0.length : Int) - 3) = (l0.length : Int) - 3 := by unfold wrap64; omega
  have ha : Go.bits .and .i64 a1 65535 = a1 % 65536 := and65535 a1
  rw [if_neg (by decide), hw, if_neg (by omega), ha]
  simp only [Option.bind_some, List.nil_append, List.length_nil]
  rw [if_pos (by omega)]
  have ht : Int.tmod (a1 % 65536) ((l0.length : Int) - 3) = (a1 % 65536) % ((l0.length : Int) - 3) := Int.tmod_eq_emod_of_nonneg (by omega)
  have hm0 : 0 ≤ (a1 % 65536) % ((l0.length : Int) - 3) := Int.emod_nonneg _ (by omega)
  have hm1 : (a1 % 65536) % ((l0.length : Int) - 3) < (l0.length : Int) - 3 := Int.emod_lt_of_pos _ (by omega)
  rw [ht]
  obtain ⟨s, hs⟩ : ∃ s : Nat, (a1 % 65536) % ((l0.length : Int) - 3) = (s : Int) := ⟨_, (Int.toNat_of_nonneg hm0).symm⟩
  rw [hs] at hm1 ⊢
  obtain ⟨p, y0, y1, y2, y3, q, hl, hp⟩ := split4 l0 s (by omega)
  subst hl
  obtain ⟨x0, rfl, g0⟩ := byte_of hb (x := y0) (by simp)
  obtain ⟨x1, rfl, g1⟩ := byte_of hb (x := y1) (by simp)
  obtain ⟨x2, rfl, g2⟩ := byte_of hb (x := y2) (by simp)
  obtain ⟨x3, rfl, g3⟩ := byte_of hb (x := y3) (by simp)
  have hbn : a2 = ((a2.toNat : Nat) : Int) := (Int.toNat_of_nonneg h2'.1).symm
  rw [hbn, ← hp]
  simp only [List.length_append, List.length_cons] at c2
  exact four p q (fun y hy => hb y (by simp [hy])) (fun y hy => hb y (by simp [hy])) x0 x1 x2 x3 a2.toNat g0 g1 g2 g3 (by omega) (by omega) (by omega) _ (by decide)
end Go.Proofs.Ytgmbefkbonaodaa.Pure
