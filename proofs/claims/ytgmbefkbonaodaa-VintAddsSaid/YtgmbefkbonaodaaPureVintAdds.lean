/- VintAdds: the sum of bytes laid over each other by exclusive or is that of their sums, and of as many noughts. For all bytes. -/
import Derived.Test.YtgmbefkbonaodaaQVx2
import Derived.Test.YtgmbefkbonaodaaPureVintSums
namespace Go.Proofs.Ytgmbefkbonaodaa.Pure
open Go.RowKit Go.Proofs.Ytgmbefkbonaodaa.QV Go.Proofs.Ytgmbefkbonaodaa.VMath Go.Proofs.Ytgmbefkbonaodaa.VSum Go.Proofs.YtgmbefkbonaodaaW.PrintWords Go.Proofs.YtgmbefkbonaodaaW.PrintLast Go.Proofs.YtgmbefkbonaodaaW.PrintMore

def over (a b : List Int) : List Int := List.zipWith (fun x y => ((x.toNat ^^^ y.toNat : Nat) : Int)) a b

theorem over_bytes {a b : List Int} (ha : Bytes a) (hb : Bytes b) : Bytes (over a b) := by
  intro z hz
  unfold over at hz
  rw [List.mem_iff_getElem] at hz
  obtain ⟨i, hi, rfl⟩ := hz
  rw [List.length_zipWith] at hi
  rw [List.getElem_zipWith]
  have h1 := ha _ (List.getElem_mem (show i < a.length by omega))
  have h2 := hb _ (List.getElem_mem (show i < b.length by omega))
  have h3 : a[i].toNat ^^^ b[i].toNat < 256 := Nat.xor_lt_two_pow (n := 8) (by omega) (by omega)
  omega

theorem nat_over (a : List Int) : ∀ b : List Int, nat (over a b) = List.zipWith (· ^^^ ·) (nat a) (nat b) := by
  induction a with
  | nil => intro b; rfl
  | cons x a ih =>
    intro b
    cases b with
    | nil => rfl
    | cons y b => simp only [over, nat, List.zipWith_cons_cons, List.map_cons, Int.toNat_natCast]; congr 1; exact ih b

theorem zip_zero (a : List Nat) : List.zipWith (· ^^^ ·) a (List.replicate a.length 0) = a := by
  induction a with
  | nil => rfl
  | cons x a ih => simp only [List.length_cons, List.replicate_succ, List.zipWith_cons_cons, Nat.xor_zero, ih]

/-- The sum over all: linear but for what stands ahead and behind. -/
theorem sum_over (a b : List Nat) (h : a.length = b.length) : sum (List.zipWith (· ^^^ ·) a b) = sum a ^^^ sum b ^^^ sum (List.replicate a.length 0) := by
  have h1 := crc_xor a b 4294967295 4294967295 h
  have h2 := crc_xor (List.zipWith (· ^^^ ·) a b) (List.replicate a.length 0) (4294967295 ^^^ 4294967295) 4294967295 (by simp [h])
  have hl : (List.zipWith (· ^^^ ·) a b).length = a.length := by simp [h]
  have hz := zip_zero (List.zipWith (· ^^^ ·) a b)
  rw [hl] at hz
  rw [hz, h1, Nat.xor_self, Nat.zero_xor] at h2
  unfold sum
  rw [h2]
  obtain ⟨x, hx⟩ : ∃ x, x = crc 4294967295 a := ⟨_, rfl⟩
  obtain ⟨y, hy⟩ : ∃ y, y = crc 4294967295 b := ⟨_, rfl⟩
  obtain ⟨z, hz⟩ : ∃ z, z = crc 4294967295 (List.replicate a.length 0) := ⟨_, rfl⟩
  obtain ⟨K, hK⟩ : ∃ K, K = 4294967295 := ⟨_, rfl⟩
  rw [← hx, ← hy, ← hz, ← hK]
  calc K ^^^ (x ^^^ y ^^^ z) = (K ^^^ K ^^^ K) ^^^ (x ^^^ y ^^^ z) := by rw [Nat.xor_self, Nat.zero_xor]
    _ = K ^^^ x ^^^ (K ^^^ y) ^^^ (K ^^^ z) := by ac_rfl

theorem sum_lt (a : List Int) (h : Bytes a) : sum (nat a) < 4294967296 := Nat.xor_lt_two_pow (n := 32) (by decide) (crc_lt (nat a) 4294967295 (by decide) (nat_lt h))

/-- The end of the law: three sums against the fourth. -/
theorem end_ (x0 x1 x6 : List Int) (n : Nat) (h0 : Bytes x0) (h1 : Bytes x1) (hn : n ≤ 200) (hn0 : n ≤ x0.length) (hn1 : n ≤ x1.length) (h6 : x6 = over (x0.take n) (x1.take n)) (k : Nat) (hk : 2000 < k) :
    ((vint_Sum.f k x6).bind fun t128 => (if 0 ≤ (n : Int) then (if (n : Int) ≤ (x0.length : Int) then ((vint_Sum.f k (x0.take ((n : Int) : Int).toNat)).bind fun t130 => (if (n : Int) ≤ (x1.length : Int) then ((vint_Sum.f k (x1.take ((n : Int) : Int).toNat)).bind fun t132 => (if ((n : Int) : Int).toNat ≤ 281474976710656 then ((vint_Sum.f k (List.replicate ((n : Int) : Int).toNat 0)).bind fun t136 => (some (t128 == (Go.bits .xor .u32 (Go.bits .xor .u32 t130 t132) t136)))) else (none))) else (none))) else (none)) else (none))) = some true := by
  have b0 : Bytes (x0.take n) := fun y hy => h0 y (List.mem_of_mem_take hy)
  have b1 : Bytes (x1.take n) := fun y hy => h1 y (List.mem_of_mem_take hy)
  have bz : Bytes (List.replicate n 0) := fun y hy => by rw [List.eq_of_mem_replicate hy]; omega
  have b6 : Bytes x6 := by rw [h6]; exact over_bytes b0 b1
  have l0 : (x0.take n).length = n := by rw [List.length_take]; omega
  have l1 : (x1.take n).length = n := by rw [List.length_take]; omega
  have l6 : x6.length = n := by rw [h6]; unfold over; rw [List.length_zipWith]; omega
  rw [sum_spec x6 b6 (by omega) k (by omega)]
  simp only [Option.bind_some, Int.toNat_natCast]
  rw [if_pos (by omega), if_pos (by omega), sum_spec _ b0 (by omega) k (by omega)]
  simp only [Option.bind_some]
  rw [if_pos (by omega), sum_spec _ b1 (by omega) k (by omega)]
  simp only [Option.bind_some]
  rw [if_pos (by omega), sum_spec _ bz (by simp; omega) k (by simp; omega)]
  simp only [Option.bind_some]
  have s0 := sum_lt _ b0
  have s1 := sum_lt _ b1
  have sz := sum_lt _ bz
  have e1 : Go.bits .xor .u32 ((sum (nat (x0.take n)) : Nat) : Int) ((sum (nat (x1.take n)) : Nat) : Int) = ((sum (nat (x0.take n)) ^^^ sum (nat (x1.take n)) : Nat) : Int) := u32_xor_nat _ _ s0 s1
  rw [e1]
  have e2 : Go.bits .xor .u32 ((sum (nat (x0.take n)) ^^^ sum (nat (x1.take n)) : Nat) : Int) ((sum (nat (List.replicate n 0)) : Nat) : Int) = ((sum (nat (x0.take n)) ^^^ sum (nat (x1.take n)) ^^^ sum (nat (List.replicate n 0)) : Nat) : Int) := u32_xor_nat _ _ (Nat.xor_lt_two_pow (n := 32) s0 s1) sz
  rw [e2]
  congr 1
  rw [beq_iff_eq, h6, nat_over, sum_over _ _ (by simp [nat]; omega)]
  have hr : nat (List.replicate n 0) = List.replicate (nat (x0.take n)).length 0 := by
    unfold nat; rw [List.map_replicate, List.length_map, l0]; rfl
  rw [hr]

theorem adds_loop (x0 x1 : List Int) (n : Nat) (h0 : Bytes x0) (h1 : Bytes x1) (hn : n ≤ 200) (hn0 : n ≤ x0.length) (hn1 : n ≤ x1.length) (d : Nat) : ∀ (k j : Nat), j + d = n → 3000 + d < k →
    catchwordlaw01_VintAdds.l0 k x0 x1 (n : Int) (over (x0.take j) (x1.take j)) (j : Int) = some true := by
  induction d with
  | zero =>
    intro k j hj hk
    obtain ⟨k, rfl⟩ : ∃ m, k = m + 1 := ⟨k - 1, by omega⟩
    obtain rfl : j = n := by omega
    simp only [catchwordlaw01_VintAdds.l0]
    rw [if_neg (by omega)]
    exact end_ x0 x1 _ j h0 h1 hn hn0 hn1 rfl k (by omega)
  | succ d ih =>
    intro k j hj hk
    obtain ⟨k, rfl⟩ : ∃ m, k = m + 1 := ⟨k - 1, by omega⟩
    have hw : wrap64 ((j : Int) + 1) = ((j + 1 : Nat) : Int) := by unfold wrap64; omega
    have hj0 : j < x0.length := by omega
    have hj1 : j < x1.length := by omega
    have r0 : rd x0 (j : Int) = ((x0[j].toNat : Nat) : Int) := by
      have := h0 _ (List.getElem_mem hj0)
      unfold rd; rw [Int.toNat_natCast, List.getD_eq_getElem?_getD, List.getElem?_eq_getElem hj0]; simp; omega
    have r1 : rd x1 (j : Int) = ((x1[j].toNat : Nat) : Int) := by
      have := h1 _ (List.getElem_mem hj1)
      unfold rd; rw [Int.toNat_natCast, List.getD_eq_getElem?_getD, List.getElem?_eq_getElem hj1]; simp; omega
    have hx : Go.bits .xor .u8 (rd x0 (j : Int)) (rd x1 (j : Int)) = ((x0[j].toNat ^^^ x1[j].toNat : Nat) : Int) := by
      rw [r0, r1]
      have := h0 _ (List.getElem_mem hj0)
      have := h1 _ (List.getElem_mem hj1)
      exact u8_xor_nat _ _ (by omega) (by omega)
    have hs : over (x0.take j) (x1.take j) ++ [((x0[j].toNat ^^^ x1[j].toNat : Nat) : Int)] = over (x0.take (j + 1)) (x1.take (j + 1)) := by
      unfold over
      rw [List.take_succ_eq_append_getElem hj0, List.take_succ_eq_append_getElem hj1, List.zipWith_append (by simp; omega)]
      rfl
    have hl : (over (x0.take j) (x1.take j)).length ≤ 200 := by unfold over; rw [List.length_zipWith]; simp; omega
    simp only [catchwordlaw01_VintAdds.l0]
    rw [if_pos (by omega), if_pos (by omega), if_pos (by omega), if_pos (by omega), if_pos (by omega), hx, hs, hw]
    exact ih k (j + 1) (by omega) (by omega)

theorem VintAdds : catchwordlaw01_VintAdds.Pure := by
  intro l0 l1 _ _ g0 _ _ g1
  have h0 := bytes_of g0
  have h1 := bytes_of g1
  refine ⟨4000, ?_⟩
  unfold catchwordlaw01_VintAdds.f catchwordlaw01_head.f
  simp only [Option.bind_some, if_true]
  obtain ⟨n, hn, hle0, hle1⟩ : ∃ n : Nat, mn (l0.length : Int) (l1.length : Int) = (n : Int) ∧ n ≤ l0.length ∧ n ≤ l1.length := by
    refine ⟨min l0.length l1.length, ?_, by omega, by omega⟩
    unfold mn; omega
  rw [hn]
  by_cases c : (n : Int) > 200
  · rw [if_pos c]
  · rw [if_neg c]
    have h := adds_loop l0 l1 n h0 h1 (by omega) hle0 hle1 n 4000 0 (by omega) (by omega)
    exact h
end Go.Proofs.Ytgmbefkbonaodaa.Pure
