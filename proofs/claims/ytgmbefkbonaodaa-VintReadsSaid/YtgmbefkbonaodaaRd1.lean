/- Contracts of vint's Reader.Num. Conditions as each theorem has them. -/
import Derived.Test.YtgmbefkbonaodaaRd0
namespace Go.Proofs.Ytgmbefkbonaodaa.QV
open Go.RowKit Go.Proofs.YtgmbefkbonaodaaW.PrintWords Go.Proofs.YtgmbefkbonaodaaW.PrintLast Go.Proofs.YtgmbefkbonaodaaW.PrintMore Go.Proofs.Ytgmbefkbonaodaa.VSum Go.Proofs.Ytgmbefkbonaodaa.VDig
attribute [local go_sem] max2_int min2_int max_two min_two max_three min_three max_four min_four   -- for this text's walks alone
set_option linter.unusedVariables false
set_option linter.unusedSimpArgs false
/-- What Num tells, the place, the error. -/
def numR (l : List Int) (p : Nat) (m : Int) : Nat × Nat × Int :=
  if (getL 0 0 (l.drop p)).2 = 0 ∨ m.toNat < (getL 0 0 (l.drop p)).1 then (0, p, 2) else ((getL 0 0 (l.drop p)).1, p + (getL 0 0 (l.drop p)).2, 0)
section
variable {w0 w : World} {g : Nat} {l : List Int} {p : Nat} {e : Int} {A : Option Addr} {c : Nat}
set_option maxHeartbeats 4000000 in
set_option maxRecDepth 100000 in
theorem num_nil (m : Int) : Calls Try.prog 17 #[.pointer none, .int .i64 m] w fun e' w' => e' = .returned (.int .i64 0) ∧ Below w.heap.size w w' := by
  go_enter Try.func17, Try.ntmps17
  go_wp2
  go_ret
  exact ⟨rfl, by repeat (first | exact Below.refl _ _ | apply below_alloc | apply below_drew1)⟩
set_option maxHeartbeats 4000000 in
set_option maxRecDepth 100000 in
theorem num_err (h : RD w g l p e A c) (he : e ≠ 0) (m : Int) : Calls Try.prog 17 #[.pointer (some ⟨g, 0, none⟩), .int .i64 m] w fun e' w' => e' = .returned (.int .i64 0) ∧ Below w.heap.size w w' := by
  have hc2 := h.cell2
  have hb : (e == 0) = false := beq_eq_false_iff_ne.mpr he
  clear h
  go_enter Try.func17, Try.ntmps17
  go_wp2
  go_ret
  exact ⟨rfl, by repeat (first | exact Below.refl _ _ | apply below_alloc | apply below_drew1)⟩
theorem get_bound {r : List Int} (hb : Bytes r) (hk : 0 < (getL 0 0 r).2) : (getL 0 0 r).2 ≤ r.length ∧ (getL 0 0 r).1 < 18446744073709551616 := by
  have h := get_form r 0 0 [] hb E_zero.symm rfl (fun h => absurd h (by decide)) (fun _ => rfl) (by decide) hk
  exact ⟨by omega, h.2.1⟩
theorem numR_le (hp : p ≤ l.length) (hb : Bytes l) (m : Int) : (numR l p m).2.1 ≤ l.length ∧ p ≤ (numR l p m).2.1 := by
  unfold numR
  split
  · exact ⟨hp, Nat.le_refl _⟩
  · rename_i h
    have := get_bound (r := l.drop p) (fun x hx => hb x (List.mem_of_mem_drop hx)) (by omega)
    rw [List.length_drop] at this
    exact ⟨by show p + _ ≤ _; omega, by show p ≤ p + _; omega⟩
set_option maxHeartbeats 4000000 in
set_option maxRecDepth 100000 in
theorem num_calls (h : RD w g l p 0 A c) (hB : Below w0.heap.size w0 w) (hg : w0.heap.size ≤ g) (hp : p ≤ l.length) (hl : l.length < 1099511627776) (hb : Bytes l) (m : Int) (hm0 : -9223372036854775808 ≤ m) (hm1 : m ≤ 9223372036854775807) :
    Calls Try.prog 17 #[.pointer (some ⟨g, 0, none⟩), .int .i64 m] w fun e' w' => e' = .returned (.int .i64 ((numR l p m).1 : Int)) ∧ RD w' g l (numR l p m).2.1 (numR l p m).2.2 A c ∧ Below w0.heap.size w0 w' ∧ Kept w w' (fun k => k = g) := by
  have hc0 := h.cell0
  have hc1 := h.cell1
  have hc2 := h.cell2
  have hp2 : (p : Int) ≤ (l.length : Int) := by omega
  have hp0 : (0 : Int) ≤ (p : Int) := by omega
  have hl2 : (l.length : Int) < 1099511627776 := by omega
  have hfit := h.fits
  have hfit2 : (l.length : Int) ≤ (c : Int) := by omega
  have hbd : Bytes (l.drop p) := fun x hx => hb x (List.mem_of_mem_drop hx)
  have HG := Aside0.mk (Get_spec (l.drop p) hbd (by rw [List.length_drop]; omega) (2 * (l.drop p).length + 2) (by omega))
  have HDR := Aside0.mk (fun (W : World) (hb : Below w.heap.size w W) => show Kd.C (Kd.int .u8) W (if c = p then A else Option.map (fun x => x.add p) A) (l.drop p).length (l.drop p) from by have h1 := Kd.C_drop (m := p) (Kd.C_below h.row hb) hp hfit; rw [show p * (Kd.int .u8).sz = p from Nat.mul_one p] at h1; exact h1)
  obtain ⟨R, hR⟩ : ∃ R, R = numR l p m := ⟨_, rfl⟩
  rw [← hR]
  have HRR := Aside0.mk hR
  clear hR
  have HH := Aside0.mk h
  have HBB := Aside0.mk hB
  clear h hB
  go_enter Try.func17, Try.ntmps17
  go_wp2
  refine start_ (n := 15) (S := fun w' => w'.cell? ⟨g, 0, none⟩ = some (.slice A l.length c) ∧ w'.cell? ⟨g, 1, none⟩ = some (.int .i64 (p : Int))) (ds := []) #[false, false, false, false, false, false, false, false, false, false, false, false, false, false, false] (by kernel_rfl) rfl rfl (⟨hc0, hc1⟩) (fun hHeld => ?_); refine with_tab (T := rtab .any (opsOf Try.f17 3)) rfl (fun HT_ => ?_)
  refine pure_ (i := 0) (N := (some 17)) (v := ?_) (a' := ?_) #[true, false, false, false, false, false, false, false, false, false, false, false, false, false, false] rfl rfl (any_of HT_.out (by kernel_rfl)) (fun _ _ _ h => h) (Or.inl ⟨by rfl, ?_⟩) ?_ ?_
  rotate_left
  · intro w'
    go_simp
    with_reducible rfl
  rotate_left
  · simp only [Act.put, List.setIfInBounds_toArray, List.set_cons_zero, List.set_cons_succ, i64_w, i32_w]
    rfl
  refine pure_ (i := 1) (N := (some 18)) (v := ?_) (a' := ?_) #[true, true, false, false, false, false, false, false, false, false, false, false, false, false, false] rfl rfl (any_of HT_.out (by kernel_rfl)) (fun _ _ _ h => h) (Or.inl ⟨by rfl, ?_⟩) ?_ ?_
  rotate_left
  · intro w'
    go_simp
    with_reducible rfl
  rotate_left
  · simp only [Act.put, List.setIfInBounds_toArray, List.set_cons_zero, List.set_cons_succ, i64_w, i32_w]
    rfl
  refine pure_ (i := 2) (N := (some 19)) (v := ?_) (a' := ?_) #[true, true, true, false, false, false, false, false, false, false, false, false, false, false, false] rfl rfl (any_of HT_.out (by kernel_rfl)) (fun _ _ _ h => h) (Or.inl ⟨by rfl, ?_⟩) ?_ ?_
  rotate_left
  · intro w'
    go_simp
    with_reducible rfl
  rotate_left
  · simp only [Act.put, List.setIfInBounds_toArray, List.set_cons_zero, List.set_cons_succ, i64_w, i32_w]
    rfl
  refine pure_ (i := 4) (N := (some 21)) (v := ?_) (a' := ?_) #[true, true, true, false, true, false, false, false, false, false, false, false, false, false, false] rfl rfl (any_of HT_.out (by kernel_rfl)) (fun _ _ _ h => h) (Or.inl ⟨by rfl, ?_⟩) ?_ ?_
  rotate_left
  · intro w'
    go_simp
    with_reducible rfl
  rotate_left
  · simp only [Act.put, List.setIfInBounds_toArray, List.set_cons_zero, List.set_cons_succ, i64_w, i32_w]
    rfl
  refine pure_ (i := 5) (N := (some 22)) (v := ?_) (a' := ?_) #[true, true, true, false, true, true, false, false, false, false, false, false, false, false, false] rfl rfl (any_of HT_.out (by kernel_rfl)) (fun _ _ _ h => h) (Or.inl ⟨by rfl, ?_⟩) ?_ ?_
  rotate_left
  · intro w'
    go_simp
    with_reducible rfl
  rotate_left
  · simp only [Act.put, List.setIfInBounds_toArray, List.set_cons_zero, List.set_cons_succ, i64_w, i32_w]
    rfl
  refine pure_ (i := 6) (N := (some 23)) (v := ?_) (a' := ?_) #[true, true, true, false, true, true, true, false, false, false, false, false, false, false, false] rfl rfl (any_of HT_.out (by kernel_rfl)) (fun _ _ _ h => h) (Or.inl ⟨by rfl, ?_⟩) ?_ ?_
  rotate_left
  · intro w'
    go_simp
    with_reducible rfl
  rotate_left
  · simp only [Act.put, List.setIfInBounds_toArray, List.set_cons_zero, List.set_cons_succ, i64_w, i32_w]
    rfl
  refine take_ (i := 3) (N := (some 20)) (v := ?_) (a' := ?_) #[true, true, true, true, true, true, true, false, false, false, false, false, false, false, false] rfl rfl (take_of HT_.out (by kernel_rfl)) (fun _ _ _ h => h) (Or.inl ⟨by rfl, ?_⟩) hHeld ?_ ?_
  rotate_left
  · rintro w' ⟨s0, s1⟩
    go_simp
    with_reducible rfl
  rotate_left
  · simp only [Act.put, List.setIfInBounds_toArray, List.set_cons_zero, List.set_cons_succ, i64_w, i32_w]
    rfl
  refine take_ (i := 7) (N := (some 24)) (v := ?_) (a' := ?_) #[true, true, true, true, true, true, true, true, false, false, false, false, false, false, false] rfl rfl (take_of HT_.out (by kernel_rfl)) (fun _ _ _ h => h) (Or.inl ⟨by rfl, ?_⟩) hHeld ?_ ?_
  rotate_left
  · rintro w' ⟨s0, s1⟩
    go_simp
    with_reducible rfl
  rotate_left
  · simp only [Act.put, List.setIfInBounds_toArray, List.set_cons_zero, List.set_cons_succ, i64_w, i32_w]
    rfl
  refine pure_ (i := 8) (N := (some 25)) (v := ?_) (a' := ?_) #[true, true, true, true, true, true, true, true, true, false, false, false, false, false, false] rfl rfl (any_of HT_.out (by kernel_rfl)) (fun _ _ _ h => h) (Or.inl ⟨by rfl, ?_⟩) ?_ ?_
  rotate_left
  · intro w'
    go_simp
    with_reducible rfl
  rotate_left
  · simp only [Act.put, List.setIfInBounds_toArray, List.set_cons_zero, List.set_cons_succ, i64_w, i32_w]
    rfl
  refine one_ (i := 9) (N := (some 26)) #[true, true, true, true, true, true, true, true, true, true, false, false, false, false, false] rfl rfl (one_of HT_.out (by kernel_rfl)) (by decide) (fun K hK => ?_)
  refine goes_ Try.func13 (by kernel_rfl) rfl #[.slice (if c = p then A else Option.map (fun x => x.add p) A) (l.drop p).length (c - p)] (by rfl) rfl rfl (by (try simp only [List.map_toArray, List.map_cons, List.map_nil]); first | done | rfl | (simp only [List.length_drop, List.length_take]; rfl)) ?_
  refine (vint_Get.calls _ _ (c - p) (l.drop p) _ _ _ (HDR.out _ (by repeat (first | exact Below.refl _ _ | apply below_drew1))) (by rw [List.length_drop]; omega) HG.out).mono ?_
  rintro e1 w10 ⟨rfl, hd⟩
  refine ⟨_, rfl, ?_⟩
  have HB1 := Aside0.mk (show Below w.heap.size w w10 from below_then (by repeat (first | exact Below.refl _ _ | apply below_drew1)) (by repeat (first | exact Nat.le_refl _)) hd.below)
  clear hd
  refine hK.out _ _ ⟨(HB1.out.cell (World.block_lt_of_cell? w _ hc0)).trans hc0, (HB1.out.cell (World.block_lt_of_cell? w _ hc1)).trans hc1⟩ (fun hHeld => ?_)
  clear hK K
  refine norm_ (a' := ?_) ?_ ?_
  rotate_left
  · show Act.put _ (some 26) _ = _
    simp only [Act.put, List.setIfInBounds_toArray, List.set_cons_zero, List.set_cons_succ, i64_w, i32_w]
    rfl
  refine pure_ (i := 10) (N := (some 16)) (v := ?_) (a' := ?_) #[true, true, true, true, true, true, true, true, true, true, true, false, false, false, false] rfl rfl (any_of HT_.out (by kernel_rfl)) (fun _ _ _ h => h) (Or.inl ⟨by rfl, ?_⟩) ?_ ?_
  rotate_left
  · intro w'
    go_simp
    with_reducible rfl
  rotate_left
  · simp only [Act.put, List.setIfInBounds_toArray, List.set_cons_zero, List.set_cons_succ, i64_w, i32_w]
    rfl
  refine pure_ (i := 11) (N := (some 27)) (v := ?_) (a' := ?_) #[true, true, true, true, true, true, true, true, true, true, true, true, false, false, false] rfl rfl (any_of HT_.out (by kernel_rfl)) (fun _ _ _ h => h) (Or.inl ⟨by rfl, ?_⟩) ?_ ?_
  rotate_left
  · intro w'
    go_simp
    with_reducible rfl
  rotate_left
  · simp only [Act.put, List.setIfInBounds_toArray, List.set_cons_zero, List.set_cons_succ, i64_w, i32_w]
    rfl
  refine pure_ (i := 12) (N := (some 28)) (v := ?_) (a' := ?_) #[true, true, true, true, true, true, true, true, true, true, true, true, true, false, false] rfl rfl (any_of HT_.out (by kernel_rfl)) (fun _ _ _ h => h) (Or.inl ⟨by rfl, ?_⟩) ?_ ?_
  rotate_left
  · intro w'
    go_simp
    with_reducible rfl
  rotate_left
  · simp only [Act.put, List.setIfInBounds_toArray, List.set_cons_zero, List.set_cons_succ, i64_w, i32_w]
    rfl
  refine pure_ (i := 13) (N := (some 5)) (v := ?_) (a' := ?_) #[true, true, true, true, true, true, true, true, true, true, true, true, true, true, false] rfl rfl (any_of HT_.out (by kernel_rfl)) (fun _ _ _ h => h) (Or.inl ⟨by rfl, ?_⟩) ?_ ?_
  rotate_left
  · intro w'
    go_simp
    with_reducible rfl
  rotate_left
  · simp only [Act.put, List.setIfInBounds_toArray, List.set_cons_zero, List.set_cons_succ, i64_w, i32_w]
    rfl
  refine pure_ (i := 14) (N := (some 6)) (v := ?_) (a' := ?_) #[true, true, true, true, true, true, true, true, true, true, true, true, true, true, true] rfl rfl (any_of HT_.out (by kernel_rfl)) (fun _ _ _ h => h) (Or.inl ⟨by rfl, ?_⟩) ?_ ?_
  rotate_left
  · intro w'
    go_simp
    with_reducible rfl
  rotate_left
  · simp only [Act.put, List.setIfInBounds_toArray, List.set_cons_zero, List.set_cons_succ, i64_w, i32_w]
    rfl
  refine done_ (done_of HT_.out (by kernel_rfl)) ?_
  have HRD := Aside0.mk (HH.out.below HB1.out)
  have hf2 : w10.frozen? ⟨g, 2, none⟩ = false := HRD.out.froz 2
  have hf1 : w10.frozen? ⟨g, 1, none⟩ = false := HRD.out.froz 1
  have hd1 : w10.cell? ⟨g, 1, none⟩ = some (.int .i64 (p : Int)) := HRD.out.cell1
  have hd2 : w10.cell? ⟨g, 2, none⟩ = some (.int .i64 0) := HRD.out.cell2
  have HBW := Aside0.mk (show Below w0.heap.size w0 w10 from below_then HBB.out HBB.out.size HB1.out)
  have HKW := Aside0.mk (show Kept w w10 (fun k => k = g) from Kept.of_below HB1.out _)
  clear hc0 hc1 hc2 hHeld HT_ HB1 HDR HG
  obtain ⟨mm, hmm⟩ : ∃ mm : Nat, mm = m.toNat := ⟨_, rfl⟩
  have hmx : (if 0 < m then m else 0) = (mm : Int) := by split <;> omega
  have hmb : (mm : Int) ≤ 9223372036854775807 := by omega
  have hmw : IntKind.u64.wrap (mm : Int) = (mm : Int) := by rw [wrap_u64]; omega
  obtain ⟨n, hn⟩ : ∃ n, n = (getL 0 0 (l.drop p)).1 := ⟨_, rfl⟩
  obtain ⟨k, hk⟩ : ∃ k, k = (getL 0 0 (l.drop p)).2 := ⟨_, rfl⟩
  have HN := Aside0.mk (show R = if k = 0 ∨ mm < n then (0, p, 2) else (n, p + k, 0) by rw [HRR.out]; unfold numR; rw [← hn, ← hk, ← hmm])
  have HGB := Aside0.mk (fun (h0 : 0 < k) => get_bound hbd (hk ▸ h0))
  rw [← hn, ← hk] at HGB ⊢
  have HGG := Aside0.mk hg
  clear hn hk hmm hb hbd hg
  by_cases hz : k = 0
  · have hki : ((k : Int) == 0) = true := by simp [hz]
    have HZ := Aside0.mk hz
    clear hz
    go_upto_region 6 with fail
    go_wp
    go_ret
    have e := HN.out
    rw [if_pos (Or.inl HZ.out)] at e
    rw [e]
    exact ⟨rfl, HRD.out.set2 2, below_set HBW.out HGG.out, Kept.setCell HKW.out (.inl rfl) _⟩
  · have hki : ((k : Int) == 0) = false := beq_eq_false_iff_ne.mpr (by omega)
    have HZ := Aside0.mk hz
    clear hz
    by_cases hnm : mm < n
    · have hq : (mm : Int) < (n : Int) := by omega
      have HQ := Aside0.mk hnm
      clear hnm
      go_upto_region 6 with fail
      go_wp
      go_ret
      have e := HN.out
      rw [if_pos (Or.inr HQ.out)] at e
      rw [e]
      exact ⟨rfl, HRD.out.set2 2, below_set HBW.out HGG.out, Kept.setCell HKW.out (.inl rfl) _⟩
    · have hq : ¬ (mm : Int) < (n : Int) := by omega
      have HQ := Aside0.mk hnm
      have hkb := (HGB.out (by have := HZ.out; omega)).1
      rw [List.length_drop] at hkb
      have hnb : (n : Int) ≤ 9223372036854775807 := by omega
      have hkb2 : (k : Int) ≤ 1099511627776 := by omega
      clear hnm
      go_upto_region 8 with fail
      go_wp
      go_ret
      have e := HN.out
      rw [if_neg (by have := HZ.out; have := HQ.out; omega)] at e
      rw [e]
      have h2 := HRD.out.set1 (p + k)
      rw [Int.natCast_add] at h2
      exact ⟨rfl, h2, below_set HBW.out HGG.out, Kept.setCell HKW.out (.inl rfl) _⟩
end
end Go.Proofs.Ytgmbefkbonaodaa.QV
