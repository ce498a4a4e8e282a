/- The walk of TopParts. Conditions as each theorem has them. -/
import Derived.Test.YtgefggokgjneoaaTop4
namespace Go.Proofs.Ytgefggokgjneoaa.QT
open Go.RowKit Go.Proofs.YtgefggokgjneoaaW.PrintWords Go.Proofs.YtgefggokgjneoaaW.PrintLast Go.Proofs.YtgefggokgjneoaaW.PrintMore Go.Proofs.Ytgefggokgjneoaa.TPure
attribute [local go_sem] max2_int min2_int max_two min_two max_three min_three max_four min_four ta27  -- for this text's walks alone
attribute [local go_sem high] eqA27
set_option linter.unusedVariables false
set_option linter.unusedSimpArgs false
theorem and15 (n : Int) : bits .and .i64 n 15 = n % 16 := by
  have hc : (BitVec.ofInt 64 15).toNat = 2 ^ 4 - 1 := by decide
  have key : (BitVec.ofInt 64 n &&& BitVec.ofInt 64 15).toNat = (n % ((2 ^ 64 : Nat) : Int)).toNat % 2 ^ 4 := by
    rw [BitVec.toNat_and, BitVec.toNat_ofInt, hc, Nat.and_two_pow_sub_one_eq_mod]
  show IntKind.i64.wrap ((BitVec.ofInt 64 n &&& BitVec.ofInt 64 15).toNat : Nat) = n % 16
  rw [key, IntKind.wrap_i64]
  omega
/-- The law's memory: what came in, and the box of most. -/
structure PT (w W : World) (M : Nat) : Prop where
  below : Below w.heap.size w W
  box : W.heap[w.heap.size]? = some (.cells #[.int .i64 (M : Int)] 3 (0, 0))
theorem PT.cell {w W : World} {M : Nat} (h : PT w W M) : W.cell? ⟨w.heap.size, 0, none⟩ = some (.int .i64 (M : Int)) := by rw [blk_cell h.box 0]; rfl
theorem PT.next {w W W1 : World} {M : Nat} (h : PT w W M) (hb : Below W.heap.size W W1) : PT w W1 M := ⟨below_then h.below h.below.size hb, blk_below h.box hb⟩
theorem PT.start {w w1 : World} {M : Nat} {m0 : Int} (hb : Below (w.alloc (.cells #[.int .i64 m0] 3)).heap.size (w.alloc (.cells #[.int .i64 m0] 3)) w1) : PT w (w1.setCell ⟨w.heap.size, 0, none⟩ (.int .i64 (M : Int))) M := by
  have h0 := below_alloc (Below.refl w.heap.size w) (.cells #[.int .i64 m0] 3)
  refine ⟨below_set (below_then h0 h0.size hb) (Nat.le_refl _), ?_⟩
  have h1 := blk_below (blk_new w (.cells #[.int .i64 m0] 3)) hb
  have h2 := blk_set h1 0 (.int .i64 (M : Int))
  exact h2
theorem lists1 {W : World} {t : TypeId} {A1 : Option Addr} {c1 : Nat} {l1 : List S27} (h1 : l1.length ≤ 40) (f1 : l1.length ≤ c1) (r1 : Kd.C k27 W A1 l1.length l1) : Lists (W.alloc (.cells #[.slice A1 l1.length c1] t)) W.heap.size [l1] := by
  have hb := below_alloc (Below.refl W.heap.size W) (.cells #[.slice A1 l1.length c1] t)
  intro i l hi
  rcases i with _ | i
  · obtain rfl : l1 = l := by simpa using hi
    exact ⟨h1, A1, c1, by rw [blk_cell (blk_new W _) 0]; rfl, f1, Kd.C_below r1 hb⟩
  · simp at hi
theorem lists2 {W : World} {t : TypeId} {A1 A2 : Option Addr} {c1 c2 : Nat} {l1 l2 : List S27} (h1 : l1.length ≤ 40) (f1 : l1.length ≤ c1) (r1 : Kd.C k27 W A1 l1.length l1) (h2 : l2.length ≤ 40) (f2 : l2.length ≤ c2) (r2 : Kd.C k27 W A2 l2.length l2) :
    Lists (W.alloc (.cells #[.slice A1 l1.length c1, .slice A2 l2.length c2] t)) W.heap.size [l1, l2] := by
  have hb := below_alloc (Below.refl W.heap.size W) (.cells #[.slice A1 l1.length c1, .slice A2 l2.length c2] t)
  intro i l hi
  rcases i with _ | _ | i
  · obtain rfl : l1 = l := by simpa using hi
    exact ⟨h1, A1, c1, by rw [blk_cell (blk_new W _) 0]; rfl, f1, Kd.C_below r1 hb⟩
  · obtain rfl : l2 = l := by simpa using hi
    exact ⟨h2, A2, c2, by rw [blk_cell (blk_new W _) 1]; rfl, f2, Kd.C_below r2 hb⟩
  · simp at hi
section
variable {w0 w : World} {Aa Ab : Option Addr} {ca cb : Nat} {a b : List S27}
set_option maxHeartbeats 1000000 in
set_option maxRecDepth 100000 in
theorem parts_calls (hra : Kd.C k27 w Aa a.length a) (hca : a.length ≤ ca) (hrb : Kd.C k27 w Ab b.length b) (hcb : b.length ≤ cb) (most : Int) :
    Calls Try.prog 6 #[.slice Aa a.length ca, .slice Ab b.length cb, .int .i64 most] w fun e w' => e = .returned (.bool true) ∧ Below w.heap.size w w' := by
  have HH := Aside0.mk (fun (W : World) => head_calls (w := W))
  have HA := Aside0.mk hra
  have HB := Aside0.mk hrb
  clear hra hrb
  by_cases h40 : 40 < a.length ∨ 40 < b.length
  · have fin : ∀ w1, Below (w.alloc (.cells #[.int .i64 most] 3)).heap.size (w.alloc (.cells #[.int .i64 most] 3)) w1 → Below w.heap.size w w1 := fun w1 hb => below_then (below_alloc (Below.refl _ _) _) (below_size (below_alloc (Below.refl _ _) _)) hb
    by_cases ha : 40 < a.length
    · have hn5 : decide ((40 : Int) < (a.length : Int)) = true := by simp; omega
      have hn7 : (40 : Int) < (a.length : Int) := by omega
      go_enter Try.func6, Try.ntmps6
      go_wp2_with (go_at_call 8; refine (HH.out _).mono ?_; rintro e w1 ⟨rfl, hb⟩; have HB1 := Aside0.mk hb; clear hb HH)
      go_ret
      exact ⟨rfl, fin _ HB1.out⟩
    · have hn5 : decide ((40 : Int) < (a.length : Int)) = false := by simp; omega
      have hn7 : ¬ ((40 : Int) < (a.length : Int)) := by omega
      have hn6 : decide ((40 : Int) < (b.length : Int)) = true := by simp; omega
      have hn8 : (40 : Int) < (b.length : Int) := by omega
      go_enter Try.func6, Try.ntmps6
      go_wp2_with (go_at_call 8; refine (HH.out _).mono ?_; rintro e w1 ⟨rfl, hb⟩; have HB1 := Aside0.mk hb; clear hb HH)
      go_ret
      exact ⟨rfl, fin _ HB1.out⟩
  · have ha4 : (a.length : Int) ≤ 40 := by omega
    have hb4 : (b.length : Int) ≤ 40 := by omega
    have hn5 : decide ((40 : Int) < (a.length : Int)) = false := by simp; omega
    have hn6 : decide ((40 : Int) < (b.length : Int)) = false := by simp; omega
    obtain ⟨M, hM, hMb⟩ : ∃ M : Nat, bits .and .i64 most 15 = (M : Int) ∧ M ≤ 15 := ⟨(most % 16).toNat, by rw [and15]; omega, by omega⟩
    go_enter Try.func6, Try.ntmps6
    have hal : a.length ≤ 40 := by omega
    have hbl : b.length ≤ 40 := by omega
    have HFa : (firsts M a).length ≤ 40 := by rw [firsts_length]; omega
    obtain ⟨F, hF⟩ : ∃ F, F = firsts M (a ++ b) := ⟨_, rfl⟩
    have hFl : F.length = min M (a.length + b.length) := by rw [hF, firsts_length, List.length_append]
    have hcm1 : (if (a.length : Int) + (b.length : Int) < (M : Int) then (a.length : Int) + (b.length : Int) else (M : Int)) = (F.length : Int) := by split <;> omega
    have hFb : (F.length : Int) ≤ 15 := by omega
    have hP1 : firsts M ([a, b] : List (List S27)).flatten = F := by rw [hF]; simp
    have hP4 : firsts M ([firsts M b, firsts M a] : List (List S27)).flatten = F := by rw [hF, ← firsts_parts]; simp
    have HP1 := Aside0.mk hP1
    have HP4' := Aside0.mk hP4
    clear hF hFl hP1 hP4
    have HFb : (firsts M b).length ≤ 40 := by rw [firsts_length]; omega
    go_wp2_with (first
      | (go_at_call 8; refine (HH.out _).mono ?_; rintro e w1 ⟨rfl, hb⟩; have hbx := blk_below (blk_new w (.cells #[.int .i64 most] 3)) hb; have hx : w1.cell? ⟨w.heap.size, 0, none⟩ = some (.int .i64 most) := (by rw [blk_cell hbx 0]; rfl); have hf : w1.frozen? ⟨w.heap.size, 0, none⟩ = false := blk_frozen hbx 0; have HP := Aside0.mk (PT.start (M := M) hb); clear hb hbx HH)
      | (go_at_call 16; have hL := lists2 (t := 22) hal hca (Kd.C_below HA.out HP.out.below) hbl hcb (Kd.C_below HB.out HP.out.below); rw [show (w1.setCell ⟨w.heap.size, 0, none⟩ (.int .i64 (M : Int))).heap.size = w1.heap.size by simp [World.setCell]] at hL; have hK := keep_calls _ _ hL (by simp) _ 2 rfl M hMb _ (HP.out.next (below_alloc (Below.refl _ _) _)).cell; rw [HP1.out] at hK; refine hK.mono ?_; rintro e w2 ⟨A1, c1, rfl, hr1, hb1⟩; have HP2 := Aside0.mk ((HP.out.next (below_alloc (Below.refl _ _) _)).next hb1); have HR1 := Aside0.mk (Kd.R_reads' hr1); clear hL hK hr1 hb1 HP hx hf)
      | (go_at_call 16; have hL := lists1 (t := 22) hbl hcb (Kd.C_below HB.out HP2.out.below); refine (keep_calls _ _ hL (by simp) _ _ rfl M hMb _ (HP2.out.next (below_alloc (Below.refl _ _) _)).cell).mono ?_; rintro e w3 ⟨A2, c2, rfl, hr2, hb2⟩; have HP3 := Aside0.mk ((HP2.out.next (below_alloc (Below.refl _ _) _)).next hb2); have HR1b := Aside0.mk (Kd.C_below HR1.out.2.2 (below_then (below_alloc (Below.refl _ _) _) (below_size (below_alloc (Below.refl _ _) _)) hb2)); rw [show ([b] : List (List S27)).flatten = b by simp] at hr2; have HR2 := Aside0.mk (Kd.R_reads' hr2); clear hL hr2 hb2 HP2)
      | (go_at_call 16; have hL := lists1 (t := 22) hal hca (Kd.C_below HA.out HP3.out.below); refine (keep_calls _ _ hL (by simp) _ _ rfl M hMb _ (HP3.out.next (below_alloc (Below.refl _ _) _)).cell).mono ?_; rintro e w4 ⟨A3, c3, rfl, hr3, hb3⟩; have HP4 := Aside0.mk ((HP3.out.next (below_alloc (Below.refl _ _) _)).next hb3); have HR1c := Aside0.mk (Kd.C_below HR1b.out (below_then (below_alloc (Below.refl _ _) _) (below_size (below_alloc (Below.refl _ _) _)) hb3)); have HR2b := Aside0.mk (Kd.C_below HR2.out.2.2 (below_then (below_alloc (Below.refl _ _) _) (below_size (below_alloc (Below.refl _ _) _)) hb3)); rw [show ([a] : List (List S27)).flatten = a by simp] at hr3; have HR3 := Aside0.mk (Kd.R_reads' hr3); clear hL hr3 hb3 HP3 HR1b)
      | (go_at_call 16; have hL := lists2 (t := 22) HFb HR2.out.2.1 HR2b.out HFa HR3.out.2.1 HR3.out.2.2; have hK := keep_calls _ _ hL (by simp) _ 2 rfl M hMb _ (HP4.out.next (below_alloc (Below.refl _ _) _)).cell; rw [HP4'.out] at hK; refine hK.mono ?_; rintro e w5 ⟨A4, c4, rfl, hr4, hb4⟩; have HP5 := Aside0.mk ((HP4.out.next (below_alloc (Below.refl _ _) _)).next hb4); have hx5 := HP5.out.cell; have HR1d := Aside0.mk (Kd.C_below HR1c.out (below_then (below_alloc (Below.refl _ _) _) (below_size (below_alloc (Below.refl _ _) _)) hb4)); have HR4 := Aside0.mk (Kd.R_reads' hr4); clear hL hK hr4 hb4 HP4 HR1c))
    go_loopg [59] (F.length + 1) (fun gk v59 w' => ∃ (k : Nat), v59 = .int .i64 (k : Int) ∧ Aside0 (k ≤ F.length ∧ F.length < k + gk) ∧ Aside0 (Below w5.heap.size w5 w'))
    case atStart => exact ⟨0, rfl, ⟨by omega, by omega⟩, ⟨Below.refl _ _⟩⟩
    case round =>
      obtain ⟨k, rfl, HK, HW⟩ := hrel
      obtain ⟨gj, rfl⟩ : ∃ k2, gk = k2 + 1 := ⟨gk - 1, by have := HK.out; omega⟩
      have hk0 : (0 : Int) ≤ (k : Int) := by omega
      by_cases hk : k < F.length
      · have hkl : (k : Int) < (F.length : Int) := by omega
        obtain ⟨ad1, rfl, hx0, hx1, hx2⟩ := row_cells HR1d.out HW.out k hk
        obtain ⟨ad2, rfl, hy0, hy1, hy2⟩ := row_cells HR4.out.2.2 HW.out k hk
        go_wp2
        refine start_ (n := 9) (S := fun w' => w'.cell? (ad1.add (k * 3)) = some (.int .i64 (rd_T27 F (k : Int)).f0) ∧ w'.cell? ⟨(ad1.add (k * 3)).block, (ad1.add (k * 3)).off + 1, none⟩ = some (.int .i64 (rd_T27 F (k : Int)).f1) ∧ w'.cell? ⟨(ad1.add (k * 3)).block, (ad1.add (k * 3)).off + 2, none⟩ = some (.int .i64 (rd_T27 F (k : Int)).f2) ∧ w'.cell? (ad2.add (k * 3)) = some (.int .i64 (rd_T27 F (k : Int)).f0) ∧ w'.cell? ⟨(ad2.add (k * 3)).block, (ad2.add (k * 3)).off + 1, none⟩ = some (.int .i64 (rd_T27 F (k : Int)).f1) ∧ w'.cell? ⟨(ad2.add (k * 3)).block, (ad2.add (k * 3)).off + 2, none⟩ = some (.int .i64 (rd_T27 F (k : Int)).f2)) (ds := []) #[false, false, false, false, false, false, false, false, false] (by kernel_rfl) rfl rfl (⟨hx0, hx1, hx2, hy0, hy1, hy2⟩) (fun hHeld => ?_); refine with_tab (T := rtab .any (opsOf Try.f6 14)) rfl (fun HT_ => ?_)
        refine pure_ (i := 0) (N := (some 62)) (v := ?_) (a' := ?_) #[true, false, false, false, false, false, false, false, false] rfl rfl (any_of HT_.out (by kernel_rfl)) (fun _ _ _ h => h) (Or.inl ⟨by rfl, ?_⟩) ?_ ?_
        rotate_left
        · intro w'
          go_simp
          with_reducible rfl
        rotate_left
        · simp only [Act.put, List.setIfInBounds_toArray, List.set_cons_zero, List.set_cons_succ, i64_w, i32_w]
          rfl
        refine pure_ (i := 1) (N := (some 63)) (v := ?_) (a' := ?_) #[true, true, false, false, false, false, false, false, false] rfl rfl (any_of HT_.out (by kernel_rfl)) (fun _ _ _ h => h) (Or.inl ⟨by rfl, ?_⟩) ?_ ?_
        rotate_left
        · intro w'
          go_simp
          with_reducible rfl
        rotate_left
        · simp only [Act.put, List.setIfInBounds_toArray, List.set_cons_zero, List.set_cons_succ, i64_w, i32_w]
          rfl
        refine pure_ (i := 2) (N := (some 64)) (v := ?_) (a' := ?_) #[true, true, true, false, false, false, false, false, false] rfl rfl (any_of HT_.out (by kernel_rfl)) (fun _ _ _ h => h) (Or.inl ⟨by rfl, ?_⟩) ?_ ?_
        rotate_left
        · intro w'
          go_simp
          with_reducible rfl
        rotate_left
        · simp only [Act.put, List.setIfInBounds_toArray, List.set_cons_zero, List.set_cons_succ, i64_w, i32_w]
          rfl
        refine pure_ (i := 4) (N := (some 66)) (v := ?_) (a' := ?_) #[true, true, true, false, true, false, false, false, false] rfl rfl (any_of HT_.out (by kernel_rfl)) (fun _ _ _ h => h) (Or.inl ⟨by rfl, ?_⟩) ?_ ?_
        rotate_left
        · intro w'
          go_simp
          with_reducible rfl
        rotate_left
        · simp only [Act.put, List.setIfInBounds_toArray, List.set_cons_zero, List.set_cons_succ, i64_w, i32_w]
          rfl
        refine pure_ (i := 5) (N := (some 67)) (v := ?_) (a' := ?_) #[true, true, true, false, true, true, false, false, false] rfl rfl (any_of HT_.out (by kernel_rfl)) (fun _ _ _ h => h) (Or.inl ⟨by rfl, ?_⟩) ?_ ?_
        rotate_left
        · intro w'
          go_simp
          with_reducible rfl
        rotate_left
        · simp only [Act.put, List.setIfInBounds_toArray, List.set_cons_zero, List.set_cons_succ, i64_w, i32_w]
          rfl
        refine pure_ (i := 6) (N := (some 68)) (v := ?_) (a' := ?_) #[true, true, true, false, true, true, true, false, false] rfl rfl (any_of HT_.out (by kernel_rfl)) (fun _ _ _ h => h) (Or.inl ⟨by rfl, ?_⟩) ?_ ?_
        rotate_left
        · intro w'
          go_simp
          with_reducible rfl
        rotate_left
        · simp only [Act.put, List.setIfInBounds_toArray, List.set_cons_zero, List.set_cons_succ, i64_w, i32_w]
          rfl
        refine take_ (i := 3) (N := (some 65)) (v := ?_) (a' := ?_) #[true, true, true, true, true, true, true, false, false] rfl rfl (take_of HT_.out (by kernel_rfl)) (fun _ _ _ h => h) (Or.inl ⟨by rfl, ?_⟩) hHeld ?_ ?_
        rotate_left
        · rintro w' ⟨s0, s1, s2, s3, s4, s5⟩
          go_simp
          with_reducible rfl
        rotate_left
        · simp only [Act.put, List.setIfInBounds_toArray, List.set_cons_zero, List.set_cons_succ, i64_w, i32_w]
          rfl
        refine take_ (i := 7) (N := (some 69)) (v := ?_) (a' := ?_) #[true, true, true, true, true, true, true, true, false] rfl rfl (take_of HT_.out (by kernel_rfl)) (fun _ _ _ h => h) (Or.inl ⟨by rfl, ?_⟩) hHeld ?_ ?_
        rotate_left
        · rintro w' ⟨s0, s1, s2, s3, s4, s5⟩
          go_simp
          with_reducible rfl
        rotate_left
        · simp only [Act.put, List.setIfInBounds_toArray, List.set_cons_zero, List.set_cons_succ, i64_w, i32_w]
          rfl
        refine pure_ (i := 8) (N := (some 70)) (v := ?_) (a' := ?_) #[true, true, true, true, true, true, true, true, true] rfl rfl (any_of HT_.out (by kernel_rfl)) (fun _ _ _ h => h) (Or.inl ⟨by rfl, ?_⟩) ?_ ?_
        rotate_left
        · intro w'
          go_simp
          with_reducible rfl
        rotate_left
        · simp only [Act.put, List.setIfInBounds_toArray, List.set_cons_zero, List.set_cons_succ, i64_w, i32_w]
          rfl
        refine done_ (done_of HT_.out (by kernel_rfl)) ?_
        go_wp2
        go_roundg gj
        case measure => omega
        case rel => exact ⟨k + 1, (by first | rfl | (congr 1; omega) | simp), ⟨by omega, by have := HK.out; omega⟩, ⟨by repeat (first | exact HW.out | apply below_drew1 | apply below_alloc)⟩⟩
      · obtain rfl : k = F.length := by have := HK.out; omega
        go_wp2
        go_ret
        exact ⟨rfl, below_then HP5.out.below HP5.out.below.size HW.out⟩
end
end Go.Proofs.Ytgefggokgjneoaa.QT
