/- The walks of Go functions and their mirrors (Q..), or a row over a Pure (Law..), written by the program of this session: a private copy of the print, turned (wip/patch_print.py). No condition beyond what each theorem says. -/
import Derived.Test.YtgmbefkbonaodaaQVx0
namespace Go.Proofs.Ytgmbefkbonaodaa.QV
open Go.RowKit Go.Proofs.YtgmbefkbonaodaaW.PrintWords Go.Proofs.YtgmbefkbonaodaaW.PrintLast Go.Proofs.YtgmbefkbonaodaaW.PrintMore
attribute [local go_sem] max2_int min2_int max_two min_two max_three min_three max_four min_four   -- for this text's walks alone
set_option linter.unusedVariables false
set_option linter.unusedSimpArgs false

/-! ### vint_Sum: function 10 -/
mutual
def vint_Sum.l0 : Nat → Int → List Int → Int → Int → Option (Int)
  | 0, _, _, _, _ => none
  | k + 1, x3, x7, x8, x9 => if x9 < x8 then (if 0 ≤ x9 then (if x9 < (x7.length : Int) then (vint_Sum.l1 k (Go.bits .xor .u32 x3 ((rd x7 x9) % 4294967296)) x7 x8 x9 0) else (none)) else (none)) else (some (Go.bits .xor .u32 (-1) x3))
def vint_Sum.l1 : Nat → Int → List Int → Int → Int → Int → Option (Int)
  | 0, _, _, _, _, _ => none
  | k + 1, x3, x7, x8, x9, x17 => if x17 < 8 then (if (Go.bits .and .u32 x3 1) = 1 then (vint_Sum.l1 k (Go.bits .xor .u32 (x3 / 2) 3988292384) x7 x8 x9 (wrap64 (x17 + 1))) else (vint_Sum.l1 k (x3 / 2) x7 x8 x9 (wrap64 (x17 + 1)))) else (vint_Sum.l0 k x3 x7 x8 (wrap64 (x9 + 1)))
end
def vint_Sum.f (k : Nat) (l0 : List Int) : Option (Int) := vint_Sum.l0 k 4294967295 l0 (l0.length : Int) 0
theorem vint_Sum.mono_l : ∀ k, (∀ y0 y1 y2 y3, LeO (vint_Sum.l0 k y0 y1 y2 y3) (vint_Sum.l0 (k + 1) y0 y1 y2 y3)) ∧ (∀ y0 y1 y2 y3 y4, LeO (vint_Sum.l1 k y0 y1 y2 y3 y4) (vint_Sum.l1 (k + 1) y0 y1 y2 y3 y4))
  | 0 => ⟨fun _ _ _ _ r h => by simp [vint_Sum.l0] at h, fun _ _ _ _ _ r h => by simp [vint_Sum.l1] at h⟩
  | k + 1 => by
    obtain ⟨ih0, ih1⟩ := vint_Sum.mono_l k
    refine ⟨?_, ?_⟩
    · intro y0 y1 y2 y3
      unfold vint_Sum.l0
      repeat' first
      | (with_reducible exact ih0 _ _ _ _)
      | (with_reducible exact ih1 _ _ _ _ _)
      | (with_reducible exact LeO.refl _)
      | (with_reducible exact LeO.none _)
      | (with_reducible refine LeO.ite ?_ ?_)
      | (with_reducible refine LeO.bind ?_ (fun _ => ?_))
      | exact ih0 _ _ _ _
      | exact ih1 _ _ _ _ _
      | exact LeO.none _
      | refine LeO.ite ?_ ?_
      | refine LeO.bind ?_ (fun _ => ?_)
    · intro y0 y1 y2 y3 y4
      unfold vint_Sum.l1
      repeat' first
      | (with_reducible exact ih0 _ _ _ _)
      | (with_reducible exact ih1 _ _ _ _ _)
      | (with_reducible exact LeO.refl _)
      | (with_reducible exact LeO.none _)
      | (with_reducible refine LeO.ite ?_ ?_)
      | (with_reducible refine LeO.bind ?_ (fun _ => ?_))
      | exact ih0 _ _ _ _
      | exact ih1 _ _ _ _ _
      | exact LeO.none _
      | refine LeO.ite ?_ ?_
      | refine LeO.bind ?_ (fun _ => ?_)
theorem vint_Sum.mono : ∀ a0 k, LeO (vint_Sum.f k a0) (vint_Sum.f (k + 1) a0) := by
  intro a0 k
  obtain ⟨ih0, ih1⟩ := vint_Sum.mono_l k
  unfold vint_Sum.f
  repeat' first
      | (with_reducible exact ih0 _ _ _ _)
      | (with_reducible exact ih1 _ _ _ _ _)
      | (with_reducible exact LeO.refl _)
      | (with_reducible exact LeO.none _)
      | (with_reducible refine LeO.ite ?_ ?_)
      | (with_reducible refine LeO.bind ?_ (fun _ => ?_))
      | exact ih0 _ _ _ _
      | exact ih1 _ _ _ _ _
      | exact LeO.none _
      | refine LeO.ite ?_ ?_
      | refine LeO.bind ?_ (fun _ => ?_)
set_option maxHeartbeats 8000000 in
set_option maxRecDepth 100000 in
theorem vint_Sum.calls (k : Nat) (A0 : Option Addr) (c0 : Nat) (l0 : List Int) (r : Int) (w : World) (hr0 : Kd.C (Kd.int .u8) w A0 l0.length l0) (hc0 : l0.length ≤ c0) (h : vint_Sum.f k l0 = some r) :
    Calls Try.prog 10 #[.slice A0 l0.length c0] w fun e w' => e = .returned (.int .u32 r) ∧ Drawn0 w w' := by
  have HR0 := Aside0.mk hr0
  have HC0 := Aside0.mk hc0
  clear hr0 hc0
  have H : (vint_Sum.l0 k 4294967295 l0 (l0.length : Int) 0) = some r := h
  clear h
  have H' := Aside0.mk H
  clear H
  go_enter Try.func10, Try.ntmps10
  go_wp2
  go_loopg [3, 9] k (fun kq v3 v9 w' => ∃ (x3_1 : Int) (x9_1 : Int), v3 = .int .u32 x3_1 ∧ v9 = .int .i64 x9_1 ∧ Aside0 (vint_Sum.l0 kq x3_1 l0 (l0.length : Int) x9_1 = some r) ∧ Aside0 (kq ≤ k) ∧ Drawn0 w w')
  case atStart => exact ⟨(4294967295), (0), (by first | rfl | (simp; done) | (simp [*]; done)), (by first | rfl | (simp; done) | (simp [*]; done)), H', ⟨Nat.le_refl _⟩, by repeat (first | exact Drawn0.refl _ | apply Drawn0.step)⟩
  case round =>
    clear H'
    try clear c1
    obtain ⟨x3_1, x9_1, rfl, rfl, HA, HK1, ⟨m1, rfl⟩⟩ := hrel
    cases gk with
    | zero => exact absurd HA.out (by simp [vint_Sum.l0])
    | succ k1 =>
      have H := HA.out
      clear HA
      simp only [vint_Sum.l0] at H
      by_cases c2 : x9_1 < (l0.length : Int)
      · rw [if_pos c2] at H
        have c2b0 : decide (x9_1 < (l0.length : Int)) = true := decide_eq_true c2
        clear c2
        by_cases c3 : 0 ≤ x9_1
        · rw [if_pos c3] at H
          have c3b0 : decide (0 ≤ x9_1) = true := decide_eq_true c3
          clear c3
          by_cases c4 : x9_1 < (l0.length : Int)
          · rw [if_pos c4] at H
            have c4b0 : decide (x9_1 < (l0.length : Int)) = true := decide_eq_true c4
            clear c4
            have H' := Aside0.mk H
            clear H
            have p101 : 0 ≤ (x9_1 : Int) := of_decide_eq_true (by first | (with_reducible assumption) | assumption)
            have q101 : x9_1 < (l0.length : Int) := of_decide_eq_true (by first | (with_reducible assumption) | assumption)
            obtain ⟨ad101, e101, hx101_0⟩ := Kd.at_int HR0.out x9_1 p101 q101
            cases e101
            replace p101 := eq_true p101
            replace q101 := eq_true q101
            go_wp2
            go_loopg [3, 17] k1 (fun kq v3 v17 w' => ∃ (x3_2 : Int) (x17_2 : Int), v3 = .int .u32 x3_2 ∧ v17 = .int .i64 x17_2 ∧ Aside0 (vint_Sum.l1 kq x3_2 l0 (l0.length : Int) x9_1 x17_2 = some r) ∧ Aside0 (kq ≤ k1) ∧ Drawn0 w w')
            case atStart => exact ⟨(Go.bits .xor .u32 x3_1 ((rd l0 x9_1) % 4294967296)), (0), (by first | rfl | (simp; done) | (simp [*]; done)), (by first | rfl | (simp; done) | (simp [*]; done)), H', ⟨Nat.le_refl _⟩, by repeat (first | exact Drawn0.refl _ | apply Drawn0.step)⟩
            case round =>
              clear H'
              try clear c1
              try clear p1
              try clear q1
              try clear hx1
              try clear c2
              try clear c2b0
              try clear p2
              try clear c3
              try clear c3b0
              try clear c4
              try clear c4b0
              try clear hx101_0
              try clear p101
              try clear q101
              obtain ⟨x3_2, x17_2, rfl, rfl, HA, HK2, ⟨m2, rfl⟩⟩ := hrel
              cases gk with
              | zero => exact absurd HA.out (by simp [vint_Sum.l1])
              | succ k2 =>
                have H := HA.out
                clear HA
                simp only [vint_Sum.l1] at H
                by_cases c5 : x17_2 < 8
                · rw [if_pos c5] at H
                  have c5b0 : decide (x17_2 < 8) = true := decide_eq_true c5
                  clear c5
                  by_cases c6 : (Go.bits .and .u32 x3_2 1) = 1
                  · rw [if_pos c6] at H
                    have c6b0 : ((Go.bits .and .u32 x3_2 1) == 1) = true := beq_iff_eq.mpr c6
                    have c6b1 : ((Go.bits .and .u32 x3_2 1) != 1) = false := bne_eq_false_iff_eq.mpr c6
                    clear c6
                    have H' := Aside0.mk H
                    clear H
                    go_wp2
                    go_roundg k2
                    case measure => have := HK1.out; have := HK2.out; omega
                    case rel => exact ⟨(Go.bits .xor .u32 (x3_2 / 2) 3988292384), (wrap64 (x17_2 + 1)), (by first | rfl | (simp; done) | (simp [*]; done)), (by first | rfl | (simp; done) | (simp [*]; done)), H', ⟨by have := HK1.out; have := HK2.out; omega⟩, by repeat (first | exact Drawn0.refl _ | apply Drawn0.step)⟩
                  · rw [if_neg c6] at H
                    have c6b0 : ((Go.bits .and .u32 x3_2 1) == 1) = false := beq_eq_false_iff_ne.mpr c6
                    have c6b1 : ((Go.bits .and .u32 x3_2 1) != 1) = true := bne_iff_ne.mpr c6
                    have H' := Aside0.mk H
                    clear H
                    go_wp2
                    go_roundg k2
                    case measure => have := HK1.out; have := HK2.out; omega
                    case rel => exact ⟨(x3_2 / 2), (wrap64 (x17_2 + 1)), (by first | rfl | (simp; done) | (simp [*]; done)), (by first | rfl | (simp; done) | (simp [*]; done)), H', ⟨by have := HK1.out; have := HK2.out; omega⟩, by repeat (first | exact Drawn0.refl _ | apply Drawn0.step)⟩
                · rw [if_neg c5] at H
                  have c5b0 : decide (x17_2 < 8) = false := decide_eq_false c5
                  clear c5
                  have H' := Aside0.mk H
                  clear H
                  go_wp2
                  go_roundg k2
                  case measure => have := HK1.out; have := HK2.out; omega
                  case rel => exact ⟨(x3_2), (wrap64 (x9_1 + 1)), (by first | rfl | (simp; done) | (simp [*]; done)), (by first | rfl | (simp; done) | (simp [*]; done)), H', ⟨by have := HK1.out; have := HK2.out; omega⟩, by repeat (first | exact Drawn0.refl _ | apply Drawn0.step)⟩
          · rw [if_neg c4] at H
            exact absurd H (by simp)
        · rw [if_neg c3] at H
          exact absurd H (by simp)
      · rw [if_neg c2] at H
        have c2b0 : decide (x9_1 < (l0.length : Int)) = false := decide_eq_false c2
        clear c2
        obtain rfl := Option.some.inj H
        go_wp2
        go_ret
        exact ⟨by first | rfl | (simp; done) | (simp [*]; done), by repeat (first | exact Drawn0.refl _ | apply Drawn0.step)⟩

/-! ### vint_Put: function 11 (by hand) -/
def putL : Nat → Int → Int → List Int → List Int
  | 0, _, _, acc => acc
  | f + 1, n, m, acc => if n / 128 = 0 then (n % 128 + m) :: acc else putL f (n / 128) 128 ((n % 128 + m) :: acc)
def vint_Put.f (l0 : List Int) (a1 : Int) : Option (List Int) := if 0 ≤ a1 then (if a1 < 18446744073709551616 then (if l0.length < 140737488355318 then (some (l0 ++ putL 10 a1 0 [])) else (none)) else (none)) else (none)
theorem vint_Put.told {l0 : List Int} {a1 : Int} {r : List Int} (h : vint_Put.f l0 a1 = some r) : 0 ≤ a1 ∧ a1 < 18446744073709551616 ∧ l0.length < 140737488355318 ∧ l0 ++ putL 10 a1 0 [] = r := by
  unfold vint_Put.f at h
  split at h
  · split at h
    · split at h
      · exact ⟨‹_›, ‹_›, ‹_›, Option.some.inj h⟩
      · cases h
    · cases h
  · cases h
theorem or_more (x m : Int) (h0 : 0 ≤ x) (h1 : x < 128) (hm : m = 0 ∨ m = 128) : bits .or .u8 x m = x + m := by
  rcases hm with rfl | rfl
  · rw [u8_or x 0 h0 (by omega) (by omega) (by omega)]
    simp; omega
  · exact u8_or128_right x h0 h1
theorem slice_rest (g i : Nat) (hi : i ≤ 9) (W : World) : (Instr.sliceAt 51 (.pointer (some ⟨g, 0, none⟩)) (some (.int .i64 (i : Int))) none none).run Try.prog W = .ok (.slice (some ⟨g, i, none⟩) (10 - i) (10 - i)) W := by
  have ha : Try.prog.arrayLen 51 = 10 := by kernel_rfl
  have he : Try.prog.elem 51 = 5 := by kernel_rfl
  have h := run_sliceAt_array_l (P := Try.prog) W 51 ⟨g, 0, none⟩ (by rw [ha, he]; exact Try.underlying51) .i64 (i : Int) (by omega) (by rw [ha]; omega)
  rw [h, ha, he]
  have hs : (sizeOf 5).run Try.prog W = .ok 1 W := by first | (go_simp; done) | (go_simp; rfl)
  rw [hs]
  show Result.ok (slicedAt ⟨g, 0, none⟩ (i : Int).toNat 10 10 1) W = _
  unfold slicedAt
  rw [if_neg (by omega), Int.toNat_natCast, Nat.mul_one, add_plain]
/-- The array's last cells, once one more is laid. -/
theorem drop_set (arr : Array Value) (i : Nat) (y : Int) (acc : List Int) (hs : arr.size = 10) (hi : i ≤ 9) (hd : arr.toList.drop (i + 1) = nums .u8 acc) : ((arr.setIfInBounds i (.int .u8 y)).toList).drop i = nums .u8 (y :: acc) := by
  rw [Array.toList_setIfInBounds, List.drop_eq_getElem_cons (by simp; omega)]
  rw [List.getElem_set_self, List.drop_set_of_lt (by omega), hd]
  rfl
theorem nums_at (y : List Int) (j : Nat) (hj : j < y.length) : (nums .u8 y)[j]? = some (.int .u8 (y.getD j 0)) := by
  simp [nums, hj, List.getD_eq_getElem?_getD]
theorem reads_rest {W : World} {g i : Nat} {arr : Array Value} {ys : List Int} (hb : W.heap[g]? = some (.cells arr 51 (0, 0))) (hs : arr.size = 10) (hi : i ≤ 9) (hd : arr.toList.drop i = nums .u8 ys) : Kd.C (Kd.int .u8) W (some ⟨g, i, none⟩) (10 - i) ys := by
  have hl : ys.length = 10 - i := by
    have := congrArg List.length hd
    simp [nums] at this
    omega
  refine Kd.C_of_reads (d := 0) ⟨hl, by omega, fun _ => ⟨_, rfl, fun j hj => ?_⟩⟩
  have ha : (⟨g, i, none⟩ : Addr).add j = ⟨g, i + j, none⟩ := by unfold Addr.add; split <;> simp_all
  rw [ha, blk_cell hb, ← Array.getElem?_toList]
  have h2 := nums_at ys j (by omega)
  rw [← hd, List.getElem?_drop] at h2
  exact h2
set_option maxHeartbeats 8000000 in
set_option maxRecDepth 100000 in
theorem vint_Put.calls (P0_ : Nat → Prop) (u9000_ : Value) (l0 : List Int) (a1 : Int) (r : List Int) (w0 w : World) (hB : Below w0.heap.size w0 w) (ho0 : Kd.R (Kd.int .u8) 5 w w0.heap.size P0_ u9000_ l0) (h : vint_Put.f l0 a1 = some r) :
    Calls Try.prog 11 #[u9000_, .int .u64 a1] w fun e w' => ∃ v0_ : Value, e = .returned (v0_) ∧ Kd.R (Kd.int .u8) 5 w' w0.heap.size (fun k_ => (P0_ k_ ∨ w.heap.size ≤ k_)) v0_ r ∧ Below w0.heap.size w0 w' ∧ Kept w w' (fun k_ => P0_ k_) := by
  have hu51 := Try.underlying51
  have HO := Aside0.mk ho0
  have HB0 := Aside0.mk hB
  have HB := Aside0.mk (Below.refl w.heap.size w)
  clear ho0 hB
  obtain ⟨hn0, hn1, hl, hr⟩ := vint_Put.told h
  have H := Aside0.mk hr
  have HL := Aside0.mk hl
  clear h hl hr
  go_enter Try.func11, Try.ntmps11
  go_wp2_with (first | ((with_reducible refine gate_dst (N := 5) rfl ?_); refine box_event ?hg (N := 5) ?hd (cs := #[.int .u8 0, .int .u8 0, .int .u8 0, .int .u8 0, .int .u8 0, .int .u8 0, .int .u8 0, .int .u8 0, .int .u8 0, .int .u8 0]) (t := 51) ?hr ?_; (case hd => rfl); (case hg => rfl); (case hr => first | (go_simp; done) | (go_simp; rfl)); intro gb hg w2 hbox hb; have BK := Aside0.mk hbox; have HB2 := Aside0.mk (below_step HB.out hb); have HG := Aside0.mk (show w.heap.size ≤ gb by rw [hg]; exact Nat.le_refl _); clear HB hbox hb hg))
  go_loopg [1, 6, 7] 10 (fun gk v1 v6 v7 w' => ∃ (n m : Int) (i : Nat) (acc : List Int) (arr : Array Value), v1 = .int .u64 n ∧ v6 = .int .i64 ((i : Int) + 1) ∧ v7 = .int .u8 m ∧
    Aside0 (0 ≤ n ∧ n < 18446744073709551616 ∧ n < 128 ^ (i + 1) ∧ i ≤ 9 ∧ gk = i + 1 ∧ (m = 0 ∨ m = 128)) ∧ Aside0 (l0 ++ putL (i + 1) n m acc = r) ∧
    Aside0 (w'.heap[gb]? = some (.cells arr 51 (0, 0)) ∧ arr.size = 10 ∧ arr.toList.drop (i + 1) = nums .u8 acc) ∧ Aside0 (Below w.heap.size w w'))
  case atStart => exact ⟨a1, 0, 9, [], _, rfl, rfl, rfl, ⟨hn0, hn1, by omega, by omega, rfl, .inl rfl⟩, H, ⟨BK.out, rfl, rfl⟩, HB2⟩
  case round =>
    clear H BK HB2 hn0 hn1
    obtain ⟨n, m, i, acc, arr, rfl, rfl, rfl, HN, H, BK, HB⟩ := hrel
    obtain ⟨hn0, hn1, hn2, hi, hgk, hm⟩ := HN.out
    clear HN
    have HN2 := Aside0.mk hn2
    have Hgk := Aside0.mk hgk
    have Hm := Aside0.mk hm
    clear hn2 hgk hm
    have hand : bits .and .u64 n 127 = n % 128 := by
      rw [u64_and n 127 hn0 hn1 (by omega) (by omega)]
      have : (127 : Int).toNat = 2 ^ 7 - 1 := rfl
      rw [this, Nat.and_two_pow_sub_one_eq_mod]; omega
    have hor : bits .or .u8 (n % 128) m = n % 128 + m := or_more _ _ (by omega) (by omega) Hm.out
    have hi0 : (0 : Int) ≤ (i : Int) := by omega
    have hi9 : (i : Int) ≤ 9 := by omega
    have hi10 : (i : Int) < 10 := by omega
    have hcell : wr.cell? ⟨gb, i, none⟩ = some (arr.getD i undef) := by
      rw [blk_cell BK.out.1 i]
      have := BK.out.2.1
      simp [Array.getD, show i < arr.size by omega]
    have hfr := blk_frozen BK.out.1 i
    have hsl := slice_rest gb i hi
    have BK2 := Aside0.mk (⟨blk_set BK.out.1 i (.int .u8 (n % 128 + m)), by simp [BK.out.2.1], drop_set arr i _ acc BK.out.2.1 hi BK.out.2.2⟩ : (wr.setCell ⟨gb, i, none⟩ (.int .u8 (n % 128 + m))).heap[gb]? = some (.cells (arr.setIfInBounds i (.int .u8 (n % 128 + m))) 51 (0, 0)) ∧ (arr.setIfInBounds i (.int .u8 (n % 128 + m))).size = 10 ∧ ((arr.setIfInBounds i (.int .u8 (n % 128 + m))).toList).drop i = nums .u8 ((n % 128 + m) :: acc))
    have HBw := Aside0.mk (below_set (j := i) (v := .int .u8 (n % 128 + m)) HB.out HG.out)
    by_cases hz : n / 128 = 0
    · have hz0 : (n / 128 == 0) = true := beq_iff_eq.mpr hz
      have hz1 : (n / 128 != 0) = false := bne_eq_false_iff_eq.mpr hz
      have Hr := Aside0.mk (show l0 ++ ((n % 128 + m) :: acc) = r by have h := H.out; simp only [putL] at h; rw [if_pos hz] at h; exact h)
      have HK := Aside0.mk ((Kept.of_below HB.out (fun k_ => P0_ k_)).setCell (p := ⟨gb, i, none⟩) (.inr HG.out) (.int .u8 (n % 128 + m)))
      have HOw := Aside0.mk (Kd.R_mono (ok' := fun k_ => (P0_ k_ ∨ w.heap.size ≤ k_)) (Kd.R_far (p := ⟨gb, i, none⟩) (Kd.R_below (Kd.R_mono (ok' := fun k_ => P0_ k_ ∧ k_ < w.heap.size) (Kd.R_bound HO.out) (fun k hk => ⟨hk.1, hk.2.2.1⟩)) HB.out) (fun k hk => by have := HG.out; have := hk.2; show k ≠ gb; omega) (.int .u8 (n % 128 + m))) (fun k hk => .inl hk.1))
      have HBz := Aside0.mk (below_then HB0.out HB0.out.size HBw.out)
      have HCr := Aside0.mk (reads_rest BK2.out.1 BK2.out.2.1 hi BK2.out.2.2)
      have Hob := Aside0.mk HO.out.1
      have HLn := Aside0.mk (show l0.length + (10 - i) < 140737488355328 by have := HL.out; omega)
      have HS0 := Aside0.mk HB0.out.size
      have HS1 := Aside0.mk HBw.out.size
      clear hz
      go_wp2_with (first | ((with_reducible refine gate_builtin (b := .append) (xs := #[.tmp 21, .tmp 23]) rfl ?_); at_builtin; refine Kd.R_append_row (Value.int .u8) 0 (h1 := fun _ => rfl) (w0 := w0) w0.heap.size rfl (.tmp 21) (.tmp 23) 22 5 (.int .u8 0) 1 rfl Try.underlying22 info5 rfl (by omega) u9000_ l0 ((n % 128 + m) :: acc) (some ⟨gb, i, none⟩) (10 - i) (10 - i) (fun k_ => (P0_ k_ ∨ w.heap.size ≤ k_)) rfl rfl ?aF ?aO ?aR ?aB ?aS ?aL ?_; (case aF => exact fun k hk => .inr (Nat.le_trans HS1.out hk)); (case aO => exact HOw.out); (case aR => exact HCr.out); (case aB => exact HBz.out); (case aS => exact Nat.le_trans HS0.out HS1.out); (case aL => have := HLn.out; omega); intro v1 w1 ho hb hg hat; have RO := Aside0.mk ho; have RB := Aside0.mk hb; have RK := Aside0.mk (Kept.of_grown hg HK.out (fun k hk => .inl (Hob.out k hk))); clear ho hb hg hat))
      go_ret
      exact ⟨v1, rfl, by rw [← Hr.out]; exact RO.out, RB.out, RK.out⟩
    · have hz0 : (n / 128 == 0) = false := beq_eq_false_iff_ne.mpr hz
      have hz1 : (n / 128 != 0) = true := bne_iff_ne.mpr hz
      obtain ⟨i, rfl⟩ : ∃ i', i = i' + 1 := ⟨i - 1, by
        rcases Nat.eq_zero_or_pos i with h0 | h0
        · subst h0; have := HN2.out; simp at this; omega
        · omega⟩
      have Hr := Aside0.mk (show l0 ++ putL (i + 1) (n / 128) 128 ((n % 128 + m) :: acc) = r by have h := H.out; simp only [putL] at h; rw [if_neg hz] at h; exact h)
      have HN3 := Aside0.mk (show n / 128 < 128 ^ (i + 1) by have h := HN2.out; rw [Int.pow_succ] at h; omega)
      clear hz
      go_wp2
      go_roundg (i + 1)
      case measure => have := Hgk.out; omega
      case rel => exact ⟨n / 128, 128, i, (n % 128 + m) :: acc, _, rfl, by first | rfl | (simp; done) | (congr 1; omega), rfl, ⟨by omega, by omega, HN3.out, by omega, rfl, .inr rfl⟩, Hr, BK2, HBw⟩

/-! ### catchwordlaw01_head: function 9 (by hand) -/
def catchwordlaw01_head.f  : Option (Bool) := some true
theorem sum_digits : vint_Sum.f 200 ([49, 50, 51, 52, 53, 54, 55, 56, 57] : List Int) = some 3421780262 := by kernel_rfl
theorem put_300 : vint_Put.f ([] : List Int) 300 = some [130, 44] := by kernel_rfl
theorem lit_reads (W : World) : Kd.C (Kd.int .u8) (W.alloc (.cells #[.int .u8 49, .int .u8 50, .int .u8 51, .int .u8 52, .int .u8 53, .int .u8 54, .int .u8 55, .int .u8 56, .int .u8 57] 5 (9, 10))) (some ⟨W.heap.size, 0, none⟩) ([49, 50, 51, 52, 53, 54, 55, 56, 57] : List Int).length ([49, 50, 51, 52, 53, 54, 55, 56, 57] : List Int) := by
  refine Kd.C_of_reads (d := 0) ⟨rfl, by decide, fun _ => ⟨_, rfl, fun j hj => ?_⟩⟩
  rw [add_plain, cell_of_row _ _ _ _ _ _ (blk_new W _)]
  have hj' : j < 9 := hj
  match j, hj' with
  | 0, _ => rfl
  | 1, _ => rfl
  | 2, _ => rfl
  | 3, _ => rfl
  | 4, _ => rfl
  | 5, _ => rfl
  | 6, _ => rfl
  | 7, _ => rfl
  | 8, _ => rfl
theorem sum_lit (W : World) : Calls Try.prog 10 #[.slice (some ⟨W.heap.size, 0, none⟩) 9 9] (W.alloc (.cells #[.int .u8 49, .int .u8 50, .int .u8 51, .int .u8 52, .int .u8 53, .int .u8 54, .int .u8 55, .int .u8 56, .int .u8 57] 5 (9, 10))) fun e w' => e = .returned (.int .u32 3421780262) ∧ Drawn0 (W.alloc (.cells #[.int .u8 49, .int .u8 50, .int .u8 51, .int .u8 52, .int .u8 53, .int .u8 54, .int .u8 55, .int .u8 56, .int .u8 57] 5 (9, 10))) w' :=
  vint_Sum.calls 200 _ 9 ([49, 50, 51, 52, 53, 54, 55, 56, 57] : List Int) 3421780262 _ (lit_reads W) (by decide) sum_digits
set_option maxHeartbeats 8000000 in
set_option maxRecDepth 100000 in
theorem catchwordlaw01_head.calls  (r : Bool) (w : World) (h : catchwordlaw01_head.f  = some r) :
    Calls Try.prog 9 #[] w fun e w' => e = .returned (.bool r) ∧ Below w.heap.size w w' := by
  obtain rfl : true = r := Option.some.inj h
  clear h
  have HB := Aside0.mk (Below.refl w.heap.size w)
  have kc := fun (W : World) (C : Array Value) (n c : Nat) => Lib.run_convert_bytes_const (P := Try.prog) W 22 5 C n c Try.underlying22 Try.underlying5
  obtain ⟨t105, A1, ht⟩ : ∃ t : List Int, Aside0 (vint_Put.f ([] : List Int) 300 = some t) ∧ t = [130, 44] := ⟨_, ⟨put_300⟩, rfl⟩
  have c2b0 : ((strOfNums t105).toList == ([130, 44] : List UInt8)) = true := by rw [ht]; kernel_rfl
  have c2b1 : ((strOfNums t105).toList != ([130, 44] : List UInt8)) = false := by rw [ht]; kernel_rfl
  clear ht
  go_enter Try.func9, Try.ntmps9
  go_wp2_with (first | ((with_reducible refine gate_callee (f := 11) rfl ?_); refine goesL_ (some 1) rfl rfl Try.func11 (by kernel_rfl) rfl #[.slice none 0 0, .int .u64 300] rfl (by (try simp only [List.map_toArray, List.map_cons, List.map_nil]); first | done | rfl) ?_; (refine (vint_Put.calls (fun k_ => some k_ = (.slice none 0 0 : Value).ownBlock) (.slice none 0 0) ([] : List Int) 300 t105 w _ ?side1 ?side2 A1.out).mono ?_); (case side1 => exact HB.out); (case side2 => exact Kd.R_nil _ _ _ _ _); rintro e w4 ⟨v106, rfl, ho0, hb, hkp⟩; refine ⟨_, rfl, ?_⟩; have HB2 := Aside0.mk hb; have hcv5 := own_string (P := Try.prog) Try.underlying22 Try.underlying5 Try.underlying9 (Kd.own_of_R ho0); clear hb hkp ho0) | (go_at_call 10; (with_reducible refine (sum_lit _).mono ?_); rintro e w' ⟨rfl, ⟨nd, rfl⟩⟩))
  go_ret
  exact ⟨by first | rfl | (simp; done), by repeat (first | exact HB2.out | apply below_alloc | apply pw_below_drewN | apply below_drew1)⟩

/-! ### catchwordlaw01_VintSums: function 3 -/
mutual
def catchwordlaw01_VintSums.j0 : Nat → List Int → Int → Int → Bool → Option (Bool)
  | 0, _, _, _, _ => none
  | k + 1, x0, x1, x2, x22 => if x22 = true then (some true) else (if (wrap64 ((x0.length : Int) - 3)) = 0 then (none) else ((some (([] : List Int) : List Int)).bind fun y109 => (if y109.length + x0.length < 140737488355328 then (catchwordlaw01_VintSums.l0 k x0 (Int.tmod (Go.bits .and .i64 x1 65535) (wrap64 ((x0.length : Int) - 3))) x2 (y109 ++ x0) 0) else (none))))
def catchwordlaw01_VintSums.l0 : Nat → List Int → Int → Int → List Int → Int → Option (Bool)
  | 0, _, _, _, _, _ => none
  | k + 1, x0, x1, x2, x7, x8 => if x8 < 4 then (if 0 ≤ (wrap64 (x1 + x8)) then (if (wrap64 (x1 + x8)) < (x7.length : Int) then (if 0 ≤ (IntKind.u64.wrap (wrap64 (8 * x8))) then (catchwordlaw01_VintSums.l0 k x0 x1 x2 (x7.set ((wrap64 (x1 + x8)) : Int).toNat (Go.bits .xor .u8 (rd x7 (wrap64 (x1 + x8))) ((shr .u32 x2 (IntKind.u64.wrap (wrap64 (8 * x8)))) % 256))) (wrap64 (x8 + 1))) else (none)) else (none)) else (none)) else ((vint_Sum.f k x0).bind fun t117 => ((vint_Sum.f k x7).bind fun t118 => (some (t117 != t118))))
end
def catchwordlaw01_VintSums.f (k : Nat) (l0 : List Int) (a1 : Int) (a2 : Int) : Option (Bool) := (catchwordlaw01_head.f).bind fun t108 => (if t108 = true then (if (l0.length : Int) < 4 then (catchwordlaw01_VintSums.j0 k l0 a1 a2 true) else (if (l0.length : Int) > 200 then (catchwordlaw01_VintSums.j0 k l0 a1 a2 true) else (catchwordlaw01_VintSums.j0 k l0 a1 a2 (a2 == 0)))) else (some false))
theorem catchwordlaw01_VintSums.mono_l : ∀ k, (∀ y0 y1 y2 y3, LeO (catchwordlaw01_VintSums.j0 k y0 y1 y2 y3) (catchwordlaw01_VintSums.j0 (k + 1) y0 y1 y2 y3)) ∧ (∀ y0 y1 y2 y3 y4, LeO (catchwordlaw01_VintSums.l0 k y0 y1 y2 y3 y4) (catchwordlaw01_VintSums.l0 (k + 1) y0 y1 y2 y3 y4))
  | 0 => ⟨fun _ _ _ _ r h => by simp [catchwordlaw01_VintSums.j0] at h, fun _ _ _ _ _ r h => by simp [catchwordlaw01_VintSums.l0] at h⟩
  | k + 1 => by
    obtain ⟨ih0, ih1⟩ := catchwordlaw01_VintSums.mono_l k
    refine ⟨?_, ?_⟩
    · intro y0 y1 y2 y3
      unfold catchwordlaw01_VintSums.j0
      repeat' first
      | (with_reducible exact ih0 _ _ _ _)
      | (with_reducible exact ih1 _ _ _ _ _)
      | (with_reducible exact vint_Sum.mono _ _)
      | (with_reducible exact LeO.refl _)
      | (with_reducible exact LeO.none _)
      | (with_reducible refine LeO.ite ?_ ?_)
      | (with_reducible refine LeO.bind ?_ (fun _ => ?_))
      | exact ih0 _ _ _ _
      | exact ih1 _ _ _ _ _
      | exact vint_Sum.mono _ _
      | exact LeO.none _
      | refine LeO.ite ?_ ?_
      | refine LeO.bind ?_ (fun _ => ?_)
    · intro y0 y1 y2 y3 y4
      unfold catchwordlaw01_VintSums.l0
      repeat' first
      | (with_reducible exact ih0 _ _ _ _)
      | (with_reducible exact ih1 _ _ _ _ _)
      | (with_reducible exact vint_Sum.mono _ _)
      | (with_reducible exact LeO.refl _)
      | (with_reducible exact LeO.none _)
      | (with_reducible refine LeO.ite ?_ ?_)
      | (with_reducible refine LeO.bind ?_ (fun _ => ?_))
      | exact ih0 _ _ _ _
      | exact ih1 _ _ _ _ _
      | exact vint_Sum.mono _ _
      | exact LeO.none _
      | refine LeO.ite ?_ ?_
      | refine LeO.bind ?_ (fun _ => ?_)
theorem catchwordlaw01_VintSums.mono : ∀ a0 a1 a2 k, LeO (catchwordlaw01_VintSums.f k a0 a1 a2) (catchwordlaw01_VintSums.f (k + 1) a0 a1 a2) := by
  intro a0 a1 a2 k
  obtain ⟨ih0, ih1⟩ := catchwordlaw01_VintSums.mono_l k
  unfold catchwordlaw01_VintSums.f
  repeat' first
      | (with_reducible exact ih0 _ _ _ _)
      | (with_reducible exact ih1 _ _ _ _ _)
      | (with_reducible exact vint_Sum.mono _ _)
      | (with_reducible exact LeO.refl _)
      | (with_reducible exact LeO.none _)
      | (with_reducible refine LeO.ite ?_ ?_)
      | (with_reducible refine LeO.bind ?_ (fun _ => ?_))
      | exact ih0 _ _ _ _
      | exact ih1 _ _ _ _ _
      | exact vint_Sum.mono _ _
      | exact LeO.none _
      | refine LeO.ite ?_ ?_
      | refine LeO.bind ?_ (fun _ => ?_)
set_option maxHeartbeats 8000000 in
set_option maxRecDepth 100000 in
theorem catchwordlaw01_VintSums.calls (k : Nat) (A0 : Option Addr) (c0 : Nat) (l0 : List Int) (a1 : Int) (a2 : Int) (r : Bool) (w : World) (hr0 : Kd.C (Kd.int .u8) w A0 l0.length l0) (hc0 : l0.length ≤ c0) (h : catchwordlaw01_VintSums.f k l0 a1 a2 = some r) :
    Calls Try.prog 3 #[.slice A0 l0.length c0, .int .i64 a1, .int .u32 a2] w fun e w' => e = .returned (.bool r) ∧ Below w.heap.size w w' := by
  have HR0 := Aside0.mk hr0
  have HC0 := Aside0.mk hc0
  clear hr0 hc0
  have HB := Aside0.mk (Below.refl w.heap.size w)
  have H : ((catchwordlaw01_head.f).bind fun t108 => (if t108 = true then (if (l0.length : Int) < 4 then (catchwordlaw01_VintSums.j0 k l0 a1 a2 true) else (if (l0.length : Int) > 200 then (catchwordlaw01_VintSums.j0 k l0 a1 a2 true) else (catchwordlaw01_VintSums.j0 k l0 a1 a2 (a2 == 0)))) else (some false))) = some r := h
  clear h
  replace H := Option.bind_eq_some_iff.mp H
  obtain ⟨t108, A40, H⟩ := H
  replace H : (if t108 = true then (if (l0.length : Int) < 4 then (catchwordlaw01_VintSums.j0 k l0 a1 a2 true) else (if (l0.length : Int) > 200 then (catchwordlaw01_VintSums.j0 k l0 a1 a2 true) else (catchwordlaw01_VintSums.j0 k l0 a1 a2 (a2 == 0)))) else (some false)) = some r := H
  have A4 := Aside0.mk A40
  clear A40
  by_cases c5 : t108 = true
  · subst c5
    have H1 : (if (l0.length : Int) < 4 then (catchwordlaw01_VintSums.j0 k l0 a1 a2 true) else (if (l0.length : Int) > 200 then (catchwordlaw01_VintSums.j0 k l0 a1 a2 true) else (catchwordlaw01_VintSums.j0 k l0 a1 a2 (a2 == 0)))) = some r := by rw [if_pos rfl] at H; exact H
    clear H
    have H := H1
    clear H1
    have HC6 := Aside0.mk H
    clear H
    go_enter Try.func3, Try.ntmps3
    go_upto_region 3 with (first | ((with_reducible refine gate_callee (f := 9) rfl ?_); refine goesL_ (some 9) rfl rfl Try.func9 (by kernel_rfl) rfl #[] rfl (by (try simp only [List.map_toArray, List.map_cons, List.map_nil]); first | done | rfl | (simp only [List.length_drop, List.length_take]; rfl)) ?_; (with_reducible refine (catchwordlaw01_head.calls  true _ A4.out).mono ?_); rintro e w7 ⟨rfl, hb⟩; refine ⟨_, rfl, ?_⟩; have n0_ := Aside0.mk (below_step (by repeat (first | (with_reducible first | exact HB.out | apply below_alloc | apply pw_below_drewN | apply below_drew1) | exact HB.out)) hb); clear HB; have HB := n0_; clear n0_; (try clear hb); (try clear hb2); (try clear hk); (try clear hi)))
    (try simp only [Act.put, List.setIfInBounds_toArray, List.set_cons_zero, List.set_cons_succ])
    go_cut [22] (fun v22 wc => ∃ (kq : Nat) (x22_5 : Bool), v22 = .bool x22_5 ∧ Aside0 (catchwordlaw01_VintSums.j0 kq l0 a1 a2 x22_5 = some r) ∧ Aside0 (kq ≤ k) ∧ Aside0 (Below w.heap.size w wc))
    case first =>
      have H := HC6.out
      clear HC6
      by_cases c8 : (l0.length : Int) < 4
      · rw [if_pos c8] at H
        have c8b0 : decide ((l0.length : Int) < 4) = true := decide_eq_true c8
        have c8b1 : decide (l0.length < 4) = true := decide_eq_true (by omega)
        clear c8
        (first | rw [c8b0] | (simp only [i64_w, i32_w]; rw [c8b0]) | skip)
        have H' := Aside0.mk H
        clear H
        go_wp2
        go_meet
        case rel => exact ⟨_, (true), (by first | rfl | (simp; done) | (simp [*]; done)), H', ⟨by first | omega | exact Nat.le_refl _⟩, ⟨by repeat (first | (with_reducible first | exact HB.out | apply below_alloc | apply pw_below_drewN | apply below_drew1) | exact HB.out)⟩⟩
      · rw [if_neg c8] at H
        have c8b0 : decide ((l0.length : Int) < 4) = false := decide_eq_false c8
        have c8b1 : decide (l0.length < 4) = false := decide_eq_false (by omega)
        clear c8
        (first | rw [c8b0] | (simp only [i64_w, i32_w]; rw [c8b0]) | skip)
        by_cases c9 : (l0.length : Int) > 200
        · rw [if_pos c9] at H
          have c9b0 : decide (200 < (l0.length : Int)) = true := decide_eq_true c9
          have c9b1 : decide (200 < l0.length) = true := decide_eq_true (by omega)
          clear c9
          have H' := Aside0.mk H
          clear H
          go_wp2
          go_meet
          case rel => exact ⟨_, (true), (by first | rfl | (simp; done) | (simp [*]; done)), H', ⟨by first | omega | exact Nat.le_refl _⟩, ⟨by repeat (first | (with_reducible first | exact HB.out | apply below_alloc | apply pw_below_drewN | apply below_drew1) | exact HB.out)⟩⟩
        · rw [if_neg c9] at H
          have c9b0 : decide (200 < (l0.length : Int)) = false := decide_eq_false c9
          have c9b1 : decide (200 < l0.length) = false := decide_eq_false (by omega)
          clear c9
          have H' := Aside0.mk H
          clear H
          go_wp2
          go_meet
          case rel => exact ⟨_, ((a2 == 0)), (by first | rfl | (simp; done) | (simp [*]; done)), H', ⟨by first | omega | exact Nat.le_refl _⟩, ⟨by repeat (first | (with_reducible first | exact HB.out | apply below_alloc | apply pw_below_drewN | apply below_drew1) | exact HB.out)⟩⟩
    case rest =>
      clear HC6
      try clear p2
      try clear c3
      try clear c5
      try clear c8
      try clear c8b0
      try clear c8b1
      try clear c9
      try clear c9b0
      try clear c9b1
      obtain ⟨kq, x22_5, rfl, HA, HJ5, HB⟩ := hcut
      cases kq with
      | zero => exact absurd HA.out (by simp [catchwordlaw01_VintSums.j0])
      | succ kj5 =>
        have H := HA.out
        clear HA
        simp only [catchwordlaw01_VintSums.j0] at H
        by_cases c10 : x22_5 = true
        · subst c10
          have H1 : (some true) = some r := by rw [if_pos rfl] at H; exact H
          clear H
          have H := H1
          clear H1
          obtain rfl := Option.some.inj H
          go_wp2
          go_ret
          exact ⟨by first | rfl | (simp [errW_none, errW_some] <;> rfl) | (simp [*, errW_none, errW_some] <;> rfl), by repeat (first | (with_reducible first | exact HB.out | apply below_alloc | apply pw_below_drewN | apply below_drew1) | exact HB.out)⟩
        · replace c10 := Bool.eq_false_iff.mpr c10
          subst c10
          have H1 : (if (wrap64 ((l0.length : Int) - 3)) = 0 then (none) else ((some (([] : List Int) : List Int)).bind fun y109 => (if y109.length + l0.length < 140737488355328 then (catchwordlaw01_VintSums.l0 kj5 l0 (Int.tmod (Go.bits .and .i64 a1 65535) (wrap64 ((l0.length : Int) - 3))) a2 (y109 ++ l0) 0) else (none)))) = some r := by rw [if_neg (show ¬ (false = true) by decide)] at H; exact H
          clear H
          have H := H1
          clear H1
          by_cases c11 : (wrap64 ((l0.length : Int) - 3)) = 0
          · rw [if_pos c11] at H
            exact absurd H (by simp)
          · rw [if_neg c11] at H
            have c11b0 : ((wrap64 ((l0.length : Int) - 3)) == 0) = false := beq_eq_false_iff_ne.mpr c11
            have c11b1 : ((wrap64 ((l0.length : Int) - 3)) != 0) = true := bne_iff_ne.mpr c11
            obtain ⟨y109, hy109⟩ : ∃ y_ : List Int, y_ = (([] : List Int)) := ⟨_, rfl⟩
            replace H : (if y109.length + l0.length < 140737488355328 then (catchwordlaw01_VintSums.l0 kj5 l0 (Int.tmod (Go.bits .and .i64 a1 65535) (wrap64 ((l0.length : Int) - 3))) a2 (y109 ++ l0) 0) else (none)) = some r := by first | (rw [hy109]; with_reducible exact H) | (have H2_ := (Option.bind_some _ _).symm.trans H; rw [hy109]; with_reducible exact H2_) | (have H2_ := (Option.bind_some _ _).symm.trans H; with_reducible exact H2_) | with_reducible exact H | (rw [hy109]; exact H) | exact H
            have Ny109 := Aside0.mk hy109
            clear hy109
            by_cases c12 : y109.length + l0.length < 140737488355328
            · rw [if_pos c12] at H
              have LMc12 := Aside0.mk c12
              clear c12
              obtain ⟨y112, hy112⟩ : ∃ y_ : List Int, y_ = (y109 ++ l0) := ⟨_, rfl⟩
              replace H : (catchwordlaw01_VintSums.l0 kj5 l0 (Int.tmod (Go.bits .and .i64 a1 65535) (wrap64 ((l0.length : Int) - 3))) a2 y112 0) = some r := by first | (rw [hy112]; with_reducible exact H) | (have H2_ := (Option.bind_some _ _).symm.trans H; rw [hy112]; with_reducible exact H2_) | (have H2_ := (Option.bind_some _ _).symm.trans H; with_reducible exact H2_) | with_reducible exact H | (rw [hy112]; exact H) | exact H
              have Ny112 := Aside0.mk hy112
              clear hy112
              have H' := Aside0.mk H
              clear H
              go_wp2_with (first | ((with_reducible refine gate_dst (N := 29) rfl ?_); (try (refine gate_guard (by rfl) ?_; dsimp only)); refine Kd.R_lit (Kd.int .u8) _ 5 ?hg (N := 29) ?hd (xs := ([] : List Int)) (inner := []) (ok := fun _ => True) (okp := fun _ => True) ?hr ?hp (fun _ hk => hk) trivial (Below.refl _ _) (Nat.le_refl _) (by simp) ?_; (case hd => rfl); (case hg => rfl); (case hr => first | (go_simp; done) | (go_simp; rfl)); (case hp => exact (Reps.none _ _)); intro v110 w13 ho14 hb hg_ hnew_; clear hg_ hnew_; (first | rw [← Ny109.out] at ho14 | (simp only [Int.reduceToNat] at ho14; rw [← Ny109.out] at ho14)); have n0_ := Aside0.mk (Kd.R_lower ho14 (below_size (by repeat (first | (with_reducible first | exact HB.out | apply below_alloc | apply pw_below_drewN | apply below_drew1) | exact HB.out)))); have n1_ := Aside0.mk (below_step (by repeat (first | (with_reducible first | exact HB.out | apply below_alloc | apply pw_below_drewN | apply below_drew1) | exact HB.out)) hb); clear HB; have HO111 := n0_; have HB := n1_; clear n0_ n1_; clear hb ho14) | ((with_reducible refine gate_builtin (b := .append) (xs := #[.tmp 29, .tmp 30]) rfl ?_); (try (refine gate_guard (by rfl) ?_; dsimp only)); at_builtin; refine Kd.R_append_rows (Kd.int .u8) (w0 := w) w.heap.size rfl (.tmp 29) (.tmp 30) 22 5 (.int .u8 0) 1 rfl Try.underlying22 info5 rfl (by decide) (by omega) v110 y109 l0 _ _ _ (fun _ => True) (fun _ => False) rfl rfl ?aO ?aR (fun _ _ h => h) (fun _ h => h.elim) ?aF ?aB ?aS ?aL ?_; (case aR => repeat (first | exact (Kd.C_below HR0.out HB.out) | (with_reducible refine Kd.C_alloc ?_ _) | (with_reducible refine Kd.C_drewN ?_ _) | (with_reducible refine Kd.C_drew ?_))); (case aB => exact (by repeat (first | (with_reducible first | exact HB.out | apply below_alloc | apply pw_below_drewN | apply below_drew1) | exact HB.out))); (case aF => exact (fun _ _ => trivial)); (case aO => exact (by (with_reducible repeat (first | apply Kd.R_alloc | apply Kd.R_drewN | apply Kd.R_drew)); exact HO111.out)); (case aS => exact (below_size (by repeat (first | (with_reducible first | exact HB.out | apply below_alloc | apply pw_below_drewN | apply below_drew1) | exact HB.out)))); (case aL => have := LMc12.out; omega); intro v113 w15 ho hb hg hat; rw [← Ny112.out] at ho; have n0_ := Aside0.mk (hb); have n1_ := Aside0.mk (ho); clear HB; clear HO111; have HB := n0_; have HO114 := n1_; clear n0_ n1_; clear ho hb hg hat))
              go_loopg [8] kj5 (fun kq v8 w' => ∃ (x7_2 : List Int) (x8_2 : Int), v8 = .int .i64 x8_2 ∧ Aside0 (catchwordlaw01_VintSums.l0 kq l0 (Int.tmod (Go.bits .and .i64 a1 65535) (wrap64 ((l0.length : Int) - 3))) a2 x7_2 x8_2 = some r) ∧ Aside0 (kq ≤ kj5) ∧ Aside0 (Kd.R (Kd.int .u8) 5 w' w.heap.size (fun _ => True) v113 x7_2) ∧ Aside0 (Below w.heap.size w w'))
              case atStart => exact ⟨(y112), (0), (by first | rfl | (simp; done) | (simp [*]; done)), H', ⟨Nat.le_refl _⟩, ⟨by (with_reducible repeat (first | apply Kd.R_alloc | apply Kd.R_drewN | apply Kd.R_drew)); exact HO114.out⟩, ⟨by repeat (first | (with_reducible first | exact HB.out | apply below_alloc | apply pw_below_drewN | apply below_drew1) | exact HB.out)⟩⟩
              case round =>
                clear H'
                try clear c1
                try clear p2
                try clear c3
                try clear c5
                try clear p6
                try clear c8
                try clear c8b0
                try clear c8b1
                try clear c9
                try clear c9b0
                try clear c9b1
                try clear c10
                try clear c11
                try clear c11b0
                try clear c11b1
                try clear c12
                try clear p2
                obtain ⟨x7_2, x8_2, rfl, HA, HK2, HO_7, HB⟩ := hrel
                cases gk with
                | zero => exact absurd HA.out (by simp [catchwordlaw01_VintSums.l0])
                | succ k2 =>
                  have H := HA.out
                  clear HA
                  simp only [catchwordlaw01_VintSums.l0] at H
                  by_cases c16 : x8_2 < 4
                  · rw [if_pos c16] at H
                    have c16b0 : decide (x8_2 < 4) = true := decide_eq_true c16
                    clear c16
                    obtain ⟨ji17, hji17⟩ : ∃ j_ : Int, (wrap64 ((Int.tmod (Go.bits .and .i64 a1 65535) (wrap64 ((l0.length : Int) - 3))) + x8_2)) = j_ := ⟨_, rfl⟩
                    replace H : (if 0 ≤ (ji17) then (if (ji17) < (x7_2.length : Int) then (if 0 ≤ (IntKind.u64.wrap (wrap64 (8 * x8_2))) then (catchwordlaw01_VintSums.l0 k2 l0 (Int.tmod (Go.bits .and .i64 a1 65535) (wrap64 ((l0.length : Int) - 3))) a2 (x7_2.set ((ji17) : Int).toNat (Go.bits .xor .u8 (rd x7_2 (ji17)) ((shr .u32 a2 (IntKind.u64.wrap (wrap64 (8 * x8_2)))) % 256))) (wrap64 (x8_2 + 1))) else (none)) else (none)) else (none)) = some r := by first | (rw [hji17] at H; exact H) | (simp only [hji17] at H ⊢; exact H)
                    have hji17w : (IntKind.i64.wrap ((Int.tmod (Go.bits .and .i64 a1 65535) (wrap64 ((l0.length : Int) - 3))) + x8_2)) = ji17 := (i64_w _).trans hji17
                    by_cases c18 : 0 ≤ (ji17)
                    · rw [if_pos c18] at H
                      have c18b0 : decide (0 ≤ (ji17)) = true := decide_eq_true c18
                      clear c18
                      by_cases c19 : (ji17) < (x7_2.length : Int)
                      · rw [if_pos c19] at H
                        have c19b0 : decide ((ji17) < (x7_2.length : Int)) = true := decide_eq_true c19
                        clear c19
                        obtain ⟨ji20, hji20⟩ : ∃ j_ : Int, (IntKind.u64.wrap (wrap64 (8 * x8_2))) = j_ := ⟨_, rfl⟩
                        replace H : (if 0 ≤ (ji20) then (catchwordlaw01_VintSums.l0 k2 l0 (Int.tmod (Go.bits .and .i64 a1 65535) (wrap64 ((l0.length : Int) - 3))) a2 (x7_2.set ((ji17) : Int).toNat (Go.bits .xor .u8 (rd x7_2 (ji17)) ((shr .u32 a2 (ji20)) % 256))) (wrap64 (x8_2 + 1))) else (none)) = some r := by first | (rw [hji20] at H; exact H) | (simp only [hji20] at H ⊢; exact H)
                        by_cases c21 : 0 ≤ (ji20)
                        · rw [if_pos c21] at H
                          have c21b0 := eq_true c21
                          have c21b1 : decide (0 ≤ (ji20)) = true := decide_eq_true c21
                          clear c21
                          obtain ⟨ji22, hji22⟩ : ∃ j_ : Int, (shr .u32 a2 (ji20)) = j_ := ⟨_, rfl⟩
                          replace H : (catchwordlaw01_VintSums.l0 k2 l0 (Int.tmod (Go.bits .and .i64 a1 65535) (wrap64 ((l0.length : Int) - 3))) a2 (x7_2.set ((ji17) : Int).toNat (Go.bits .xor .u8 (rd x7_2 (ji17)) ((ji22) % 256))) (wrap64 (x8_2 + 1))) = some r := by first | (rw [hji22] at H; exact H) | (simp only [hji22] at H ⊢; exact H)
                          have hji22_ : (a2 / 2 ^ min (ji20).toNat 32) = ji22 := hji22
                          have hji22z : (ji20) ≤ 32 → (a2 / 2 ^ (ji20).toNat) = ji22 := shr_small hji22
                          obtain ⟨y116, hy116⟩ : ∃ y_ : List Int, y_ = (x7_2.set ((ji17) : Int).toNat (Go.bits .xor .u8 (rd x7_2 (ji17)) ((ji22) % 256))) := ⟨_, rfl⟩
                          replace H : (catchwordlaw01_VintSums.l0 k2 l0 (Int.tmod (Go.bits .and .i64 a1 65535) (wrap64 ((l0.length : Int) - 3))) a2 y116 (wrap64 (x8_2 + 1))) = some r := by first | (rw [hy116]; with_reducible exact H) | (have H2_ := (Option.bind_some _ _).symm.trans H; rw [hy116]; with_reducible exact H2_) | (have H2_ := (Option.bind_some _ _).symm.trans H; with_reducible exact H2_) | with_reducible exact H | (rw [hy116]; exact H) | exact H
                          have Ny116 := Aside0.mk hy116
                          clear hy116
                          have H' := Aside0.mk H
                          clear H
                          obtain ⟨Ao24, co24, eo24⟩ := Kd.R_slice HO_7.out
                          subst eo24
                          have p115 : 0 ≤ ((ji17) : Int) := of_decide_eq_true (by first | (with_reducible assumption) | assumption)
                          have q115 : (ji17) < (x7_2.length : Int) := of_decide_eq_true (by first | (with_reducible assumption) | assumption)
                          obtain ⟨ad115, e115, hx115_0⟩ := Kd.at_int (Kd.R_reads' HO_7.out).2.2 (ji17) p115 q115
                          cases e115
                          replace p115 := eq_true p115
                          replace q115 := eq_true q115
                          have p23 : 0 ≤ ((ji17) : Int) := of_decide_eq_true (by first | (with_reducible assumption) | assumption)
                          have q23 : ((ji17) : Int) < ((x7_2.length : Int) : Int) := of_decide_eq_true (by first | (with_reducible assumption) | assumption)
                          obtain ⟨go23, co23, eo23, gb23, gl23, cl23, HG23⟩ := Kd.R_form HO_7.out (by omega)
                          (first | cases eo23 | (injection eo23 with ea_ en_ ec_; (first | subst ea_ | (injection ea_ with ea_; subst ea_)); subst ec_; clear en_))
                          have GB23 := Aside0.mk gb23
                          have GG23 := Aside0.mk HG23
                          clear gb23 gl23 HG23
                          (first | simp only [add_plain] at hx115_0 | skip)
                          obtain ⟨hx23_0, hf23_0⟩ := Kd.R_celln 0 HO_7.out ((ji17) : Int) p23 q23
                          replace p23 := eq_true p23
                          replace q23 := eq_true q23
                          have HP25 := Kd.R_putg HO_7.out ((ji17) : Int) (Go.bits .xor .u8 (rd x7_2 (ji17)) ((ji22) % 256))
                          go_wp2_with (first | ((with_reducible refine gate_store (t := 5) (p := 49) rfl ?_); refine store_event (t := 5) (p := 49) (v := ?vo_w26) (w1 := (wr.setCell ⟨go23, ((ji17) : Int).toNat, none⟩ (.int .u8 (Go.bits .xor .u8 (rd x7_2 (ji17)) ((ji22) % 256))))) ?hg ?ho ?hn ?hr ?_; (case ho => rfl); (case hg => rfl); (case hn => rfl); (case hr => first | (go_simp; done) | (go_simp; rfl)); intro w26 hw; have hg : wr.grownBy w26 (some go23) := (by rw [hw]; exact HP25.2); have hp_ : Kd.R (Kd.int .u8) 5 w26 w.heap.size (fun _ => True) (.slice (some ⟨go23, 0, none⟩) x7_2.length co24) y116 := (by rw [hw, Ny116.out]; exact HP25.1); clear HP25; have n0_ := Aside0.mk (hp_); have n1_ := Aside0.mk ((by rw [hw]; exact below_set (HB.out) GB23.out : Below w.heap.size w w26)); clear HO_7; clear HB; have HO_7 := n0_; have HB := n1_; clear n0_ n1_; clear hg hw hp_))
                          go_roundg k2
                          case measure => have := HJ5.out; have := HK2.out; omega
                          case rel => exact ⟨(y116), (wrap64 (x8_2 + 1)), (by first | rfl | (simp; done) | (simp [*]; done)), H', ⟨by have := HJ5.out; have := HK2.out; omega⟩, ⟨by (with_reducible repeat (first | apply Kd.R_alloc | apply Kd.R_drewN | apply Kd.R_drew)); exact HO_7.out⟩, ⟨by repeat (first | (with_reducible first | exact HB.out | apply below_alloc | apply pw_below_drewN | apply below_drew1) | exact HB.out)⟩⟩
                        · rw [if_neg c21] at H
                          exact absurd H (by simp)
                      · rw [if_neg c19] at H
                        exact absurd H (by simp)
                    · rw [if_neg c18] at H
                      exact absurd H (by simp)
                  · rw [if_neg c16] at H
                    have c16b0 : decide (x8_2 < 4) = false := decide_eq_false c16
                    clear c16
                    replace H := Option.bind_eq_some_iff.mp H
                    obtain ⟨t117, A270, H⟩ := H
                    replace H : ((vint_Sum.f k2 x7_2).bind fun t118 => (some (t117 != t118))) = some r := H
                    have A27 := Aside0.mk A270
                    clear A270
                    replace H := Option.bind_eq_some_iff.mp H
                    obtain ⟨t118, A280, H⟩ := H
                    replace H : (some (t117 != t118)) = some r := H
                    have A28 := Aside0.mk A280
                    clear A280
                    obtain rfl := Option.some.inj H
                    go_wp2_with (first | ((with_reducible refine gate_callee (f := 10) rfl ?_); refine goesL_ (some 51) rfl rfl Try.func10 (by kernel_rfl) rfl #[.slice A0 l0.length c0] rfl (by (try simp only [List.map_toArray, List.map_cons, List.map_nil]); first | done | rfl | (simp only [List.length_drop, List.length_take]; rfl)) ?_; (with_reducible refine (vint_Sum.calls k2 _ _ l0 t117 _ ?side1 ?side2 A27.out).mono ?_); (case side1 => repeat (first | exact (Kd.C_below HR0.out HB.out) | (with_reducible refine Kd.C_alloc ?_ _) | (with_reducible refine Kd.C_drewN ?_ _) | (with_reducible refine Kd.C_drew ?_))); (case side2 => exact HC0.out); rintro e w' ⟨rfl, ⟨nd, rfl⟩⟩; refine ⟨_, rfl, ?_⟩; obtain ⟨Ao29, co29, eo29⟩ := Kd.R_slice HO_7.out; subst eo29) | ((with_reducible refine gate_callee (f := 10) rfl ?_); refine goesL_ (some 53) rfl rfl Try.func10 (by kernel_rfl) rfl #[.slice Ao29 x7_2.length co29] rfl (by (try simp only [List.map_toArray, List.map_cons, List.map_nil]); first | done | rfl | (simp only [List.length_drop, List.length_take]; rfl)) ?_; (with_reducible refine (vint_Sum.calls k2 _ _ x7_2 t118 _ ?side1 ?side2 A28.out).mono ?_); (case side1 => repeat (first | exact (Kd.R_reads' HO_7.out).2.2 | (with_reducible refine Kd.C_alloc ?_ _) | (with_reducible refine Kd.C_drewN ?_ _) | (with_reducible refine Kd.C_drew ?_))); (case side2 => exact (Kd.R_reads' HO_7.out).2.1); rintro e w' ⟨rfl, ⟨nd, rfl⟩⟩; refine ⟨_, rfl, ?_⟩))
                    go_ret
                    exact ⟨by first | rfl | (simp [errW_none, errW_some] <;> rfl) | (simp [*, errW_none, errW_some] <;> rfl), by repeat (first | (with_reducible first | exact HB.out | apply below_alloc | apply pw_below_drewN | apply below_drew1) | exact HB.out)⟩
            · rw [if_neg c12] at H
              exact absurd H (by simp)
  · replace c5 := Bool.eq_false_iff.mpr c5
    subst c5
    have H1 : (some false) = some r := by rw [if_neg (show ¬ (false = true) by decide)] at H; exact H
    clear H
    have H := H1
    clear H1
    obtain rfl := Option.some.inj H
    go_enter Try.func3, Try.ntmps3
    go_wp2_with (first | ((with_reducible refine gate_callee (f := 9) rfl ?_); refine goesL_ (some 9) rfl rfl Try.func9 (by kernel_rfl) rfl #[] rfl (by (try simp only [List.map_toArray, List.map_cons, List.map_nil]); first | done | rfl | (simp only [List.length_drop, List.length_take]; rfl)) ?_; (with_reducible refine (catchwordlaw01_head.calls  false _ A4.out).mono ?_); rintro e w30 ⟨rfl, hb⟩; refine ⟨_, rfl, ?_⟩; have n0_ := Aside0.mk (below_step (by repeat (first | (with_reducible first | exact HB.out | apply below_alloc | apply pw_below_drewN | apply below_drew1) | exact HB.out)) hb); clear HB; have HB := n0_; clear n0_; (try clear hb); (try clear hb2); (try clear hk); (try clear hi)))
    go_ret
    exact ⟨by first | rfl | (simp [errW_none, errW_some] <;> rfl) | (simp [*, errW_none, errW_some] <;> rfl), by repeat (first | (with_reducible first | exact HB.out | apply below_alloc | apply pw_below_drewN | apply below_drew1) | exact HB.out)⟩

/-- THE ONE PURE STATEMENT of catchwordlaw01_VintSums: yours. -/
def catchwordlaw01_VintSums.Pure : Prop := ∀ (l0 : List Int) (a1 : Int) (a2 : Int), l0.length ≤ maxLen → l0.length * 1 ≤ 140737488351232 → (∀ x ∈ l0, (Lit.int .u8 x).wf = true) → (Lit.int .i64 a1).wf = true → (Lit.int .u32 a2).wf = true → ∃ k, catchwordlaw01_VintSums.f k l0 a1 a2 = some true
theorem catchwordlaw01_VintSums.walk (P : catchwordlaw01_VintSums.Pure) (a0 : Option Addr) (len0 cap0 : Nat) (z0 : List Int) (a1 : Int) (a2 : Int) (w : World) (w0 : (a0 = none ∧ len0 = 0 ∧ cap0 = 0 ∧ z0 = []) ∨ ∃ x, a0 = some x ∧ len0 ≤ cap0 ∧ cap0 ≤ maxLen ∧ z0.length = cap0 ∧ (∀ i, i < z0.length → w.cell? (x.add i) = some (.int .u8 (z0.getD i 0))) ∧ ∀ n ∈ z0, (Lit.int .u8 n).wf = true) (y0 : len0 * 1 ≤ 140737488351232) (w1 : (Lit.int .i64 a1).wf = true) (w2 : (Lit.int .u32 a2).wf = true) :
    Calls Try.prog 3 #[.slice a0 len0 cap0, .int .i64 a1, .int .u32 a2] w fun e w' => e = .returned (.bool true) ∧ Below w.heap.size w w' := by
  obtain ⟨l0, rfl, hr0, hm0, hw0, hc0⟩ := ReadsInt.ofRowC w0
  obtain ⟨k, h⟩ := P l0 a1 a2 hm0 y0 hw0 w1 w2
  refine (catchwordlaw01_VintSums.calls k _ _ l0 a1 a2 true w (Kd.C_of_reads (d := (0 : Int)) (h1 := fun _ => rfl) hr0) hc0 h).mono ?_
  rintro e w' ⟨rfl, hd⟩
  exact ⟨rfl, hd⟩

end Go.Proofs.Ytgmbefkbonaodaa.QV
