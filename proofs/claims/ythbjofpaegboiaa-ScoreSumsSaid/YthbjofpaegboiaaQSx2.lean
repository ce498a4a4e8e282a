/- The walks of Go functions and their mirrors (Q..), or a row over a Pure (Law..), written by the program of this session: a private copy of the print, turned (wip/patch_print.py). No condition beyond what each theorem says. -/
import Derived.Test.YthbjofpaegboiaaQSx0
import Derived.Test.YthbjofpaegboiaaQSx1
namespace Go.Proofs.Ythbjofpaegboiaa.QS
open Go.RowKit Go.Proofs.YthbjofpaegboiaaW.PrintWords Go.Proofs.YthbjofpaegboiaaW.PrintLast Go.Proofs.YthbjofpaegboiaaW.PrintMore
attribute [local go_sem] max2_int min2_int max_two min_two max_three min_three max_four min_four   -- for this text's walks alone
set_option linter.unusedVariables false
set_option linter.unusedSimpArgs false

/-! ### catchwordlaw17_ScoreMore: function 3 -/
mutual
def catchwordlaw17_ScoreMore.j0 : Nat → List (S25) → Bool → List (S31) → List (S31) → Option (Bool)
  | 0, _, _, _, _ => none
  | k + 1, x0, x18, x116000, x116001 => if x18 = true then (some true) else ((score_Of.f k x0).bind fun t122 => ((some (([] : List (S25)) : List (S25))).bind fun y123 => (if y123.length + x0.length < 2932031007402 then ((some (y123 ++ x0 : List (S25))).bind fun y126 => ((some (([(⟨x116000, x116001⟩ : S25)] : List (S25)) : List (S25))).bind fun y129 => (if y126.length + y129.length < 2932031007402 then ((score_Of.f k (y126 ++ y129)).bind fun t135 => (catchwordlaw17_ScoreMore.j1 k x0 t122 t135 x116000 x116001)) else (none)))) else (none))))
def catchwordlaw17_ScoreMore.j1 : Nat → List (S25) → Int → Int → List (S31) → List (S31) → Option (Bool)
  | 0, _, _, _, _, _ => none
  | k + 1, x0, x5, x6, x116000, x116001 => (some (([(⟨x116000, x116001⟩ : S25)] : List (S25)) : List (S25))).bind fun y136 => (if y136.length + x0.length < 2932031007402 then ((score_Of.f k (y136 ++ x0)).bind fun t142 => (catchwordlaw17_ScoreMore.j2 k x5 x6 t142)) else (none))
def catchwordlaw17_ScoreMore.j2 : Nat → Int → Int → Int → Option (Bool)
  | 0, _, _, _ => none
  | k + 1, x5, x6, x7 => if x6 ≥ x5 then (if x6 = x7 then (if x5 ≥ 0 then (some (decide (x6 ≤ 2147483647))) else (some false)) else (some false)) else (some false)
end
def catchwordlaw17_ScoreMore.f (k : Nat) (l0 : List (S25)) (l1_0 : List (S31)) (l1_1 : List (S31)) : Option (Bool) := (catchwordlaw17_head.f k).bind fun t116 => (if t116 = true then ((catchwordlaw17_Few.f k l0).bind fun t117 => (if t117 = true then ((catchwordlaw17_Few.f k (([(⟨l1_0, l1_1⟩ : S25)] : List (S25)))).bind fun t121 => (catchwordlaw17_ScoreMore.j0 k l0 (!t121) l1_0 l1_1)) else (catchwordlaw17_ScoreMore.j0 k l0 true l1_0 l1_1))) else (some false))
theorem catchwordlaw17_ScoreMore.mono_l : ∀ k, (∀ y0 y1 y2 y3, LeO (catchwordlaw17_ScoreMore.j0 k y0 y1 y2 y3) (catchwordlaw17_ScoreMore.j0 (k + 1) y0 y1 y2 y3)) ∧ (∀ y0 y1 y2 y3 y4, LeO (catchwordlaw17_ScoreMore.j1 k y0 y1 y2 y3 y4) (catchwordlaw17_ScoreMore.j1 (k + 1) y0 y1 y2 y3 y4)) ∧ (∀ y0 y1 y2, LeO (catchwordlaw17_ScoreMore.j2 k y0 y1 y2) (catchwordlaw17_ScoreMore.j2 (k + 1) y0 y1 y2))
  | 0 => ⟨fun _ _ _ _ r h => by simp [catchwordlaw17_ScoreMore.j0] at h, fun _ _ _ _ _ r h => by simp [catchwordlaw17_ScoreMore.j1] at h, fun _ _ _ r h => by simp [catchwordlaw17_ScoreMore.j2] at h⟩
  | k + 1 => by
    obtain ⟨ih0, ih1, ih2⟩ := catchwordlaw17_ScoreMore.mono_l k
    refine ⟨?_, ?_, ?_⟩
    · intro y0 y1 y2 y3
      unfold catchwordlaw17_ScoreMore.j0
      repeat' first
      | (with_reducible exact ih0 _ _ _ _)
      | (with_reducible exact ih1 _ _ _ _ _)
      | (with_reducible exact ih2 _ _ _)
      | (with_reducible exact catchwordlaw17_Few.mono _ _)
      | (with_reducible exact catchwordlaw17_head.mono _)
      | (with_reducible exact score_Of.mono _ _)
      | (with_reducible exact LeO.refl _)
      | (with_reducible exact LeO.none _)
      | (with_reducible refine LeO.ite ?_ ?_)
      | (with_reducible refine LeO.bind ?_ (fun _ => ?_))
      | exact ih0 _ _ _ _
      | exact ih1 _ _ _ _ _
      | exact ih2 _ _ _
      | exact catchwordlaw17_Few.mono _ _
      | exact catchwordlaw17_head.mono _
      | exact score_Of.mono _ _
      | exact LeO.none _
      | refine LeO.ite ?_ ?_
      | refine LeO.bind ?_ (fun _ => ?_)
    · intro y0 y1 y2 y3 y4
      unfold catchwordlaw17_ScoreMore.j1
      repeat' first
      | (with_reducible exact ih0 _ _ _ _)
      | (with_reducible exact ih1 _ _ _ _ _)
      | (with_reducible exact ih2 _ _ _)
      | (with_reducible exact catchwordlaw17_Few.mono _ _)
      | (with_reducible exact catchwordlaw17_head.mono _)
      | (with_reducible exact score_Of.mono _ _)
      | (with_reducible exact LeO.refl _)
      | (with_reducible exact LeO.none _)
      | (with_reducible refine LeO.ite ?_ ?_)
      | (with_reducible refine LeO.bind ?_ (fun _ => ?_))
      | exact ih0 _ _ _ _
      | exact ih1 _ _ _ _ _
      | exact ih2 _ _ _
      | exact catchwordlaw17_Few.mono _ _
      | exact catchwordlaw17_head.mono _
      | exact score_Of.mono _ _
      | exact LeO.none _
      | refine LeO.ite ?_ ?_
      | refine LeO.bind ?_ (fun _ => ?_)
    · intro y0 y1 y2
      unfold catchwordlaw17_ScoreMore.j2
      repeat' first
      | (with_reducible exact ih0 _ _ _ _)
      | (with_reducible exact ih1 _ _ _ _ _)
      | (with_reducible exact ih2 _ _ _)
      | (with_reducible exact catchwordlaw17_Few.mono _ _)
      | (with_reducible exact catchwordlaw17_head.mono _)
      | (with_reducible exact score_Of.mono _ _)
      | (with_reducible exact LeO.refl _)
      | (with_reducible exact LeO.none _)
      | (with_reducible refine LeO.ite ?_ ?_)
      | (with_reducible refine LeO.bind ?_ (fun _ => ?_))
      | exact ih0 _ _ _ _
      | exact ih1 _ _ _ _ _
      | exact ih2 _ _ _
      | exact catchwordlaw17_Few.mono _ _
      | exact catchwordlaw17_head.mono _
      | exact score_Of.mono _ _
      | exact LeO.none _
      | refine LeO.ite ?_ ?_
      | refine LeO.bind ?_ (fun _ => ?_)
theorem catchwordlaw17_ScoreMore.mono : ∀ a0 a1 a2 k, LeO (catchwordlaw17_ScoreMore.f k a0 a1 a2) (catchwordlaw17_ScoreMore.f (k + 1) a0 a1 a2) := by
  intro a0 a1 a2 k
  obtain ⟨ih0, ih1, ih2⟩ := catchwordlaw17_ScoreMore.mono_l k
  unfold catchwordlaw17_ScoreMore.f
  repeat' first
      | (with_reducible exact ih0 _ _ _ _)
      | (with_reducible exact ih1 _ _ _ _ _)
      | (with_reducible exact ih2 _ _ _)
      | (with_reducible exact catchwordlaw17_Few.mono _ _)
      | (with_reducible exact catchwordlaw17_head.mono _)
      | (with_reducible exact score_Of.mono _ _)
      | (with_reducible exact LeO.refl _)
      | (with_reducible exact LeO.none _)
      | (with_reducible refine LeO.ite ?_ ?_)
      | (with_reducible refine LeO.bind ?_ (fun _ => ?_))
      | exact ih0 _ _ _ _
      | exact ih1 _ _ _ _ _
      | exact ih2 _ _ _
      | exact catchwordlaw17_Few.mono _ _
      | exact catchwordlaw17_head.mono _
      | exact score_Of.mono _ _
      | exact LeO.none _
      | refine LeO.ite ?_ ?_
      | refine LeO.bind ?_ (fun _ => ?_)
def catchwordlaw17_ScoreMore.T6 : Bool × List (List Nat × List Nat) := (true, [([], []), ([], []), ([0, 1], [0, 1]), ([], []), ([3], [3]), ([2, 4, 2], [2, 4]), ([5, 5], [5]), ([6, 6, 0, 1, 2, 3, 4, 5, 6], [6])])
def catchwordlaw17_ScoreMore.B6 : List Nat := [0, 0, 3, 0, 8, 31, 63, 127]
theorem catchwordlaw17_ScoreMore.tab6 : rtab .any (opsOf Try.f3 6) = catchwordlaw17_ScoreMore.T6 := by kernel_rfl
theorem catchwordlaw17_ScoreMore.bits6 : waitsOk catchwordlaw17_ScoreMore.T6.2 catchwordlaw17_ScoreMore.B6 = true := by kernel_rfl
set_option maxHeartbeats 8000000 in
set_option maxRecDepth 100000 in
theorem catchwordlaw17_ScoreMore.calls (k : Nat) (P0_ : Nat → Prop) (A0 : Option Addr) (c0 : Nat) (l0 : List (S25)) (P1_0_ : Nat → Prop) (A1_0 : Option Addr) (c1_0 : Nat) (l1_0 : List (S31)) (P1_1_ : Nat → Prop) (A1_1 : Option Addr) (c1_1 : Nat) (l1_1 : List (S31)) (r : Bool) (w : World) (hs0 : Kd.V k25 25 w w.heap.size (fun k_ => P0_ k_) (.slice A0 l0.length c0) l0) (hs1_0 : Kd.V k31 31 w w.heap.size (fun k_ => P1_0_ k_) (.slice A1_0 l1_0.length c1_0) l1_0) (hs1_1 : Kd.V k31 31 w w.heap.size (fun k_ => P1_1_ k_) (.slice A1_1 l1_1.length c1_1) l1_1) (h : catchwordlaw17_ScoreMore.f k l0 l1_0 l1_1 = some r) :
    Calls Try.prog 3 #[.slice A0 l0.length c0, .agg #[.slice A1_0 l1_0.length c1_0, .slice A1_1 l1_1.length c1_1]] w fun e w' => e = .returned (.bool r) ∧ Below w.heap.size w w' := by
  have hu25 := Try.underlying25
  have HO0 := Aside0.mk (show Kd.V k25 25 w w.heap.size (fun k_ => ((P0_ k_ ∨ P1_0_ k_ ∨ P1_1_ k_) ∨ w.heap.size ≤ k_)) (.slice A0 l0.length c0) l0 from Kd.V_mono hs0 (fun k_ hk => .inl (.inl hk)))
  have HO1_0 := Aside0.mk (show Kd.V k31 31 w w.heap.size (fun k_ => ((P0_ k_ ∨ P1_0_ k_ ∨ P1_1_ k_) ∨ w.heap.size ≤ k_)) (.slice A1_0 l1_0.length c1_0) l1_0 from Kd.V_mono hs1_0 (fun k_ hk => .inl (.inr (.inl hk))))
  have HO1_1 := Aside0.mk (show Kd.V k31 31 w w.heap.size (fun k_ => ((P0_ k_ ∨ P1_0_ k_ ∨ P1_1_ k_) ∨ w.heap.size ≤ k_)) (.slice A1_1 l1_1.length c1_1) l1_1 from Kd.V_mono hs1_1 (fun k_ hk => .inl (.inr (.inr hk))))
  have HB := Aside0.mk (Below.refl w.heap.size w)
  have H : ((catchwordlaw17_head.f k).bind fun t116 => (if t116 = true then ((catchwordlaw17_Few.f k l0).bind fun t117 => (if t117 = true then ((catchwordlaw17_Few.f k (([(⟨l1_0, l1_1⟩ : S25)] : List (S25)))).bind fun t121 => (catchwordlaw17_ScoreMore.j0 k l0 (!t121) l1_0 l1_1)) else (catchwordlaw17_ScoreMore.j0 k l0 true l1_0 l1_1))) else (some false))) = some r := h
  clear h
  replace H := Option.bind_eq_some_iff.mp H
  obtain ⟨t116, A30, H⟩ := H
  replace H : (if t116 = true then ((catchwordlaw17_Few.f k l0).bind fun t117 => (if t117 = true then ((catchwordlaw17_Few.f k (([(⟨l1_0, l1_1⟩ : S25)] : List (S25)))).bind fun t121 => (catchwordlaw17_ScoreMore.j0 k l0 (!t121) l1_0 l1_1)) else (catchwordlaw17_ScoreMore.j0 k l0 true l1_0 l1_1))) else (some false)) = some r := H
  have A3 := Aside0.mk A30
  clear A30
  by_cases c4 : t116 = true
  · subst c4
    have H1 : ((catchwordlaw17_Few.f k l0).bind fun t117 => (if t117 = true then ((catchwordlaw17_Few.f k (([(⟨l1_0, l1_1⟩ : S25)] : List (S25)))).bind fun t121 => (catchwordlaw17_ScoreMore.j0 k l0 (!t121) l1_0 l1_1)) else (catchwordlaw17_ScoreMore.j0 k l0 true l1_0 l1_1))) = some r := by rw [if_pos rfl] at H; exact H
    clear H
    have H := H1
    clear H1
    have HC5 := Aside0.mk H
    clear H
    go_enter Try.func3, Try.ntmps3
    go_upto_region 3 with (first | ((with_reducible refine gate_dst (N := 3) rfl ?_); (try (refine gate_guard (by rfl) ?_; dsimp only)); refine box_event ?hg (N := 3) ?hd (cs := #[.slice A1_0 l1_0.length c1_0, .slice A1_1 l1_1.length c1_1]) (t := 25) ?hr ?_; (case hd => rfl); (case hg => rfl); (case hr => first | (go_simp; done) | (go_simp; rfl)); intro gb115 hg w6 hbox hb; have n0_ := Aside0.mk (Kd.V_below (Kd.V_elderB (by (with_reducible repeat (first | apply Kd.V_alloc | apply Kd.V_drewN | apply Kd.V_drew)); exact HO0.out) gb115 (Nat.le_of_eq hg.symm)) hb); have n1_ := Aside0.mk (Kd.V_below (Kd.V_elderB (by (with_reducible repeat (first | apply Kd.V_alloc | apply Kd.V_drewN | apply Kd.V_drew)); exact HO1_0.out) gb115 (Nat.le_of_eq hg.symm)) hb); have n2_ := Aside0.mk (Kd.V_below (Kd.V_elderB (by (with_reducible repeat (first | apply Kd.V_alloc | apply Kd.V_drewN | apply Kd.V_drew)); exact HO1_1.out) gb115 (Nat.le_of_eq hg.symm)) hb); have n3_ := Aside0.mk (below_step (by repeat (first | (with_reducible first | exact HB.out | apply below_alloc | apply pw_below_drewN | apply below_drew1) | exact HB.out)) hb); have n4_ := Aside0.mk (hbox); have n5_ := Aside0.mk ((by rw [hg]; exact (below_size (by repeat (first | (with_reducible first | exact HB.out | apply below_alloc | apply pw_below_drewN | apply below_drew1) | exact HB.out))) : w.heap.size ≤ gb115)); have n6_ := Aside0.mk ((by rw [hg]; exact (below_size (by repeat (first | (with_reducible first | exact HB.out | apply below_alloc | apply pw_below_drewN | apply below_drew1) | exact HB.out))) : w.heap.size ≤ gb115)); clear HO0; clear HO1_0; clear HO1_1; clear HB; have HO0 := n0_; have HO1_0 := n1_; have HO1_1 := n2_; have HB := n3_; have BK115 := n4_; have GW115 := n5_; have GE115 := n6_; clear n0_ n1_ n2_ n3_ n4_ n5_ n6_; clear hb hbox hg) | ((with_reducible refine gate_callee (f := 7) rfl ?_); refine goesL_ (some 8) rfl rfl Try.func7 (by kernel_rfl) rfl #[] rfl (by (try simp only [List.map_toArray, List.map_cons, List.map_nil]); first | done | rfl | (simp only [List.length_drop, List.length_take]; rfl)) ?_; (with_reducible refine (catchwordlaw17_head.calls k  true _ A3.out).mono ?_); rintro e w7 ⟨rfl, hb⟩; refine ⟨_, rfl, ?_⟩; have n0_ := Aside0.mk (Kd.V_below (by (with_reducible repeat (first | apply Kd.V_alloc | apply Kd.V_drewN | apply Kd.V_drew)); exact HO0.out) hb); have n1_ := Aside0.mk (Kd.V_below (by (with_reducible repeat (first | apply Kd.V_alloc | apply Kd.V_drewN | apply Kd.V_drew)); exact HO1_0.out) hb); have n2_ := Aside0.mk (Kd.V_below (by (with_reducible repeat (first | apply Kd.V_alloc | apply Kd.V_drewN | apply Kd.V_drew)); exact HO1_1.out) hb); have n3_ := Aside0.mk (blk_below (g := gb115) (o := .cells #[.slice A1_0 l1_0.length c1_0, .slice A1_1 l1_1.length c1_1] 25 (0, 0)) (by (with_reducible repeat (first | refine blk_drewN ?_ _ | refine blk_drew ?_ | refine blk_alloc ?_ _)); exact BK115.out) hb); have n4_ := Aside0.mk (below_step (by repeat (first | (with_reducible first | exact HB.out | apply below_alloc | apply pw_below_drewN | apply below_drew1 | refine below_set ?_ GE115.out) | exact HB.out)) hb); clear HO0; clear HO1_0; clear HO1_1; clear BK115; clear HB; have HO0 := n0_; have HO1_0 := n1_; have HO1_1 := n2_; have BK115 := n3_; have HB := n4_; clear n0_ n1_ n2_ n3_ n4_; (try clear hb); (try clear hb2); (try clear hk); (try clear hi)))
    (try simp only [Act.put, List.setIfInBounds_toArray, List.set_cons_zero, List.set_cons_succ])
    go_cut [18] (fun v18 wc => ∃ (kq : Nat) (x18_4 : Bool), v18 = .bool x18_4 ∧ Aside0 (catchwordlaw17_ScoreMore.j0 kq l0 x18_4 l1_0 l1_1 = some r) ∧ Aside0 (kq ≤ k) ∧ Aside0 (Kd.V k25 25 wc w.heap.size (fun k_ => ((P0_ k_ ∨ P1_0_ k_ ∨ P1_1_ k_) ∨ w.heap.size ≤ k_) ∧ k_ ≠ gb115) (.slice A0 l0.length c0) l0) ∧ Aside0 (Kd.V k31 31 wc w.heap.size (fun k_ => ((P0_ k_ ∨ P1_0_ k_ ∨ P1_1_ k_) ∨ w.heap.size ≤ k_) ∧ k_ ≠ gb115) (.slice A1_0 l1_0.length c1_0) l1_0) ∧ Aside0 (Kd.V k31 31 wc w.heap.size (fun k_ => ((P0_ k_ ∨ P1_0_ k_ ∨ P1_1_ k_) ∨ w.heap.size ≤ k_) ∧ k_ ≠ gb115) (.slice A1_1 l1_1.length c1_1) l1_1) ∧ Aside0 (wc.heap[gb115]? = some (.cells #[(.slice A1_0 l1_0.length c1_0), (.slice A1_1 l1_1.length c1_1)] 25 (0, 0))) ∧ Aside0 (Below w.heap.size w wc))
    case first =>
      have H := HC5.out
      clear HC5
      replace H := Option.bind_eq_some_iff.mp H
      obtain ⟨t117, A80, H⟩ := H
      replace H : (if t117 = true then ((catchwordlaw17_Few.f k (([(⟨l1_0, l1_1⟩ : S25)] : List (S25)))).bind fun t121 => (catchwordlaw17_ScoreMore.j0 k l0 (!t121) l1_0 l1_1)) else (catchwordlaw17_ScoreMore.j0 k l0 true l1_0 l1_1)) = some r := H
      have A8 := Aside0.mk A80
      clear A80
      by_cases c9 : t117 = true
      · subst c9
        have H1 : ((catchwordlaw17_Few.f k (([(⟨l1_0, l1_1⟩ : S25)] : List (S25)))).bind fun t121 => (catchwordlaw17_ScoreMore.j0 k l0 (!t121) l1_0 l1_1)) = some r := by rw [if_pos rfl] at H; exact H
        clear H
        have H := H1
        clear H1
        obtain ⟨y118, hy118⟩ : ∃ y_ : List (S25), y_ = (([(⟨l1_0, l1_1⟩ : S25)] : List (S25))) := ⟨_, rfl⟩
        replace H : ((catchwordlaw17_Few.f k y118).bind fun t121 => (catchwordlaw17_ScoreMore.j0 k l0 (!t121) l1_0 l1_1)) = some r := by first | (rw [hy118]; with_reducible exact H) | (have H2_ := (Option.bind_some _ _).symm.trans H; rw [hy118]; with_reducible exact H2_) | (have H2_ := (Option.bind_some _ _).symm.trans H; with_reducible exact H2_) | with_reducible exact H | (rw [hy118]; exact H) | exact H
        have Ny118 := Aside0.mk hy118
        clear hy118
        replace H := Option.bind_eq_some_iff.mp H
        obtain ⟨t121, A100, H⟩ := H
        replace H : (catchwordlaw17_ScoreMore.j0 k l0 (!t121) l1_0 l1_1) = some r := H
        have A10 := Aside0.mk A100
        clear A100
        have H' := Aside0.mk H
        clear H
        go_wp2_with (first | ((with_reducible refine gate_callee (f := 8) rfl ?_); refine goesL_ (some 11) rfl rfl Try.func8 (by kernel_rfl) rfl #[.slice A0 l0.length c0] rfl (by (try simp only [List.map_toArray, List.map_cons, List.map_nil]); first | done | rfl | (simp only [List.length_drop, List.length_take]; rfl)) ?_; (with_reducible refine (catchwordlaw17_Few.calls k _ _ l0 true _ ?side1 ?side2 A8.out).mono ?_); (case side1 => repeat (first | exact (Kd.V_reads' HO0.out).2.2 | (with_reducible refine Kd.C_alloc ?_ _) | (with_reducible refine Kd.C_drewN ?_ _) | (with_reducible refine Kd.C_drew ?_))); (case side2 => exact (Kd.V_reads' HO0.out).2.1); rintro e w11 ⟨rfl, hb⟩; refine ⟨_, rfl, ?_⟩; have n0_ := Aside0.mk (Kd.V_below (by (with_reducible repeat (first | apply Kd.V_alloc | apply Kd.V_drewN | apply Kd.V_drew)); exact HO0.out) hb); have n1_ := Aside0.mk (Kd.V_below (by (with_reducible repeat (first | apply Kd.V_alloc | apply Kd.V_drewN | apply Kd.V_drew)); exact HO1_0.out) hb); have n2_ := Aside0.mk (Kd.V_below (by (with_reducible repeat (first | apply Kd.V_alloc | apply Kd.V_drewN | apply Kd.V_drew)); exact HO1_1.out) hb); have n3_ := Aside0.mk (blk_below (g := gb115) (o := .cells #[.slice A1_0 l1_0.length c1_0, .slice A1_1 l1_1.length c1_1] 25 (0, 0)) (by (with_reducible repeat (first | refine blk_drewN ?_ _ | refine blk_drew ?_ | refine blk_alloc ?_ _)); exact BK115.out) hb); have n4_ := Aside0.mk (below_step (by repeat (first | (with_reducible first | exact HB.out | apply below_alloc | apply pw_below_drewN | apply below_drew1 | refine below_set ?_ GE115.out) | exact HB.out)) hb); clear HO0; clear HO1_0; clear HO1_1; clear BK115; clear HB; have HO0 := n0_; have HO1_0 := n1_; have HO1_1 := n2_; have BK115 := n3_; have HB := n4_; clear n0_ n1_ n2_ n3_ n4_; (try clear hb); (try clear hb2); (try clear hk); (try clear hi); have hcz12_0 : w11.cell? ⟨gb115, 0, none⟩ = some (.slice A1_0 l1_0.length c1_0) := (blk_cell BK115.out 0).trans rfl; have hcz12_1 : w11.cell? ⟨gb115, 1, none⟩ = some (.slice A1_1 l1_1.length c1_1) := (blk_cell BK115.out 1).trans rfl; have hfz12_0 := blk_frozen BK115.out 0; have hfz12_1 := blk_frozen BK115.out 1) | ((with_reducible refine gate_dst (N := 15) rfl ?_); (try (refine gate_guard (by rfl) ?_; dsimp only)); refine Kd.N_lit k25 _ 25 ?hg (N' := 15) ?hd (xs := ([(⟨l1_0, l1_1⟩ : S25)] : List (S25))) (inner := [.slice A1_0 l1_0.length c1_0, .slice A1_1 l1_1.length c1_1]) (ok := (fun k_ => ((P0_ k_ ∨ P1_0_ k_ ∨ P1_1_ k_) ∨ w.heap.size ≤ k_) ∧ k_ ≠ gb115)) (okp := (fun k_ => ((P0_ k_ ∨ P1_0_ k_ ∨ P1_1_ k_) ∨ w.heap.size ≤ k_) ∧ k_ ≠ gb115)) ?hr ?hp (fun _ hk => hk) ((show ∀ k_, w11.heap.size ≤ k_ → (fun k_ => ((P0_ k_ ∨ P1_0_ k_ ∨ P1_1_ k_) ∨ w.heap.size ≤ k_) ∧ k_ ≠ gb115) k_ from fun k_ hk => ⟨(.inr (Nat.le_trans (below_size (by repeat (first | (with_reducible first | exact HB.out | apply below_alloc | apply pw_below_drewN | apply below_drew1 | refine below_set ?_ GE115.out) | exact HB.out))) hk)), Kd.freshB (g := gb115) (o := .cells #[.slice A1_0 l1_0.length c1_0, .slice A1_1 l1_1.length c1_1] 25 (0, 0)) (by (with_reducible repeat (first | refine blk_drewN ?_ _ | refine blk_drew ?_ | refine blk_alloc ?_ _)); exact BK115.out) k_ hk⟩) _ (Nat.le_refl _)) (Below.refl _ _) (Nat.le_refl _) (by simp) ?_; (case hd => rfl); (case hg => rfl); (case hr => first | (go_simp; done) | (go_simp; rfl)); (case hp => exact (Reps.c2 (show Kd.FK k25 _ _ (⟨l1_0, l1_1⟩ : S25) [.slice A1_0 l1_0.length c1_0, .slice A1_1 l1_1.length c1_1] from (k25_mkF _ _ (⟨l1_0, l1_1⟩ : S25) (Kd.V_reads' (Kd.V_mono (ok' := (fun k_ => ((P0_ k_ ∨ P1_0_ k_ ∨ P1_1_ k_) ∨ w.heap.size ≤ k_) ∧ k_ ≠ gb115)) (HO1_0.out) (fun k_ hk => ⟨hk.1, hk.2⟩))).2.1 (Kd.V_F (Kd.V_mono (ok' := (fun k_ => ((P0_ k_ ∨ P1_0_ k_ ∨ P1_1_ k_) ∨ w.heap.size ≤ k_) ∧ k_ ≠ gb115)) (HO1_0.out) (fun k_ hk => ⟨hk.1, hk.2⟩))) (Kd.V_reads' (Kd.V_mono (ok' := (fun k_ => ((P0_ k_ ∨ P1_0_ k_ ∨ P1_1_ k_) ∨ w.heap.size ≤ k_) ∧ k_ ≠ gb115)) (HO1_1.out) (fun k_ hk => ⟨hk.1, hk.2⟩))).2.1 (Kd.V_F (Kd.V_mono (ok' := (fun k_ => ((P0_ k_ ∨ P1_0_ k_ ∨ P1_1_ k_) ∨ w.heap.size ≤ k_) ∧ k_ ≠ gb115)) (HO1_1.out) (fun k_ hk => ⟨hk.1, hk.2⟩))))) (Reps.none _ _))); intro v119 w13 ho14 hb hg_ hnew_; clear hg_ hnew_; (first | rw [← Ny118.out] at ho14 | (simp only [Int.reduceToNat] at ho14; rw [← Ny118.out] at ho14)); have n0_ := Aside0.mk (Kd.V_elder' (by (with_reducible repeat (first | apply Kd.V_alloc | apply Kd.V_drewN | apply Kd.V_drew)); exact HO0.out) (Kd.N_base ho14) hb); have n1_ := Aside0.mk (Kd.V_elder' (by (with_reducible repeat (first | apply Kd.V_alloc | apply Kd.V_drewN | apply Kd.V_drew)); exact HO1_0.out) (Kd.N_base ho14) hb); have n2_ := Aside0.mk (Kd.V_elder' (by (with_reducible repeat (first | apply Kd.V_alloc | apply Kd.V_drewN | apply Kd.V_drew)); exact HO1_1.out) (Kd.N_base ho14) hb); have n3_ := Aside0.mk (Kd.N_lower ho14 (below_size (by repeat (first | (with_reducible first | exact HB.out | apply below_alloc | apply pw_below_drewN | apply below_drew1 | refine below_set ?_ GE115.out) | exact HB.out)))); have n4_ := Aside0.mk (blk_below (g := gb115) (o := .cells #[.slice A1_0 l1_0.length c1_0, .slice A1_1 l1_1.length c1_1] 25 (0, 0)) (by (with_reducible repeat (first | refine blk_drewN ?_ _ | refine blk_drew ?_ | refine blk_alloc ?_ _)); exact BK115.out) hb); have n5_ := Aside0.mk (below_step (by repeat (first | (with_reducible first | exact HB.out | apply below_alloc | apply pw_below_drewN | apply below_drew1 | refine below_set ?_ GE115.out) | exact HB.out)) hb); clear HO0; clear HO1_0; clear HO1_1; clear BK115; clear HB; have HO0 := n0_; have HO1_0 := n1_; have HO1_1 := n2_; have HO120 := n3_; have BK115 := n4_; have HB := n5_; clear n0_ n1_ n2_ n3_ n4_ n5_; clear hb ho14; obtain ⟨Ao15, co15, eo15⟩ := Kd.N_slice HO120.out; subst eo15) | (go_at_call 8; (with_reducible refine (catchwordlaw17_Few.calls k _ _ y118 t121 _ ?side1 ?side2 A10.out).mono ?_); (case side1 => repeat (first | exact (Kd.N_reads' HO120.out).2.2 | (with_reducible refine Kd.C_alloc ?_ _) | (with_reducible refine Kd.C_drewN ?_ _) | (with_reducible refine Kd.C_drew ?_))); (case side2 => exact (Kd.N_reads' HO120.out).2.1); rintro e w16 ⟨rfl, hb⟩; have n0_ := Aside0.mk (Kd.V_below (by (with_reducible repeat (first | apply Kd.V_alloc | apply Kd.V_drewN | apply Kd.V_drew)); exact HO0.out) hb); have n1_ := Aside0.mk (Kd.V_below (by (with_reducible repeat (first | apply Kd.V_alloc | apply Kd.V_drewN | apply Kd.V_drew)); exact HO1_0.out) hb); have n2_ := Aside0.mk (Kd.V_below (by (with_reducible repeat (first | apply Kd.V_alloc | apply Kd.V_drewN | apply Kd.V_drew)); exact HO1_1.out) hb); have n3_ := Aside0.mk (Kd.N_below (by (with_reducible repeat (first | apply Kd.N_alloc | apply Kd.N_drewN | apply Kd.N_drew)); exact HO120.out) hb); have n4_ := Aside0.mk (blk_below (g := gb115) (o := .cells #[.slice A1_0 l1_0.length c1_0, .slice A1_1 l1_1.length c1_1] 25 (0, 0)) (by (with_reducible repeat (first | refine blk_drewN ?_ _ | refine blk_drew ?_ | refine blk_alloc ?_ _)); exact BK115.out) hb); have n5_ := Aside0.mk (below_step (by repeat (first | (with_reducible first | exact HB.out | apply below_alloc | apply pw_below_drewN | apply below_drew1 | refine below_set ?_ GE115.out) | exact HB.out)) hb); clear HO0; clear HO1_0; clear HO1_1; clear HO120; clear BK115; clear HB; have HO0 := n0_; have HO1_0 := n1_; have HO1_1 := n2_; have HO120 := n3_; have BK115 := n4_; have HB := n5_; clear n0_ n1_ n2_ n3_ n4_ n5_; (try clear hb); (try clear hb2); (try clear hk); (try clear hi)))
        go_meet
        case rel => exact ⟨_, (!t121), (by first | rfl | (simp; done) | (simp [*]; done)), H', ⟨by first | omega | exact Nat.le_refl _⟩, ⟨by (with_reducible repeat (first | apply Kd.V_alloc | apply Kd.V_drewN | apply Kd.V_drew)); exact Kd.V_mono HO0.out (fun _ hk => ⟨hk.1.1, hk.1.2⟩)⟩, ⟨by (with_reducible repeat (first | apply Kd.V_alloc | apply Kd.V_drewN | apply Kd.V_drew)); exact Kd.V_mono HO1_0.out (fun _ hk => ⟨hk.1.1, hk.1.2⟩)⟩, ⟨by (with_reducible repeat (first | apply Kd.V_alloc | apply Kd.V_drewN | apply Kd.V_drew)); exact Kd.V_mono HO1_1.out (fun _ hk => ⟨hk.1.1, hk.1.2⟩)⟩, ⟨by (with_reducible repeat (first | refine blk_drewN ?_ _ | refine blk_drew ?_ | refine blk_alloc ?_ _)); exact BK115.out⟩, ⟨by repeat (first | (with_reducible first | exact HB.out | apply below_alloc | apply pw_below_drewN | apply below_drew1 | refine below_set ?_ GE115.out) | exact HB.out)⟩⟩
      · replace c9 := Bool.eq_false_iff.mpr c9
        subst c9
        have H1 : (catchwordlaw17_ScoreMore.j0 k l0 true l1_0 l1_1) = some r := by rw [if_neg (show ¬ (false = true) by decide)] at H; exact H
        clear H
        have H := H1
        clear H1
        have H' := Aside0.mk H
        clear H
        go_wp2_with (first | ((with_reducible refine gate_callee (f := 8) rfl ?_); refine goesL_ (some 11) rfl rfl Try.func8 (by kernel_rfl) rfl #[.slice A0 l0.length c0] rfl (by (try simp only [List.map_toArray, List.map_cons, List.map_nil]); first | done | rfl | (simp only [List.length_drop, List.length_take]; rfl)) ?_; (with_reducible refine (catchwordlaw17_Few.calls k _ _ l0 false _ ?side1 ?side2 A8.out).mono ?_); (case side1 => repeat (first | exact (Kd.V_reads' HO0.out).2.2 | (with_reducible refine Kd.C_alloc ?_ _) | (with_reducible refine Kd.C_drewN ?_ _) | (with_reducible refine Kd.C_drew ?_))); (case side2 => exact (Kd.V_reads' HO0.out).2.1); rintro e w17 ⟨rfl, hb⟩; refine ⟨_, rfl, ?_⟩; have n0_ := Aside0.mk (Kd.V_below (by (with_reducible repeat (first | apply Kd.V_alloc | apply Kd.V_drewN | apply Kd.V_drew)); exact HO0.out) hb); have n1_ := Aside0.mk (Kd.V_below (by (with_reducible repeat (first | apply Kd.V_alloc | apply Kd.V_drewN | apply Kd.V_drew)); exact HO1_0.out) hb); have n2_ := Aside0.mk (Kd.V_below (by (with_reducible repeat (first | apply Kd.V_alloc | apply Kd.V_drewN | apply Kd.V_drew)); exact HO1_1.out) hb); have n3_ := Aside0.mk (blk_below (g := gb115) (o := .cells #[.slice A1_0 l1_0.length c1_0, .slice A1_1 l1_1.length c1_1] 25 (0, 0)) (by (with_reducible repeat (first | refine blk_drewN ?_ _ | refine blk_drew ?_ | refine blk_alloc ?_ _)); exact BK115.out) hb); have n4_ := Aside0.mk (below_step (by repeat (first | (with_reducible first | exact HB.out | apply below_alloc | apply pw_below_drewN | apply below_drew1 | refine below_set ?_ GE115.out) | exact HB.out)) hb); clear HO0; clear HO1_0; clear HO1_1; clear BK115; clear HB; have HO0 := n0_; have HO1_0 := n1_; have HO1_1 := n2_; have BK115 := n3_; have HB := n4_; clear n0_ n1_ n2_ n3_ n4_; (try clear hb); (try clear hb2); (try clear hk); (try clear hi)))
        go_meet
        case rel => exact ⟨_, (true), (by first | rfl | (simp; done) | (simp [*]; done)), H', ⟨by first | omega | exact Nat.le_refl _⟩, ⟨by (with_reducible repeat (first | apply Kd.V_alloc | apply Kd.V_drewN | apply Kd.V_drew)); exact HO0.out⟩, ⟨by (with_reducible repeat (first | apply Kd.V_alloc | apply Kd.V_drewN | apply Kd.V_drew)); exact HO1_0.out⟩, ⟨by (with_reducible repeat (first | apply Kd.V_alloc | apply Kd.V_drewN | apply Kd.V_drew)); exact HO1_1.out⟩, ⟨by (with_reducible repeat (first | refine blk_drewN ?_ _ | refine blk_drew ?_ | refine blk_alloc ?_ _)); exact BK115.out⟩, ⟨by repeat (first | (with_reducible first | exact HB.out | apply below_alloc | apply pw_below_drewN | apply below_drew1 | refine below_set ?_ GE115.out) | exact HB.out)⟩⟩
    case rest =>
      clear HC5
      try clear c1
      try clear c2
      try clear p2
      try clear c3
      try clear c4
      try clear c7
      try clear c8
      try clear c9
      try clear hcz12_0
      try clear hcz12_1
      try clear hfz12_0
      try clear hfz12_1
      obtain ⟨kq, x18_4, rfl, HA, HJ4, HO_0, HO_116000, HO_116001, BK115, HB⟩ := hcut
      cases kq with
      | zero => exact absurd HA.out (by simp [catchwordlaw17_ScoreMore.j0])
      | succ kj4 =>
        have H := HA.out
        clear HA
        simp only [catchwordlaw17_ScoreMore.j0] at H
        by_cases c18 : x18_4 = true
        · subst c18
          have H1 : (some true) = some r := by rw [if_pos rfl] at H; exact H
          clear H
          have H := H1
          clear H1
          obtain rfl := Option.some.inj H
          go_wp2
          go_ret
          exact ⟨by first | rfl | (simp [errW_none, errW_some] <;> rfl) | (simp [*, errW_none, errW_some] <;> rfl), by repeat (first | (with_reducible first | exact HB.out | apply below_alloc | apply pw_below_drewN | apply below_drew1 | refine below_set ?_ GE115.out) | exact HB.out)⟩
        · replace c18 := Bool.eq_false_iff.mpr c18
          subst c18
          have H1 : ((score_Of.f kj4 l0).bind fun t122 => ((some (([] : List (S25)) : List (S25))).bind fun y123 => (if y123.length + l0.length < 2932031007402 then ((some (y123 ++ l0 : List (S25))).bind fun y126 => ((some (([(⟨l1_0, l1_1⟩ : S25)] : List (S25)) : List (S25))).bind fun y129 => (if y126.length + y129.length < 2932031007402 then ((score_Of.f kj4 (y126 ++ y129)).bind fun t135 => (catchwordlaw17_ScoreMore.j1 kj4 l0 t122 t135 l1_0 l1_1)) else (none)))) else (none)))) = some r := by rw [if_neg (show ¬ (false = true) by decide)] at H; exact H
          clear H
          have H := H1
          clear H1
          replace H := Option.bind_eq_some_iff.mp H
          obtain ⟨t122, A190, H⟩ := H
          replace H : ((some (([] : List (S25)) : List (S25))).bind fun y123 => (if y123.length + l0.length < 2932031007402 then ((some (y123 ++ l0 : List (S25))).bind fun y126 => ((some (([(⟨l1_0, l1_1⟩ : S25)] : List (S25)) : List (S25))).bind fun y129 => (if y126.length + y129.length < 2932031007402 then ((score_Of.f kj4 (y126 ++ y129)).bind fun t135 => (catchwordlaw17_ScoreMore.j1 kj4 l0 t122 t135 l1_0 l1_1)) else (none)))) else (none))) = some r := H
          have A19 := Aside0.mk A190
          clear A190
          have HC20 := Aside0.mk H
          clear H
          go_upto_region 6 with (first | ((with_reducible refine gate_callee (f := 9) rfl ?_); refine goesL_ (some 20) rfl rfl Try.func9 (by kernel_rfl) rfl #[.slice A0 l0.length c0] rfl (by (try simp only [List.map_toArray, List.map_cons, List.map_nil]); first | done | rfl | (simp only [List.length_drop, List.length_take]; rfl)) ?_; (with_reducible refine (score_Of.calls kj4 _ _ l0 t122 _ ?side1 ?side2 A19.out).mono ?_); (case side1 => repeat (first | exact (Kd.V_reads' HO_0.out).2.2 | (with_reducible refine Kd.C_alloc ?_ _) | (with_reducible refine Kd.C_drewN ?_ _) | (with_reducible refine Kd.C_drew ?_))); (case side2 => exact (Kd.V_reads' HO_0.out).2.1); rintro e w21 ⟨rfl, hb⟩; refine ⟨_, rfl, ?_⟩; have n0_ := Aside0.mk (Kd.V_below (by (with_reducible repeat (first | apply Kd.V_alloc | apply Kd.V_drewN | apply Kd.V_drew)); exact HO_0.out) hb); have n1_ := Aside0.mk (Kd.V_below (by (with_reducible repeat (first | apply Kd.V_alloc | apply Kd.V_drewN | apply Kd.V_drew)); exact HO_116000.out) hb); have n2_ := Aside0.mk (Kd.V_below (by (with_reducible repeat (first | apply Kd.V_alloc | apply Kd.V_drewN | apply Kd.V_drew)); exact HO_116001.out) hb); have n3_ := Aside0.mk (blk_below (g := gb115) (o := .cells #[.slice A1_0 l1_0.length c1_0, .slice A1_1 l1_1.length c1_1] 25 (0, 0)) (by (with_reducible repeat (first | refine blk_drewN ?_ _ | refine blk_drew ?_ | refine blk_alloc ?_ _)); exact BK115.out) hb); have n4_ := Aside0.mk (below_step (by repeat (first | (with_reducible first | exact HB.out | apply below_alloc | apply pw_below_drewN | apply below_drew1 | refine below_set ?_ GE115.out) | exact HB.out)) hb); clear HO_0; clear HO_116000; clear HO_116001; clear BK115; clear HB; have HO_0 := n0_; have HO_116000 := n1_; have HO_116001 := n2_; have BK115 := n3_; have HB := n4_; clear n0_ n1_ n2_ n3_ n4_; (try clear hb); (try clear hb2); (try clear hk); (try clear hi)))
          (try simp only [Act.put, List.setIfInBounds_toArray, List.set_cons_zero, List.set_cons_succ])
          go_cut [6] (fun v6 wc => ∃ (kq : Nat) (x6_19 : Int), v6 = .int .i64 x6_19 ∧ Aside0 (catchwordlaw17_ScoreMore.j1 kq l0 t122 x6_19 l1_0 l1_1 = some r) ∧ Aside0 (kq ≤ kj4) ∧ Aside0 (Kd.V k25 25 wc w.heap.size (fun k_ => ((P0_ k_ ∨ P1_0_ k_ ∨ P1_1_ k_) ∨ w.heap.size ≤ k_) ∧ k_ ≠ gb115) (.slice A0 l0.length c0) l0) ∧ Aside0 (Kd.V k31 31 wc w.heap.size (fun k_ => ((P0_ k_ ∨ P1_0_ k_ ∨ P1_1_ k_) ∨ w.heap.size ≤ k_) ∧ k_ ≠ gb115) (.slice A1_0 l1_0.length c1_0) l1_0) ∧ Aside0 (Kd.V k31 31 wc w.heap.size (fun k_ => ((P0_ k_ ∨ P1_0_ k_ ∨ P1_1_ k_) ∨ w.heap.size ≤ k_) ∧ k_ ≠ gb115) (.slice A1_1 l1_1.length c1_1) l1_1) ∧ Aside0 (wc.heap[gb115]? = some (.cells #[(.slice A1_0 l1_0.length c1_0), (.slice A1_1 l1_1.length c1_1)] 25 (0, 0))) ∧ Aside0 (Below w.heap.size w wc))
          case first =>
            have H := HC20.out
            clear HC20
            obtain ⟨y123, hy123⟩ : ∃ y_ : List (S25), y_ = (([] : List (S25))) := ⟨_, rfl⟩
            replace H : (if y123.length + l0.length < 2932031007402 then ((some (y123 ++ l0 : List (S25))).bind fun y126 => ((some (([(⟨l1_0, l1_1⟩ : S25)] : List (S25)) : List (S25))).bind fun y129 => (if y126.length + y129.length < 2932031007402 then ((score_Of.f kj4 (y126 ++ y129)).bind fun t135 => (catchwordlaw17_ScoreMore.j1 kj4 l0 t122 t135 l1_0 l1_1)) else (none)))) else (none)) = some r := by first | (rw [hy123]; with_reducible exact H) | (have H2_ := (Option.bind_some _ _).symm.trans H; rw [hy123]; with_reducible exact H2_) | (have H2_ := (Option.bind_some _ _).symm.trans H; with_reducible exact H2_) | with_reducible exact H | (rw [hy123]; exact H) | exact H
            have Ny123 := Aside0.mk hy123
            clear hy123
            by_cases c22 : y123.length + l0.length < 2932031007402
            · rw [if_pos c22] at H
              have LMc22 := Aside0.mk c22
              clear c22
              obtain ⟨y126, hy126⟩ : ∃ y_ : List (S25), y_ = (y123 ++ l0) := ⟨_, rfl⟩
              replace H : ((some (([(⟨l1_0, l1_1⟩ : S25)] : List (S25)) : List (S25))).bind fun y129 => (if y126.length + y129.length < 2932031007402 then ((score_Of.f kj4 (y126 ++ y129)).bind fun t135 => (catchwordlaw17_ScoreMore.j1 kj4 l0 t122 t135 l1_0 l1_1)) else (none))) = some r := by first | (rw [hy126]; with_reducible exact H) | (have H2_ := (Option.bind_some _ _).symm.trans H; rw [hy126]; with_reducible exact H2_) | (have H2_ := (Option.bind_some _ _).symm.trans H; with_reducible exact H2_) | with_reducible exact H | (rw [hy126]; exact H) | exact H
              have Ny126 := Aside0.mk hy126
              clear hy126
              obtain ⟨y129, hy129⟩ : ∃ y_ : List (S25), y_ = (([(⟨l1_0, l1_1⟩ : S25)] : List (S25))) := ⟨_, rfl⟩
              replace H : (if y126.length + y129.length < 2932031007402 then ((score_Of.f kj4 (y126 ++ y129)).bind fun t135 => (catchwordlaw17_ScoreMore.j1 kj4 l0 t122 t135 l1_0 l1_1)) else (none)) = some r := by first | (rw [hy129]; with_reducible exact H) | (have H2_ := (Option.bind_some _ _).symm.trans H; rw [hy129]; with_reducible exact H2_) | (have H2_ := (Option.bind_some _ _).symm.trans H; with_reducible exact H2_) | with_reducible exact H | (rw [hy129]; exact H) | exact H
              have Ny129 := Aside0.mk hy129
              clear hy129
              by_cases c23 : y126.length + y129.length < 2932031007402
              · rw [if_pos c23] at H
                have LMc23 := Aside0.mk c23
                clear c23
                obtain ⟨y132, hy132⟩ : ∃ y_ : List (S25), y_ = (y126 ++ y129) := ⟨_, rfl⟩
                replace H : ((score_Of.f kj4 y132).bind fun t135 => (catchwordlaw17_ScoreMore.j1 kj4 l0 t122 t135 l1_0 l1_1)) = some r := by first | (rw [hy132]; with_reducible exact H) | (have H2_ := (Option.bind_some _ _).symm.trans H; rw [hy132]; with_reducible exact H2_) | (have H2_ := (Option.bind_some _ _).symm.trans H; with_reducible exact H2_) | with_reducible exact H | (rw [hy132]; exact H) | exact H
                have Ny132 := Aside0.mk hy132
                clear hy132
                replace H := Option.bind_eq_some_iff.mp H
                obtain ⟨t135, A240, H⟩ := H
                replace H : (catchwordlaw17_ScoreMore.j1 kj4 l0 t122 t135 l1_0 l1_1) = some r := H
                have A24 := Aside0.mk A240
                clear A240
                have H' := Aside0.mk H
                clear H
                try go_wp2
                have n0_ := Aside0.mk (Kd.V_drew HO_0.out)
                have n1_ := Aside0.mk (Kd.V_drew HO_116000.out)
                have n2_ := Aside0.mk (Kd.V_drew HO_116001.out)
                have n3_ := Aside0.mk (blk_drew BK115.out)
                have n4_ := Aside0.mk (below_drew1 HB.out)
                clear HO_0
                clear HO_116000
                clear HO_116001
                clear BK115
                clear HB
                have HO_0 := n0_
                have HO_116000 := n1_
                have HO_116001 := n2_
                have BK115 := n3_
                have HB := n4_
                clear n0_ n1_ n2_ n3_ n4_
                refine start_ (n := 8) (S := fun w' => w'.cell? ⟨gb115, 0, none⟩ = some (.slice A1_0 l1_0.length c1_0) ∧ w'.cell? ⟨gb115, 1, none⟩ = some (.slice A1_1 l1_1.length c1_1)) (ds := []) #[false, false, false, false, false, false, false, false] (by kernel_rfl) rfl rfl ⟨(blk_cell BK115.out 0).trans rfl, (blk_cell BK115.out 1).trans rfl⟩ (fun hHeld => ?_); refine with_tabW catchwordlaw17_ScoreMore.tab6 catchwordlaw17_ScoreMore.bits6 (fun HT_ HW_ => ?_)
                generalize w21.drew = w25 at HO_0 HO_116000 HO_116001 BK115 HB hHeld ⊢
                refine pure_ (i := 1) (N := some 22) (v := ?_) (a' := ?_) #[false, true, false, false, false, false, false, false] rfl rfl (any_of HT_.out (by kernel_rfl)) (fun _ _ _ h => h) (Or.inl ⟨by rfl, ?_⟩) ?_ ?_
                rotate_left
                · intro w'
                  go_simp
                  with_reducible rfl
                rotate_left
                · simp only [Act.put, List.setIfInBounds_toArray, List.set_cons_zero, List.set_cons_succ, i64_w, i32_w]
                  rfl
                refine take_ (i := 3) (N := some 24) (v := ?_) (a' := ?_) #[false, true, false, true, false, false, false, false] rfl rfl (take_ofW HT_.out HW_.out (by kernel_rfl)) (fun _ _ _ h => h) (Or.inl ⟨by rfl, ?_⟩) hHeld ?_ ?_
                rotate_left
                · rintro w' ⟨s0, s1⟩
                  go_simp
                  with_reducible rfl
                rotate_left
                · simp only [Act.put, List.setIfInBounds_toArray, List.set_cons_zero, List.set_cons_succ, i64_w, i32_w]
                  rfl
                refine join_ (σ := Value × Value × Value) 3 #[true, true, true, true, true, false, false, false] (fun s_ => [(21, s_.1), (23, s_.2.1), (25, s_.2.2)]) (fun s_ w' => (w'.cell? ⟨gb115, 0, none⟩ = some (.slice A1_0 l1_0.length c1_0) ∧ w'.cell? ⟨gb115, 1, none⟩ = some (.slice A1_1 l1_1.length c1_1)) ∧ (Kd.N k25 25 w' w.heap.size (fun k_ => ((P0_ k_ ∨ P1_0_ k_ ∨ P1_1_ k_) ∨ w.heap.size ≤ k_) ∧ some k_ ≠ (s_.2.2 : Value).ownBlock ∧ k_ ≠ gb115) s_.2.1 y126) ∧ (Kd.N k25 25 w' w.heap.size (fun k_ => ((P0_ k_ ∨ P1_0_ k_ ∨ P1_1_ k_) ∨ w.heap.size ≤ k_) ∧ some k_ ≠ (s_.2.1 : Value).ownBlock ∧ k_ ≠ gb115) s_.2.2 y129) ∧ (Kd.V k25 25 w' w.heap.size (fun k_ => ((P0_ k_ ∨ P1_0_ k_ ∨ P1_1_ k_) ∨ w.heap.size ≤ k_) ∧ some k_ ≠ (s_.2.1 : Value).ownBlock ∧ some k_ ≠ (s_.2.2 : Value).ownBlock ∧ k_ ≠ gb115) (.slice A0 l0.length c0) l0) ∧ (Kd.V k31 31 w' w.heap.size (fun k_ => ((P0_ k_ ∨ P1_0_ k_ ∨ P1_1_ k_) ∨ w.heap.size ≤ k_) ∧ some k_ ≠ (s_.2.1 : Value).ownBlock ∧ some k_ ≠ (s_.2.2 : Value).ownBlock ∧ k_ ≠ gb115) (.slice A1_0 l1_0.length c1_0) l1_0) ∧ (Kd.V k31 31 w' w.heap.size (fun k_ => ((P0_ k_ ∨ P1_0_ k_ ∨ P1_1_ k_) ∨ w.heap.size ≤ k_) ∧ some k_ ≠ (s_.2.1 : Value).ownBlock ∧ some k_ ≠ (s_.2.2 : Value).ownBlock ∧ k_ ≠ gb115) (.slice A1_1 l1_1.length c1_1) l1_1) ∧ (w'.heap[gb115]? = some (.cells #[.slice A1_0 l1_0.length c1_0, .slice A1_1 l1_1.length c1_1] 25 (0, 0))) ∧ (Below w.heap.size w w')) ?_ ?_
                rotate_left
                · intro hCont
                  refine two_ (i := 0) (j := 4) (Ni := some 21) (Nj := some 25) #[true, true, false, true, false, false, false, false] #[false, true, false, true, true, false, false, false] rfl rfl rfl rfl (two_of HT_.out (by kernel_rfl)) (by decide) (by decide) (fun K hK => ?_) (fun K hK => ?_)
                  · skip
                    refine Kd.N_lit_step k25 _ 25 ?hg (N' := 21) ?hd (xs := ([] : List (S25))) (inner := []) (ok := (fun k_ => ((P0_ k_ ∨ P1_0_ k_ ∨ P1_1_ k_) ∨ w.heap.size ≤ k_) ∧ k_ ≠ gb115)) (okp := (fun k_ => ((P0_ k_ ∨ P1_0_ k_ ∨ P1_1_ k_) ∨ w.heap.size ≤ k_) ∧ k_ ≠ gb115)) ?hr ?hp (fun _ hk => hk) ((show ∀ k_, w25.heap.size ≤ k_ → (fun k_ => ((P0_ k_ ∨ P1_0_ k_ ∨ P1_1_ k_) ∨ w.heap.size ≤ k_) ∧ k_ ≠ gb115) k_ from fun k_ hk => ⟨(.inr (Nat.le_trans (below_size (by repeat (first | (with_reducible first | exact HB.out | apply below_alloc | apply pw_below_drewN | apply below_drew1 | refine below_set ?_ GE115.out) | exact HB.out))) hk)), Kd.freshB (g := gb115) (o := .cells #[.slice A1_0 l1_0.length c1_0, .slice A1_1 l1_1.length c1_1] 25 (0, 0)) (by (with_reducible repeat (first | refine blk_drewN ?_ _ | refine blk_drew ?_ | refine blk_alloc ?_ _)); exact BK115.out) k_ hk⟩) _ (Nat.le_refl _)) (Below.refl _ _) (Nat.le_refl _) (by simp) ?_; (case hd => rfl); (case hg => rfl); (case hr => first | (go_simp; done) | (go_simp; rfl)); (case hp => exact (Reps.none _ _))
                    intro v124 w26 ho27 hb hg_ hnew_
                    clear hg_ hnew_
                    (first | rw [← Ny123.out] at ho27 | (simp only [Int.reduceToNat] at ho27; rw [← Ny123.out] at ho27))
                    have n0_ := Aside0.mk (Kd.V_elder' (by (with_reducible repeat (first | apply Kd.V_alloc | apply Kd.V_drewN | apply Kd.V_drew)); exact HO_0.out) (Kd.N_base ho27) hb)
                    have n1_ := Aside0.mk (Kd.V_elder' (by (with_reducible repeat (first | apply Kd.V_alloc | apply Kd.V_drewN | apply Kd.V_drew)); exact HO_116000.out) (Kd.N_base ho27) hb)
                    have n2_ := Aside0.mk (Kd.V_elder' (by (with_reducible repeat (first | apply Kd.V_alloc | apply Kd.V_drewN | apply Kd.V_drew)); exact HO_116001.out) (Kd.N_base ho27) hb)
                    have n3_ := Aside0.mk (Kd.N_lower ho27 (below_size (by repeat (first | (with_reducible first | exact HB.out | apply below_alloc | apply pw_below_drewN | apply below_drew1 | refine below_set ?_ GE115.out) | exact HB.out))))
                    have n4_ := Aside0.mk (blk_below (g := gb115) (o := .cells #[.slice A1_0 l1_0.length c1_0, .slice A1_1 l1_1.length c1_1] 25 (0, 0)) (by (with_reducible repeat (first | refine blk_drewN ?_ _ | refine blk_drew ?_ | refine blk_alloc ?_ _)); exact BK115.out) hb)
                    have n5_ := Aside0.mk (below_step (by repeat (first | (with_reducible first | exact HB.out | apply below_alloc | apply pw_below_drewN | apply below_drew1 | refine below_set ?_ GE115.out) | exact HB.out)) hb)
                    clear HO_0
                    clear HO_116000
                    clear HO_116001
                    clear BK115
                    clear HB
                    have HO_0 := n0_
                    have HO_116000 := n1_
                    have HO_116001 := n2_
                    have HO125 := n3_
                    have BK115 := n4_
                    have HB := n5_
                    clear n0_ n1_ n2_ n3_ n4_ n5_
                    clear hb ho27
                    refine hK.out _ _ ⟨(blk_cell BK115.out 0).trans rfl, (blk_cell BK115.out 1).trans rfl⟩ (fun hHeld => ?_)
                    clear hK K
                    refine norm_ (a' := ?_) ?_ ?_
                    rotate_left
                    · show Act.put _ (some 21) _ = _
                      simp only [Act.put, List.setIfInBounds_toArray, List.set_cons_zero, List.set_cons_succ, i64_w, i32_w]
                      rfl
                    refine two_ (i := 2) (j := 4) (Ni := some 23) (Nj := some 25) #[true, true, true, true, false, false, false, false] #[true, true, false, true, true, false, false, false] rfl rfl rfl rfl (two_of HT_.out (by kernel_rfl)) (by decide) (by decide) (fun K hK => ?_) (fun K hK => ?_)
                    · skip
                      refine Kd.N_append_rows_step k25 (w0 := w) w.heap.size (by rfl) (.tmp 21) (.tmp 22) 22 25 (.agg #[(.slice none 0 0), (.slice none 0 0)]) 48 rfl Try.underlying22 info25 rfl (by decide) (by omega) v124 y123 l0 _ _ _ (fun k_ => ((P0_ k_ ∨ P1_0_ k_ ∨ P1_1_ k_) ∨ w.heap.size ≤ k_) ∧ k_ ≠ gb115) (fun k_ => ((fun k_ => ((P0_ k_ ∨ P1_0_ k_ ∨ P1_1_ k_) ∨ w.heap.size ≤ k_) ∧ k_ ≠ gb115)) k_ ∧ some k_ ≠ (v124 : Value).ownBlock) rfl rfl ?aO ?aR (fun _ hk => hk) ?aF ?aB ?aS ?aL ?_
                      (case aR => exact (by skip; exact Kd.V_F (Kd.V_mono (ok' := (fun k_ => ((fun k_ => ((P0_ k_ ∨ P1_0_ k_ ∨ P1_1_ k_) ∨ w.heap.size ≤ k_) ∧ k_ ≠ gb115)) k_ ∧ some k_ ≠ (v124 : Value).ownBlock)) (HO_0.out) (fun k_ hk => ⟨⟨hk.1.1, hk.1.2⟩, hk.2⟩))))
                      (case aB => exact (by repeat (first | (with_reducible first | exact HB.out | apply below_alloc | apply pw_below_drewN | apply below_drew1 | refine below_set ?_ GE115.out) | exact HB.out)))
                      (case aF => exact (fun k_ hk => ⟨(.inr (Nat.le_trans (below_size (by repeat (first | (with_reducible first | exact HB.out | apply below_alloc | apply pw_below_drewN | apply below_drew1 | refine below_set ?_ GE115.out) | exact HB.out))) hk)), Kd.freshB (g := gb115) (o := .cells #[.slice A1_0 l1_0.length c1_0, .slice A1_1 l1_1.length c1_1] 25 (0, 0)) (by (with_reducible repeat (first | refine blk_drewN ?_ _ | refine blk_drew ?_ | refine blk_alloc ?_ _)); exact BK115.out) k_ hk⟩))
                      (case aO => exact (by (with_reducible repeat (first | apply Kd.N_alloc | apply Kd.N_drewN | apply Kd.N_drew)); exact HO125.out))
                      (case aS => exact (below_size (by repeat (first | (with_reducible first | exact HB.out | apply below_alloc | apply pw_below_drewN | apply below_drew1 | refine below_set ?_ GE115.out) | exact HB.out))))
                      (case aL => have := LMc22.out; omega)
                      intro v127 w28 ho hb hg hat
                      rw [← Ny126.out] at ho
                      have n0_ := Aside0.mk (Kd.V_afterv (ok := (fun k_ => ((P0_ k_ ∨ P1_0_ k_ ∨ P1_1_ k_) ∨ w.heap.size ≤ k_) ∧ k_ ≠ gb115)) (by (with_reducible repeat (first | apply Kd.V_alloc | apply Kd.V_drewN | apply Kd.V_drew)); exact HO_0.out) hg hat)
                      have n1_ := Aside0.mk (Kd.V_afterv (ok := (fun k_ => ((P0_ k_ ∨ P1_0_ k_ ∨ P1_1_ k_) ∨ w.heap.size ≤ k_) ∧ k_ ≠ gb115)) (by (with_reducible repeat (first | apply Kd.V_alloc | apply Kd.V_drewN | apply Kd.V_drew)); exact HO_116000.out) hg hat)
                      have n2_ := Aside0.mk (Kd.V_afterv (ok := (fun k_ => ((P0_ k_ ∨ P1_0_ k_ ∨ P1_1_ k_) ∨ w.heap.size ≤ k_) ∧ k_ ≠ gb115)) (by (with_reducible repeat (first | apply Kd.V_alloc | apply Kd.V_drewN | apply Kd.V_drew)); exact HO_116001.out) hg hat)
                      have n3_ := Aside0.mk (blk_grown (g := gb115) (o := .cells #[.slice A1_0 l1_0.length c1_0, .slice A1_1 l1_1.length c1_1] 25 (0, 0)) (by (with_reducible repeat (first | refine blk_drewN ?_ _ | refine blk_drew ?_ | refine blk_alloc ?_ _)); exact BK115.out) hg (Kd.N_away HO125.out (fun _ hk => hk.2)))
                      have n4_ := Aside0.mk (hb)
                      have n5_ := Aside0.mk (ho)
                      clear HO_0
                      clear HO_116000
                      clear HO_116001
                      clear BK115
                      clear HB
                      clear HO125
                      have HO_0 := n0_
                      have HO_116000 := n1_
                      have HO_116001 := n2_
                      have BK115 := n3_
                      have HB := n4_
                      have HO128 := n5_
                      clear n0_ n1_ n2_ n3_ n4_ n5_
                      clear ho hb hg hat
                      refine hK.out _ _ ⟨(blk_cell BK115.out 0).trans rfl, (blk_cell BK115.out 1).trans rfl⟩ (fun hHeld => ?_)
                      clear hK K
                      refine norm_ (a' := ?_) ?_ ?_
                      rotate_left
                      · show Act.put _ (some 23) _ = _
                        simp only [Act.put, List.setIfInBounds_toArray, List.set_cons_zero, List.set_cons_succ, i64_w, i32_w]
                        rfl
                      refine one_ (i := 4) (N := some 25) #[true, true, true, true, true, false, false, false] rfl rfl (one_of HT_.out (by kernel_rfl)) (by decide) (fun K hK => ?_)
                      refine Kd.N_lit_step k25 _ 25 ?hg (N' := 25) ?hd (xs := ([(⟨l1_0, l1_1⟩ : S25)] : List (S25))) (inner := [.slice A1_0 l1_0.length c1_0, .slice A1_1 l1_1.length c1_1]) (ok := (fun k_ => ((P0_ k_ ∨ P1_0_ k_ ∨ P1_1_ k_) ∨ w.heap.size ≤ k_) ∧ some k_ ≠ (v127 : Value).ownBlock ∧ k_ ≠ gb115)) (okp := (fun k_ => ((P0_ k_ ∨ P1_0_ k_ ∨ P1_1_ k_) ∨ w.heap.size ≤ k_) ∧ some k_ ≠ (v127 : Value).ownBlock ∧ k_ ≠ gb115)) ?hr ?hp (fun _ hk => hk) ((show ∀ k_, w28.heap.size ≤ k_ → (fun k_ => ((P0_ k_ ∨ P1_0_ k_ ∨ P1_1_ k_) ∨ w.heap.size ≤ k_) ∧ some k_ ≠ (v127 : Value).ownBlock ∧ k_ ≠ gb115) k_ from fun k_ hk => ⟨(.inr (Nat.le_trans (below_size (by repeat (first | (with_reducible first | exact HB.out | apply below_alloc | apply pw_below_drewN | apply below_drew1 | refine below_set ?_ GE115.out) | exact HB.out))) hk)), Kd.fresh' (Kd.N_lt (by (with_reducible repeat (first | apply Kd.N_alloc | apply Kd.N_drewN | apply Kd.N_drew)); exact HO128.out)) k_ hk, Kd.freshB (g := gb115) (o := .cells #[.slice A1_0 l1_0.length c1_0, .slice A1_1 l1_1.length c1_1] 25 (0, 0)) (by (with_reducible repeat (first | refine blk_drewN ?_ _ | refine blk_drew ?_ | refine blk_alloc ?_ _)); exact BK115.out) k_ hk⟩) _ (Nat.le_refl _)) (Below.refl _ _) (Nat.le_refl _) (by simp) ?_; (case hd => rfl); (case hg => rfl); (case hr => first | (go_simp; done) | (go_simp; rfl)); (case hp => exact (Reps.c2 (show Kd.FK k25 _ _ (⟨l1_0, l1_1⟩ : S25) [.slice A1_0 l1_0.length c1_0, .slice A1_1 l1_1.length c1_1] from (k25_mkF _ _ (⟨l1_0, l1_1⟩ : S25) (Kd.V_reads' (Kd.V_mono (ok' := (fun k_ => ((P0_ k_ ∨ P1_0_ k_ ∨ P1_1_ k_) ∨ w.heap.size ≤ k_) ∧ some k_ ≠ (v127 : Value).ownBlock ∧ k_ ≠ gb115)) (HO_116000.out) (fun k_ hk => ⟨hk.1.1, ⟨hk.2, hk.1.2⟩⟩))).2.1 (Kd.V_F (Kd.V_mono (ok' := (fun k_ => ((P0_ k_ ∨ P1_0_ k_ ∨ P1_1_ k_) ∨ w.heap.size ≤ k_) ∧ some k_ ≠ (v127 : Value).ownBlock ∧ k_ ≠ gb115)) (HO_116000.out) (fun k_ hk => ⟨hk.1.1, ⟨hk.2, hk.1.2⟩⟩))) (Kd.V_reads' (Kd.V_mono (ok' := (fun k_ => ((P0_ k_ ∨ P1_0_ k_ ∨ P1_1_ k_) ∨ w.heap.size ≤ k_) ∧ some k_ ≠ (v127 : Value).ownBlock ∧ k_ ≠ gb115)) (HO_116001.out) (fun k_ hk => ⟨hk.1.1, ⟨hk.2, hk.1.2⟩⟩))).2.1 (Kd.V_F (Kd.V_mono (ok' := (fun k_ => ((P0_ k_ ∨ P1_0_ k_ ∨ P1_1_ k_) ∨ w.heap.size ≤ k_) ∧ some k_ ≠ (v127 : Value).ownBlock ∧ k_ ≠ gb115)) (HO_116001.out) (fun k_ hk => ⟨hk.1.1, ⟨hk.2, hk.1.2⟩⟩))))) (Reps.none _ _)))
                      intro v130 w29 ho30 hb hg_ hnew_
                      clear hg_ hnew_
                      (first | rw [← Ny129.out] at ho30 | (simp only [Int.reduceToNat] at ho30; rw [← Ny129.out] at ho30))
                      have n0_ := Aside0.mk (Kd.V_elder' (by (with_reducible repeat (first | apply Kd.V_alloc | apply Kd.V_drewN | apply Kd.V_drew)); exact HO_0.out) (Kd.N_base ho30) hb)
                      have n1_ := Aside0.mk (Kd.V_elder' (by (with_reducible repeat (first | apply Kd.V_alloc | apply Kd.V_drewN | apply Kd.V_drew)); exact HO_116000.out) (Kd.N_base ho30) hb)
                      have n2_ := Aside0.mk (Kd.V_elder' (by (with_reducible repeat (first | apply Kd.V_alloc | apply Kd.V_drewN | apply Kd.V_drew)); exact HO_116001.out) (Kd.N_base ho30) hb)
                      have n3_ := Aside0.mk (Kd.N_elder' (by (with_reducible repeat (first | apply Kd.N_alloc | apply Kd.N_drewN | apply Kd.N_drew)); exact HO128.out) (Kd.N_base ho30) hb)
                      have n4_ := Aside0.mk (Kd.N_lower ho30 (below_size (by repeat (first | (with_reducible first | exact HB.out | apply below_alloc | apply pw_below_drewN | apply below_drew1 | refine below_set ?_ GE115.out) | exact HB.out))))
                      have n5_ := Aside0.mk (blk_below (g := gb115) (o := .cells #[.slice A1_0 l1_0.length c1_0, .slice A1_1 l1_1.length c1_1] 25 (0, 0)) (by (with_reducible repeat (first | refine blk_drewN ?_ _ | refine blk_drew ?_ | refine blk_alloc ?_ _)); exact BK115.out) hb)
                      have n6_ := Aside0.mk (below_step (by repeat (first | (with_reducible first | exact HB.out | apply below_alloc | apply pw_below_drewN | apply below_drew1 | refine below_set ?_ GE115.out) | exact HB.out)) hb)
                      clear HO_0
                      clear HO_116000
                      clear HO_116001
                      clear HO128
                      clear BK115
                      clear HB
                      have HO_0 := n0_
                      have HO_116000 := n1_
                      have HO_116001 := n2_
                      have HO128 := n3_
                      have HO131 := n4_
                      have BK115 := n5_
                      have HB := n6_
                      clear n0_ n1_ n2_ n3_ n4_ n5_ n6_
                      clear hb ho30
                      refine hK.out _ _ ⟨(blk_cell BK115.out 0).trans rfl, (blk_cell BK115.out 1).trans rfl⟩ (fun hHeld => ?_)
                      clear hK K
                      refine norm_ (a' := ?_) ?_ ?_
                      rotate_left
                      · show Act.put _ (some 25) _ = _
                        simp only [Act.put, List.setIfInBounds_toArray, List.set_cons_zero, List.set_cons_succ, i64_w, i32_w]
                        rfl
                      exact norm_ (by simp only [putAll, Act.put, List.setIfInBounds_toArray, List.set_cons_zero, List.set_cons_succ]) (hCont (v124, v127, v130) _ ⟨hHeld, (by (with_reducible repeat (first | apply Kd.N_alloc | apply Kd.N_drewN | apply Kd.N_drew)); exact Kd.N_mono HO128.out (fun _ hk => ⟨hk.1.1, ⟨hk.2, hk.1.2⟩⟩)), (by (with_reducible repeat (first | apply Kd.N_alloc | apply Kd.N_drewN | apply Kd.N_drew)); exact HO131.out), (by (with_reducible repeat (first | apply Kd.V_alloc | apply Kd.V_drewN | apply Kd.V_drew)); exact Kd.V_mono HO_0.out (fun _ hk => ⟨hk.1.1.1, ⟨hk.1.2, ⟨hk.2, hk.1.1.2⟩⟩⟩)), (by (with_reducible repeat (first | apply Kd.V_alloc | apply Kd.V_drewN | apply Kd.V_drew)); exact Kd.V_mono HO_116000.out (fun _ hk => ⟨hk.1.1.1, ⟨hk.1.2, ⟨hk.2, hk.1.1.2⟩⟩⟩)), (by (with_reducible repeat (first | apply Kd.V_alloc | apply Kd.V_drewN | apply Kd.V_drew)); exact Kd.V_mono HO_116001.out (fun _ hk => ⟨hk.1.1.1, ⟨hk.1.2, ⟨hk.2, hk.1.1.2⟩⟩⟩)), (by (with_reducible repeat (first | refine blk_drewN ?_ _ | refine blk_drew ?_ | refine blk_alloc ?_ _)); exact BK115.out), (by repeat (first | (with_reducible first | exact HB.out | apply below_alloc | apply pw_below_drewN | apply below_drew1 | refine below_set ?_ GE115.out) | exact HB.out))⟩)
                    · skip
                      refine Kd.N_lit_step k25 _ 25 ?hg (N' := 25) ?hd (xs := ([(⟨l1_0, l1_1⟩ : S25)] : List (S25))) (inner := [.slice A1_0 l1_0.length c1_0, .slice A1_1 l1_1.length c1_1]) (ok := (fun k_ => ((P0_ k_ ∨ P1_0_ k_ ∨ P1_1_ k_) ∨ w.heap.size ≤ k_) ∧ some k_ ≠ (v124 : Value).ownBlock ∧ k_ ≠ gb115)) (okp := (fun k_ => ((P0_ k_ ∨ P1_0_ k_ ∨ P1_1_ k_) ∨ w.heap.size ≤ k_) ∧ some k_ ≠ (v124 : Value).ownBlock ∧ k_ ≠ gb115)) ?hr ?hp (fun _ hk => hk) ((show ∀ k_, w26.heap.size ≤ k_ → (fun k_ => ((P0_ k_ ∨ P1_0_ k_ ∨ P1_1_ k_) ∨ w.heap.size ≤ k_) ∧ some k_ ≠ (v124 : Value).ownBlock ∧ k_ ≠ gb115) k_ from fun k_ hk => ⟨(.inr (Nat.le_trans (below_size (by repeat (first | (with_reducible first | exact HB.out | apply below_alloc | apply pw_below_drewN | apply below_drew1 | refine below_set ?_ GE115.out) | exact HB.out))) hk)), Kd.fresh' (Kd.N_lt (by (with_reducible repeat (first | apply Kd.N_alloc | apply Kd.N_drewN | apply Kd.N_drew)); exact HO125.out)) k_ hk, Kd.freshB (g := gb115) (o := .cells #[.slice A1_0 l1_0.length c1_0, .slice A1_1 l1_1.length c1_1] 25 (0, 0)) (by (with_reducible repeat (first | refine blk_drewN ?_ _ | refine blk_drew ?_ | refine blk_alloc ?_ _)); exact BK115.out) k_ hk⟩) _ (Nat.le_refl _)) (Below.refl _ _) (Nat.le_refl _) (by simp) ?_; (case hd => rfl); (case hg => rfl); (case hr => first | (go_simp; done) | (go_simp; rfl)); (case hp => exact (Reps.c2 (show Kd.FK k25 _ _ (⟨l1_0, l1_1⟩ : S25) [.slice A1_0 l1_0.length c1_0, .slice A1_1 l1_1.length c1_1] from (k25_mkF _ _ (⟨l1_0, l1_1⟩ : S25) (Kd.V_reads' (Kd.V_mono (ok' := (fun k_ => ((P0_ k_ ∨ P1_0_ k_ ∨ P1_1_ k_) ∨ w.heap.size ≤ k_) ∧ some k_ ≠ (v124 : Value).ownBlock ∧ k_ ≠ gb115)) (HO_116000.out) (fun k_ hk => ⟨hk.1.1, ⟨hk.2, hk.1.2⟩⟩))).2.1 (Kd.V_F (Kd.V_mono (ok' := (fun k_ => ((P0_ k_ ∨ P1_0_ k_ ∨ P1_1_ k_) ∨ w.heap.size ≤ k_) ∧ some k_ ≠ (v124 : Value).ownBlock ∧ k_ ≠ gb115)) (HO_116000.out) (fun k_ hk => ⟨hk.1.1, ⟨hk.2, hk.1.2⟩⟩))) (Kd.V_reads' (Kd.V_mono (ok' := (fun k_ => ((P0_ k_ ∨ P1_0_ k_ ∨ P1_1_ k_) ∨ w.heap.size ≤ k_) ∧ some k_ ≠ (v124 : Value).ownBlock ∧ k_ ≠ gb115)) (HO_116001.out) (fun k_ hk => ⟨hk.1.1, ⟨hk.2, hk.1.2⟩⟩))).2.1 (Kd.V_F (Kd.V_mono (ok' := (fun k_ => ((P0_ k_ ∨ P1_0_ k_ ∨ P1_1_ k_) ∨ w.heap.size ≤ k_) ∧ some k_ ≠ (v124 : Value).ownBlock ∧ k_ ≠ gb115)) (HO_116001.out) (fun k_ hk => ⟨hk.1.1, ⟨hk.2, hk.1.2⟩⟩))))) (Reps.none _ _)))
                      intro v130 w28 ho29 hb hg_ hnew_
                      clear hg_ hnew_
                      (first | rw [← Ny129.out] at ho29 | (simp only [Int.reduceToNat] at ho29; rw [← Ny129.out] at ho29))
                      have n0_ := Aside0.mk (Kd.V_elder' (by (with_reducible repeat (first | apply Kd.V_alloc | apply Kd.V_drewN | apply Kd.V_drew)); exact HO_0.out) (Kd.N_base ho29) hb)
                      have n1_ := Aside0.mk (Kd.V_elder' (by (with_reducible repeat (first | apply Kd.V_alloc | apply Kd.V_drewN | apply Kd.V_drew)); exact HO_116000.out) (Kd.N_base ho29) hb)
                      have n2_ := Aside0.mk (Kd.V_elder' (by (with_reducible repeat (first | apply Kd.V_alloc | apply Kd.V_drewN | apply Kd.V_drew)); exact HO_116001.out) (Kd.N_base ho29) hb)
                      have n3_ := Aside0.mk (Kd.N_elder' (by (with_reducible repeat (first | apply Kd.N_alloc | apply Kd.N_drewN | apply Kd.N_drew)); exact HO125.out) (Kd.N_base ho29) hb)
                      have n4_ := Aside0.mk (Kd.N_lower ho29 (below_size (by repeat (first | (with_reducible first | exact HB.out | apply below_alloc | apply pw_below_drewN | apply below_drew1 | refine below_set ?_ GE115.out) | exact HB.out))))
                      have n5_ := Aside0.mk (blk_below (g := gb115) (o := .cells #[.slice A1_0 l1_0.length c1_0, .slice A1_1 l1_1.length c1_1] 25 (0, 0)) (by (with_reducible repeat (first | refine blk_drewN ?_ _ | refine blk_drew ?_ | refine blk_alloc ?_ _)); exact BK115.out) hb)
                      have n6_ := Aside0.mk (below_step (by repeat (first | (with_reducible first | exact HB.out | apply below_alloc | apply pw_below_drewN | apply below_drew1 | refine below_set ?_ GE115.out) | exact HB.out)) hb)
                      clear HO_0
                      clear HO_116000
                      clear HO_116001
                      clear HO125
                      clear BK115
                      clear HB
                      have HO_0 := n0_
                      have HO_116000 := n1_
                      have HO_116001 := n2_
                      have HO125 := n3_
                      have HO131 := n4_
                      have BK115 := n5_
                      have HB := n6_
                      clear n0_ n1_ n2_ n3_ n4_ n5_ n6_
                      clear hb ho29
                      refine hK.out _ _ ⟨(blk_cell BK115.out 0).trans rfl, (blk_cell BK115.out 1).trans rfl⟩ (fun hHeld => ?_)
                      clear hK K
                      refine norm_ (a' := ?_) ?_ ?_
                      rotate_left
                      · show Act.put _ (some 25) _ = _
                        simp only [Act.put, List.setIfInBounds_toArray, List.set_cons_zero, List.set_cons_succ, i64_w, i32_w]
                        rfl
                      refine one_ (i := 2) (N := some 23) #[true, true, true, true, true, false, false, false] rfl rfl (one_of HT_.out (by kernel_rfl)) (by decide) (fun K hK => ?_)
                      refine Kd.N_append_rows_step k25 (w0 := w) w.heap.size (by rfl) (.tmp 21) (.tmp 22) 22 25 (.agg #[(.slice none 0 0), (.slice none 0 0)]) 48 rfl Try.underlying22 info25 rfl (by decide) (by omega) v124 y123 l0 _ _ _ (fun k_ => ((P0_ k_ ∨ P1_0_ k_ ∨ P1_1_ k_) ∨ w.heap.size ≤ k_) ∧ some k_ ≠ (v130 : Value).ownBlock ∧ k_ ≠ gb115) (fun k_ => ((fun k_ => ((P0_ k_ ∨ P1_0_ k_ ∨ P1_1_ k_) ∨ w.heap.size ≤ k_) ∧ some k_ ≠ (v130 : Value).ownBlock ∧ k_ ≠ gb115)) k_ ∧ some k_ ≠ (v124 : Value).ownBlock) rfl rfl ?aO ?aR (fun _ hk => hk) ?aF ?aB ?aS ?aL ?_
                      (case aR => exact (by skip; exact Kd.V_F (Kd.V_mono (ok' := (fun k_ => ((fun k_ => ((P0_ k_ ∨ P1_0_ k_ ∨ P1_1_ k_) ∨ w.heap.size ≤ k_) ∧ some k_ ≠ (v130 : Value).ownBlock ∧ k_ ≠ gb115)) k_ ∧ some k_ ≠ (v124 : Value).ownBlock)) (HO_0.out) (fun k_ hk => ⟨⟨hk.1.1.1, ⟨hk.2, hk.1.1.2⟩⟩, hk.1.2⟩))))
                      (case aB => exact (by repeat (first | (with_reducible first | exact HB.out | apply below_alloc | apply pw_below_drewN | apply below_drew1 | refine below_set ?_ GE115.out) | exact HB.out)))
                      (case aF => exact (fun k_ hk => ⟨(.inr (Nat.le_trans (below_size (by repeat (first | (with_reducible first | exact HB.out | apply below_alloc | apply pw_below_drewN | apply below_drew1 | refine below_set ?_ GE115.out) | exact HB.out))) hk)), Kd.fresh' (Kd.N_lt (by (with_reducible repeat (first | apply Kd.N_alloc | apply Kd.N_drewN | apply Kd.N_drew)); exact HO131.out)) k_ hk, Kd.freshB (g := gb115) (o := .cells #[.slice A1_0 l1_0.length c1_0, .slice A1_1 l1_1.length c1_1] 25 (0, 0)) (by (with_reducible repeat (first | refine blk_drewN ?_ _ | refine blk_drew ?_ | refine blk_alloc ?_ _)); exact BK115.out) k_ hk⟩))
                      (case aO => exact (by (with_reducible repeat (first | apply Kd.N_alloc | apply Kd.N_drewN | apply Kd.N_drew)); exact Kd.N_mono HO125.out (fun _ hk => ⟨hk.1.1, ⟨hk.2, hk.1.2⟩⟩)))
                      (case aS => exact (below_size (by repeat (first | (with_reducible first | exact HB.out | apply below_alloc | apply pw_below_drewN | apply below_drew1 | refine below_set ?_ GE115.out) | exact HB.out))))
                      (case aL => have := LMc22.out; omega)
                      intro v127 w30 ho hb hg hat
                      rw [← Ny126.out] at ho
                      have n0_ := Aside0.mk (Kd.V_afterv (ok := (fun k_ => ((P0_ k_ ∨ P1_0_ k_ ∨ P1_1_ k_) ∨ w.heap.size ≤ k_) ∧ some k_ ≠ (v130 : Value).ownBlock ∧ k_ ≠ gb115)) (by (with_reducible repeat (first | apply Kd.V_alloc | apply Kd.V_drewN | apply Kd.V_drew)); exact Kd.V_mono HO_0.out (fun _ hk => ⟨⟨hk.1.1.1, ⟨hk.2, hk.1.1.2⟩⟩, hk.1.2⟩)) hg hat)
                      have n1_ := Aside0.mk (Kd.V_afterv (ok := (fun k_ => ((P0_ k_ ∨ P1_0_ k_ ∨ P1_1_ k_) ∨ w.heap.size ≤ k_) ∧ some k_ ≠ (v130 : Value).ownBlock ∧ k_ ≠ gb115)) (by (with_reducible repeat (first | apply Kd.V_alloc | apply Kd.V_drewN | apply Kd.V_drew)); exact Kd.V_mono HO_116000.out (fun _ hk => ⟨⟨hk.1.1.1, ⟨hk.2, hk.1.1.2⟩⟩, hk.1.2⟩)) hg hat)
                      have n2_ := Aside0.mk (Kd.V_afterv (ok := (fun k_ => ((P0_ k_ ∨ P1_0_ k_ ∨ P1_1_ k_) ∨ w.heap.size ≤ k_) ∧ some k_ ≠ (v130 : Value).ownBlock ∧ k_ ≠ gb115)) (by (with_reducible repeat (first | apply Kd.V_alloc | apply Kd.V_drewN | apply Kd.V_drew)); exact Kd.V_mono HO_116001.out (fun _ hk => ⟨⟨hk.1.1.1, ⟨hk.2, hk.1.1.2⟩⟩, hk.1.2⟩)) hg hat)
                      have n3_ := Aside0.mk (blk_grown (g := gb115) (o := .cells #[.slice A1_0 l1_0.length c1_0, .slice A1_1 l1_1.length c1_1] 25 (0, 0)) (by (with_reducible repeat (first | refine blk_drewN ?_ _ | refine blk_drew ?_ | refine blk_alloc ?_ _)); exact BK115.out) hg (Kd.N_away HO125.out (fun _ hk => hk.1.2)))
                      have n4_ := Aside0.mk (Kd.N_afterv (ok := (fun k_ => ((P0_ k_ ∨ P1_0_ k_ ∨ P1_1_ k_) ∨ w.heap.size ≤ k_) ∧ k_ ≠ gb115)) (by (with_reducible repeat (first | apply Kd.N_alloc | apply Kd.N_drewN | apply Kd.N_drew)); exact Kd.N_mono HO131.out (fun _ hk => ⟨⟨hk.1, hk.2.2⟩, hk.2.1⟩)) hg hat)
                      have n5_ := Aside0.mk (hb)
                      have n6_ := Aside0.mk (ho)
                      clear HO_0
                      clear HO_116000
                      clear HO_116001
                      clear BK115
                      clear HO131
                      clear HB
                      clear HO125
                      have HO_0 := n0_
                      have HO_116000 := n1_
                      have HO_116001 := n2_
                      have BK115 := n3_
                      have HO131 := n4_
                      have HB := n5_
                      have HO128 := n6_
                      clear n0_ n1_ n2_ n3_ n4_ n5_ n6_
                      clear ho hb hg hat
                      refine hK.out _ _ ⟨(blk_cell BK115.out 0).trans rfl, (blk_cell BK115.out 1).trans rfl⟩ (fun hHeld => ?_)
                      clear hK K
                      refine norm_ (a' := ?_) ?_ ?_
                      rotate_left
                      · show Act.put _ (some 23) _ = _
                        simp only [Act.put, List.setIfInBounds_toArray, List.set_cons_zero, List.set_cons_succ, i64_w, i32_w]
                        rfl
                      exact norm_ (by simp only [putAll, Act.put, List.setIfInBounds_toArray, List.set_cons_zero, List.set_cons_succ]) (hCont (v124, v127, v130) _ ⟨hHeld, (by (with_reducible repeat (first | apply Kd.N_alloc | apply Kd.N_drewN | apply Kd.N_drew)); exact HO128.out), (by (with_reducible repeat (first | apply Kd.N_alloc | apply Kd.N_drewN | apply Kd.N_drew)); exact Kd.N_mono HO131.out (fun _ hk => ⟨hk.1.1, ⟨hk.2, hk.1.2⟩⟩)), (by (with_reducible repeat (first | apply Kd.V_alloc | apply Kd.V_drewN | apply Kd.V_drew)); exact Kd.V_mono HO_0.out (fun _ hk => ⟨hk.1.1, ⟨hk.2, ⟨hk.1.2.1, hk.1.2.2⟩⟩⟩)), (by (with_reducible repeat (first | apply Kd.V_alloc | apply Kd.V_drewN | apply Kd.V_drew)); exact Kd.V_mono HO_116000.out (fun _ hk => ⟨hk.1.1, ⟨hk.2, ⟨hk.1.2.1, hk.1.2.2⟩⟩⟩)), (by (with_reducible repeat (first | apply Kd.V_alloc | apply Kd.V_drewN | apply Kd.V_drew)); exact Kd.V_mono HO_116001.out (fun _ hk => ⟨hk.1.1, ⟨hk.2, ⟨hk.1.2.1, hk.1.2.2⟩⟩⟩)), (by (with_reducible repeat (first | refine blk_drewN ?_ _ | refine blk_drew ?_ | refine blk_alloc ?_ _)); exact BK115.out), (by repeat (first | (with_reducible first | exact HB.out | apply below_alloc | apply pw_below_drewN | apply below_drew1 | refine below_set ?_ GE115.out) | exact HB.out))⟩)
                  · skip
                    refine Kd.N_lit_step k25 _ 25 ?hg (N' := 25) ?hd (xs := ([(⟨l1_0, l1_1⟩ : S25)] : List (S25))) (inner := [.slice A1_0 l1_0.length c1_0, .slice A1_1 l1_1.length c1_1]) (ok := (fun k_ => ((P0_ k_ ∨ P1_0_ k_ ∨ P1_1_ k_) ∨ w.heap.size ≤ k_) ∧ k_ ≠ gb115)) (okp := (fun k_ => ((P0_ k_ ∨ P1_0_ k_ ∨ P1_1_ k_) ∨ w.heap.size ≤ k_) ∧ k_ ≠ gb115)) ?hr ?hp (fun _ hk => hk) ((show ∀ k_, w25.heap.size ≤ k_ → (fun k_ => ((P0_ k_ ∨ P1_0_ k_ ∨ P1_1_ k_) ∨ w.heap.size ≤ k_) ∧ k_ ≠ gb115) k_ from fun k_ hk => ⟨(.inr (Nat.le_trans (below_size (by repeat (first | (with_reducible first | exact HB.out | apply below_alloc | apply pw_below_drewN | apply below_drew1 | refine below_set ?_ GE115.out) | exact HB.out))) hk)), Kd.freshB (g := gb115) (o := .cells #[.slice A1_0 l1_0.length c1_0, .slice A1_1 l1_1.length c1_1] 25 (0, 0)) (by (with_reducible repeat (first | refine blk_drewN ?_ _ | refine blk_drew ?_ | refine blk_alloc ?_ _)); exact BK115.out) k_ hk⟩) _ (Nat.le_refl _)) (Below.refl _ _) (Nat.le_refl _) (by simp) ?_; (case hd => rfl); (case hg => rfl); (case hr => first | (go_simp; done) | (go_simp; rfl)); (case hp => exact (Reps.c2 (show Kd.FK k25 _ _ (⟨l1_0, l1_1⟩ : S25) [.slice A1_0 l1_0.length c1_0, .slice A1_1 l1_1.length c1_1] from (k25_mkF _ _ (⟨l1_0, l1_1⟩ : S25) (Kd.V_reads' (Kd.V_mono (ok' := (fun k_ => ((P0_ k_ ∨ P1_0_ k_ ∨ P1_1_ k_) ∨ w.heap.size ≤ k_) ∧ k_ ≠ gb115)) (HO_116000.out) (fun k_ hk => ⟨hk.1, hk.2⟩))).2.1 (Kd.V_F (Kd.V_mono (ok' := (fun k_ => ((P0_ k_ ∨ P1_0_ k_ ∨ P1_1_ k_) ∨ w.heap.size ≤ k_) ∧ k_ ≠ gb115)) (HO_116000.out) (fun k_ hk => ⟨hk.1, hk.2⟩))) (Kd.V_reads' (Kd.V_mono (ok' := (fun k_ => ((P0_ k_ ∨ P1_0_ k_ ∨ P1_1_ k_) ∨ w.heap.size ≤ k_) ∧ k_ ≠ gb115)) (HO_116001.out) (fun k_ hk => ⟨hk.1, hk.2⟩))).2.1 (Kd.V_F (Kd.V_mono (ok' := (fun k_ => ((P0_ k_ ∨ P1_0_ k_ ∨ P1_1_ k_) ∨ w.heap.size ≤ k_) ∧ k_ ≠ gb115)) (HO_116001.out) (fun k_ hk => ⟨hk.1, hk.2⟩))))) (Reps.none _ _)))
                    intro v130 w26 ho27 hb hg_ hnew_
                    clear hg_ hnew_
                    (first | rw [← Ny129.out] at ho27 | (simp only [Int.reduceToNat] at ho27; rw [← Ny129.out] at ho27))
                    have n0_ := Aside0.mk (Kd.V_elder' (by (with_reducible repeat (first | apply Kd.V_alloc | apply Kd.V_drewN | apply Kd.V_drew)); exact HO_0.out) (Kd.N_base ho27) hb)
                    have n1_ := Aside0.mk (Kd.V_elder' (by (with_reducible repeat (first | apply Kd.V_alloc | apply Kd.V_drewN | apply Kd.V_drew)); exact HO_116000.out) (Kd.N_base ho27) hb)
                    have n2_ := Aside0.mk (Kd.V_elder' (by (with_reducible repeat (first | apply Kd.V_alloc | apply Kd.V_drewN | apply Kd.V_drew)); exact HO_116001.out) (Kd.N_base ho27) hb)
                    have n3_ := Aside0.mk (Kd.N_lower ho27 (below_size (by repeat (first | (with_reducible first | exact HB.out | apply below_alloc | apply pw_below_drewN | apply below_drew1 | refine below_set ?_ GE115.out) | exact HB.out))))
                    have n4_ := Aside0.mk (blk_below (g := gb115) (o := .cells #[.slice A1_0 l1_0.length c1_0, .slice A1_1 l1_1.length c1_1] 25 (0, 0)) (by (with_reducible repeat (first | refine blk_drewN ?_ _ | refine blk_drew ?_ | refine blk_alloc ?_ _)); exact BK115.out) hb)
                    have n5_ := Aside0.mk (below_step (by repeat (first | (with_reducible first | exact HB.out | apply below_alloc | apply pw_below_drewN | apply below_drew1 | refine below_set ?_ GE115.out) | exact HB.out)) hb)
                    clear HO_0
                    clear HO_116000
                    clear HO_116001
                    clear BK115
                    clear HB
                    have HO_0 := n0_
                    have HO_116000 := n1_
                    have HO_116001 := n2_
                    have HO131 := n3_
                    have BK115 := n4_
                    have HB := n5_
                    clear n0_ n1_ n2_ n3_ n4_ n5_
                    clear hb ho27
                    refine hK.out _ _ ⟨(blk_cell BK115.out 0).trans rfl, (blk_cell BK115.out 1).trans rfl⟩ (fun hHeld => ?_)
                    clear hK K
                    refine norm_ (a' := ?_) ?_ ?_
                    rotate_left
                    · show Act.put _ (some 25) _ = _
                      simp only [Act.put, List.setIfInBounds_toArray, List.set_cons_zero, List.set_cons_succ, i64_w, i32_w]
                      rfl
                    refine one_ (i := 0) (N := some 21) #[true, true, false, true, true, false, false, false] rfl rfl (one_of HT_.out (by kernel_rfl)) (by decide) (fun K hK => ?_)
                    refine Kd.N_lit_step k25 _ 25 ?hg (N' := 21) ?hd (xs := ([] : List (S25))) (inner := []) (ok := (fun k_ => ((P0_ k_ ∨ P1_0_ k_ ∨ P1_1_ k_) ∨ w.heap.size ≤ k_) ∧ some k_ ≠ (v130 : Value).ownBlock ∧ k_ ≠ gb115)) (okp := (fun k_ => ((P0_ k_ ∨ P1_0_ k_ ∨ P1_1_ k_) ∨ w.heap.size ≤ k_) ∧ some k_ ≠ (v130 : Value).ownBlock ∧ k_ ≠ gb115)) ?hr ?hp (fun _ hk => hk) ((show ∀ k_, w26.heap.size ≤ k_ → (fun k_ => ((P0_ k_ ∨ P1_0_ k_ ∨ P1_1_ k_) ∨ w.heap.size ≤ k_) ∧ some k_ ≠ (v130 : Value).ownBlock ∧ k_ ≠ gb115) k_ from fun k_ hk => ⟨(.inr (Nat.le_trans (below_size (by repeat (first | (with_reducible first | exact HB.out | apply below_alloc | apply pw_below_drewN | apply below_drew1 | refine below_set ?_ GE115.out) | exact HB.out))) hk)), Kd.fresh' (Kd.N_lt (by (with_reducible repeat (first | apply Kd.N_alloc | apply Kd.N_drewN | apply Kd.N_drew)); exact HO131.out)) k_ hk, Kd.freshB (g := gb115) (o := .cells #[.slice A1_0 l1_0.length c1_0, .slice A1_1 l1_1.length c1_1] 25 (0, 0)) (by (with_reducible repeat (first | refine blk_drewN ?_ _ | refine blk_drew ?_ | refine blk_alloc ?_ _)); exact BK115.out) k_ hk⟩) _ (Nat.le_refl _)) (Below.refl _ _) (Nat.le_refl _) (by simp) ?_; (case hd => rfl); (case hg => rfl); (case hr => first | (go_simp; done) | (go_simp; rfl)); (case hp => exact (Reps.none _ _))
                    intro v124 w28 ho29 hb hg_ hnew_
                    clear hg_ hnew_
                    (first | rw [← Ny123.out] at ho29 | (simp only [Int.reduceToNat] at ho29; rw [← Ny123.out] at ho29))
                    have n0_ := Aside0.mk (Kd.V_elder' (by (with_reducible repeat (first | apply Kd.V_alloc | apply Kd.V_drewN | apply Kd.V_drew)); exact HO_0.out) (Kd.N_base ho29) hb)
                    have n1_ := Aside0.mk (Kd.V_elder' (by (with_reducible repeat (first | apply Kd.V_alloc | apply Kd.V_drewN | apply Kd.V_drew)); exact HO_116000.out) (Kd.N_base ho29) hb)
                    have n2_ := Aside0.mk (Kd.V_elder' (by (with_reducible repeat (first | apply Kd.V_alloc | apply Kd.V_drewN | apply Kd.V_drew)); exact HO_116001.out) (Kd.N_base ho29) hb)
                    have n3_ := Aside0.mk (Kd.N_elder' (by (with_reducible repeat (first | apply Kd.N_alloc | apply Kd.N_drewN | apply Kd.N_drew)); exact HO131.out) (Kd.N_base ho29) hb)
                    have n4_ := Aside0.mk (Kd.N_lower ho29 (below_size (by repeat (first | (with_reducible first | exact HB.out | apply below_alloc | apply pw_below_drewN | apply below_drew1 | refine below_set ?_ GE115.out) | exact HB.out))))
                    have n5_ := Aside0.mk (blk_below (g := gb115) (o := .cells #[.slice A1_0 l1_0.length c1_0, .slice A1_1 l1_1.length c1_1] 25 (0, 0)) (by (with_reducible repeat (first | refine blk_drewN ?_ _ | refine blk_drew ?_ | refine blk_alloc ?_ _)); exact BK115.out) hb)
                    have n6_ := Aside0.mk (below_step (by repeat (first | (with_reducible first | exact HB.out | apply below_alloc | apply pw_below_drewN | apply below_drew1 | refine below_set ?_ GE115.out) | exact HB.out)) hb)
                    clear HO_0
                    clear HO_116000
                    clear HO_116001
                    clear HO131
                    clear BK115
                    clear HB
                    have HO_0 := n0_
                    have HO_116000 := n1_
                    have HO_116001 := n2_
                    have HO131 := n3_
                    have HO125 := n4_
                    have BK115 := n5_
                    have HB := n6_
                    clear n0_ n1_ n2_ n3_ n4_ n5_ n6_
                    clear hb ho29
                    refine hK.out _ _ ⟨(blk_cell BK115.out 0).trans rfl, (blk_cell BK115.out 1).trans rfl⟩ (fun hHeld => ?_)
                    clear hK K
                    refine norm_ (a' := ?_) ?_ ?_
                    rotate_left
                    · show Act.put _ (some 21) _ = _
                      simp only [Act.put, List.setIfInBounds_toArray, List.set_cons_zero, List.set_cons_succ, i64_w, i32_w]
                      rfl
                    refine one_ (i := 2) (N := some 23) #[true, true, true, true, true, false, false, false] rfl rfl (one_of HT_.out (by kernel_rfl)) (by decide) (fun K hK => ?_)
                    refine Kd.N_append_rows_step k25 (w0 := w) w.heap.size (by rfl) (.tmp 21) (.tmp 22) 22 25 (.agg #[(.slice none 0 0), (.slice none 0 0)]) 48 rfl Try.underlying22 info25 rfl (by decide) (by omega) v124 y123 l0 _ _ _ (fun k_ => ((P0_ k_ ∨ P1_0_ k_ ∨ P1_1_ k_) ∨ w.heap.size ≤ k_) ∧ some k_ ≠ (v130 : Value).ownBlock ∧ k_ ≠ gb115) (fun k_ => ((fun k_ => ((P0_ k_ ∨ P1_0_ k_ ∨ P1_1_ k_) ∨ w.heap.size ≤ k_) ∧ some k_ ≠ (v130 : Value).ownBlock ∧ k_ ≠ gb115)) k_ ∧ some k_ ≠ (v124 : Value).ownBlock) rfl rfl ?aO ?aR (fun _ hk => hk) ?aF ?aB ?aS ?aL ?_
                    (case aR => exact (by skip; exact Kd.V_F (Kd.V_mono (ok' := (fun k_ => ((fun k_ => ((P0_ k_ ∨ P1_0_ k_ ∨ P1_1_ k_) ∨ w.heap.size ≤ k_) ∧ some k_ ≠ (v130 : Value).ownBlock ∧ k_ ≠ gb115)) k_ ∧ some k_ ≠ (v124 : Value).ownBlock)) (HO_0.out) (fun k_ hk => ⟨⟨hk.1.1.1, ⟨hk.1.2, hk.1.1.2⟩⟩, hk.2⟩))))
                    (case aB => exact (by repeat (first | (with_reducible first | exact HB.out | apply below_alloc | apply pw_below_drewN | apply below_drew1 | refine below_set ?_ GE115.out) | exact HB.out)))
                    (case aF => exact (fun k_ hk => ⟨(.inr (Nat.le_trans (below_size (by repeat (first | (with_reducible first | exact HB.out | apply below_alloc | apply pw_below_drewN | apply below_drew1 | refine below_set ?_ GE115.out) | exact HB.out))) hk)), Kd.fresh' (Kd.N_lt (by (with_reducible repeat (first | apply Kd.N_alloc | apply Kd.N_drewN | apply Kd.N_drew)); exact HO131.out)) k_ hk, Kd.freshB (g := gb115) (o := .cells #[.slice A1_0 l1_0.length c1_0, .slice A1_1 l1_1.length c1_1] 25 (0, 0)) (by (with_reducible repeat (first | refine blk_drewN ?_ _ | refine blk_drew ?_ | refine blk_alloc ?_ _)); exact BK115.out) k_ hk⟩))
                    (case aO => exact (by (with_reducible repeat (first | apply Kd.N_alloc | apply Kd.N_drewN | apply Kd.N_drew)); exact HO125.out))
                    (case aS => exact (below_size (by repeat (first | (with_reducible first | exact HB.out | apply below_alloc | apply pw_below_drewN | apply below_drew1 | refine below_set ?_ GE115.out) | exact HB.out))))
                    (case aL => have := LMc22.out; omega)
                    intro v127 w30 ho hb hg hat
                    rw [← Ny126.out] at ho
                    have n0_ := Aside0.mk (Kd.V_afterv (ok := (fun k_ => ((P0_ k_ ∨ P1_0_ k_ ∨ P1_1_ k_) ∨ w.heap.size ≤ k_) ∧ some k_ ≠ (v130 : Value).ownBlock ∧ k_ ≠ gb115)) (by (with_reducible repeat (first | apply Kd.V_alloc | apply Kd.V_drewN | apply Kd.V_drew)); exact Kd.V_mono HO_0.out (fun _ hk => ⟨⟨hk.1.1.1, ⟨hk.1.2, hk.1.1.2⟩⟩, hk.2⟩)) hg hat)
                    have n1_ := Aside0.mk (Kd.V_afterv (ok := (fun k_ => ((P0_ k_ ∨ P1_0_ k_ ∨ P1_1_ k_) ∨ w.heap.size ≤ k_) ∧ some k_ ≠ (v130 : Value).ownBlock ∧ k_ ≠ gb115)) (by (with_reducible repeat (first | apply Kd.V_alloc | apply Kd.V_drewN | apply Kd.V_drew)); exact Kd.V_mono HO_116000.out (fun _ hk => ⟨⟨hk.1.1.1, ⟨hk.1.2, hk.1.1.2⟩⟩, hk.2⟩)) hg hat)
                    have n2_ := Aside0.mk (Kd.V_afterv (ok := (fun k_ => ((P0_ k_ ∨ P1_0_ k_ ∨ P1_1_ k_) ∨ w.heap.size ≤ k_) ∧ some k_ ≠ (v130 : Value).ownBlock ∧ k_ ≠ gb115)) (by (with_reducible repeat (first | apply Kd.V_alloc | apply Kd.V_drewN | apply Kd.V_drew)); exact Kd.V_mono HO_116001.out (fun _ hk => ⟨⟨hk.1.1.1, ⟨hk.1.2, hk.1.1.2⟩⟩, hk.2⟩)) hg hat)
                    have n3_ := Aside0.mk (blk_grown (g := gb115) (o := .cells #[.slice A1_0 l1_0.length c1_0, .slice A1_1 l1_1.length c1_1] 25 (0, 0)) (by (with_reducible repeat (first | refine blk_drewN ?_ _ | refine blk_drew ?_ | refine blk_alloc ?_ _)); exact BK115.out) hg (Kd.N_away HO125.out (fun _ hk => hk.2.2)))
                    have n4_ := Aside0.mk (Kd.N_afterv (ok := (fun k_ => ((P0_ k_ ∨ P1_0_ k_ ∨ P1_1_ k_) ∨ w.heap.size ≤ k_) ∧ k_ ≠ gb115)) (by (with_reducible repeat (first | apply Kd.N_alloc | apply Kd.N_drewN | apply Kd.N_drew)); exact HO131.out) hg hat)
                    have n5_ := Aside0.mk (hb)
                    have n6_ := Aside0.mk (ho)
                    clear HO_0
                    clear HO_116000
                    clear HO_116001
                    clear BK115
                    clear HO131
                    clear HB
                    clear HO125
                    have HO_0 := n0_
                    have HO_116000 := n1_
                    have HO_116001 := n2_
                    have BK115 := n3_
                    have HO131 := n4_
                    have HB := n5_
                    have HO128 := n6_
                    clear n0_ n1_ n2_ n3_ n4_ n5_ n6_
                    clear ho hb hg hat
                    refine hK.out _ _ ⟨(blk_cell BK115.out 0).trans rfl, (blk_cell BK115.out 1).trans rfl⟩ (fun hHeld => ?_)
                    clear hK K
                    refine norm_ (a' := ?_) ?_ ?_
                    rotate_left
                    · show Act.put _ (some 23) _ = _
                      simp only [Act.put, List.setIfInBounds_toArray, List.set_cons_zero, List.set_cons_succ, i64_w, i32_w]
                      rfl
                    exact norm_ (by simp only [putAll, Act.put, List.setIfInBounds_toArray, List.set_cons_zero, List.set_cons_succ]) (hCont (v124, v127, v130) _ ⟨hHeld, (by (with_reducible repeat (first | apply Kd.N_alloc | apply Kd.N_drewN | apply Kd.N_drew)); exact HO128.out), (by (with_reducible repeat (first | apply Kd.N_alloc | apply Kd.N_drewN | apply Kd.N_drew)); exact Kd.N_mono HO131.out (fun _ hk => ⟨hk.1.1, ⟨hk.2, hk.1.2⟩⟩)), (by (with_reducible repeat (first | apply Kd.V_alloc | apply Kd.V_drewN | apply Kd.V_drew)); exact Kd.V_mono HO_0.out (fun _ hk => ⟨hk.1.1, ⟨hk.2, ⟨hk.1.2.1, hk.1.2.2⟩⟩⟩)), (by (with_reducible repeat (first | apply Kd.V_alloc | apply Kd.V_drewN | apply Kd.V_drew)); exact Kd.V_mono HO_116000.out (fun _ hk => ⟨hk.1.1, ⟨hk.2, ⟨hk.1.2.1, hk.1.2.2⟩⟩⟩)), (by (with_reducible repeat (first | apply Kd.V_alloc | apply Kd.V_drewN | apply Kd.V_drew)); exact Kd.V_mono HO_116001.out (fun _ hk => ⟨hk.1.1, ⟨hk.2, ⟨hk.1.2.1, hk.1.2.2⟩⟩⟩)), (by (with_reducible repeat (first | refine blk_drewN ?_ _ | refine blk_drew ?_ | refine blk_alloc ?_ _)); exact BK115.out), (by repeat (first | (with_reducible first | exact HB.out | apply below_alloc | apply pw_below_drewN | apply below_drew1 | refine below_set ?_ GE115.out) | exact HB.out))⟩)
                rintro ⟨v124, v127, v130⟩ w31 ⟨hS_, h0_, h1_, h2_, h3_, h4_, h5_, h6_⟩
                have n0_ : Aside0 (Kd.N k25 25 w31 w.heap.size (fun k_ => ((P0_ k_ ∨ P1_0_ k_ ∨ P1_1_ k_) ∨ w.heap.size ≤ k_) ∧ some k_ ≠ (v130 : Value).ownBlock ∧ k_ ≠ gb115) v127 y126) := ⟨h0_⟩
                have n1_ : Aside0 (Kd.N k25 25 w31 w.heap.size (fun k_ => ((P0_ k_ ∨ P1_0_ k_ ∨ P1_1_ k_) ∨ w.heap.size ≤ k_) ∧ some k_ ≠ (v127 : Value).ownBlock ∧ k_ ≠ gb115) v130 y129) := ⟨h1_⟩
                have n2_ : Aside0 (Kd.V k25 25 w31 w.heap.size (fun k_ => ((P0_ k_ ∨ P1_0_ k_ ∨ P1_1_ k_) ∨ w.heap.size ≤ k_) ∧ some k_ ≠ (v127 : Value).ownBlock ∧ some k_ ≠ (v130 : Value).ownBlock ∧ k_ ≠ gb115) (.slice A0 l0.length c0) l0) := ⟨h2_⟩
                have n3_ : Aside0 (Kd.V k31 31 w31 w.heap.size (fun k_ => ((P0_ k_ ∨ P1_0_ k_ ∨ P1_1_ k_) ∨ w.heap.size ≤ k_) ∧ some k_ ≠ (v127 : Value).ownBlock ∧ some k_ ≠ (v130 : Value).ownBlock ∧ k_ ≠ gb115) (.slice A1_0 l1_0.length c1_0) l1_0) := ⟨h3_⟩
                have n4_ : Aside0 (Kd.V k31 31 w31 w.heap.size (fun k_ => ((P0_ k_ ∨ P1_0_ k_ ∨ P1_1_ k_) ∨ w.heap.size ≤ k_) ∧ some k_ ≠ (v127 : Value).ownBlock ∧ some k_ ≠ (v130 : Value).ownBlock ∧ k_ ≠ gb115) (.slice A1_1 l1_1.length c1_1) l1_1) := ⟨h4_⟩
                have n5_ : Aside0 (w31.heap[gb115]? = some (.cells #[.slice A1_0 l1_0.length c1_0, .slice A1_1 l1_1.length c1_1] 25 (0, 0))) := ⟨h5_⟩
                have n6_ : Aside0 (Below w.heap.size w w31) := ⟨h6_⟩
                clear HO_0
                clear HO_116000
                clear HO_116001
                clear BK115
                clear HB
                clear h0_ h1_ h2_ h3_ h4_ h5_ h6_
                have HO128 := n0_
                have HO131 := n1_
                have HO_0 := n2_
                have HO_116000 := n3_
                have HO_116001 := n4_
                have BK115 := n5_
                have HB := n6_
                clear n0_ n1_ n2_ n3_ n4_ n5_ n6_
                have hHeld : w31.cell? ⟨gb115, 0, none⟩ = some (.slice A1_0 l1_0.length c1_0) ∧ w31.cell? ⟨gb115, 1, none⟩ = some (.slice A1_1 l1_1.length c1_1) := hS_
                obtain ⟨Ao33, co33, eo33⟩ := Kd.N_slice HO131.out
                (first | subst eo33 | (injection eo33 with f1_ f2_ f3_; have f4_ := f1_.symm; have f5_ := f3_.symm; clear f1_ f2_ f3_; subst f4_; subst f5_))
                refine norm_ (a' := ?_) ?_ ?_
                rotate_left
                · simp only [putAll, Act.put, List.setIfInBounds_toArray, List.set_cons_zero, List.set_cons_succ]
                  rfl
                refine one_ (i := 5) (N := some 26) #[true, true, true, true, true, true, false, false] rfl rfl (one_of HT_.out (by kernel_rfl)) (by decide) (fun K hK => ?_)
                refine Kd.N_append_rows_step k25 (w0 := w) w.heap.size (by rfl) (.tmp 23) (.tmp 25) 22 25 (.agg #[(.slice none 0 0), (.slice none 0 0)]) 48 rfl Try.underlying22 info25 rfl (by decide) (by omega) v127 y126 y129 _ _ _ (fun k_ => ((P0_ k_ ∨ P1_0_ k_ ∨ P1_1_ k_) ∨ w.heap.size ≤ k_) ∧ k_ ≠ gb115) (fun k_ => ((fun k_ => ((P0_ k_ ∨ P1_0_ k_ ∨ P1_1_ k_) ∨ w.heap.size ≤ k_) ∧ k_ ≠ gb115)) k_ ∧ some k_ ≠ (v127 : Value).ownBlock) rfl rfl ?aO ?aR (fun _ hk => hk) ?aF ?aB ?aS ?aL ?_
                (case aR => exact (by skip; exact Kd.N_F (Kd.N_mono (ok' := (fun k_ => ((fun k_ => ((P0_ k_ ∨ P1_0_ k_ ∨ P1_1_ k_) ∨ w.heap.size ≤ k_) ∧ k_ ≠ gb115)) k_ ∧ some k_ ≠ (v127 : Value).ownBlock)) (HO131.out) (fun k_ hk => ⟨⟨hk.1, hk.2.2⟩, hk.2.1⟩))))
                (case aB => exact (by repeat (first | (with_reducible first | exact HB.out | apply below_alloc | apply pw_below_drewN | apply below_drew1 | refine below_set ?_ GE115.out) | exact HB.out)))
                (case aF => exact (fun k_ hk => ⟨(.inr (Nat.le_trans (below_size (by repeat (first | (with_reducible first | exact HB.out | apply below_alloc | apply pw_below_drewN | apply below_drew1 | refine below_set ?_ GE115.out) | exact HB.out))) hk)), Kd.freshB (g := gb115) (o := .cells #[.slice A1_0 l1_0.length c1_0, .slice A1_1 l1_1.length c1_1] 25 (0, 0)) (by (with_reducible repeat (first | refine blk_drewN ?_ _ | refine blk_drew ?_ | refine blk_alloc ?_ _)); exact BK115.out) k_ hk⟩))
                (case aO => exact (by (with_reducible repeat (first | apply Kd.N_alloc | apply Kd.N_drewN | apply Kd.N_drew)); exact Kd.N_mono HO128.out (fun _ hk => ⟨hk.1, hk.2.2⟩)))
                (case aS => exact (below_size (by repeat (first | (with_reducible first | exact HB.out | apply below_alloc | apply pw_below_drewN | apply below_drew1 | refine below_set ?_ GE115.out) | exact HB.out))))
                (case aL => have := LMc23.out; omega)
                intro v133 w32 ho hb hg hat
                rw [← Ny132.out] at ho
                have n0_ := Aside0.mk (Kd.V_afterv (ok := (fun k_ => ((P0_ k_ ∨ P1_0_ k_ ∨ P1_1_ k_) ∨ w.heap.size ≤ k_) ∧ some k_ ≠ (.slice Ao33 y129.length co33 : Value).ownBlock ∧ k_ ≠ gb115)) (by (with_reducible repeat (first | apply Kd.V_alloc | apply Kd.V_drewN | apply Kd.V_drew)); exact Kd.V_mono HO_0.out (fun _ hk => ⟨⟨hk.1, ⟨hk.2.2.1, hk.2.2.2⟩⟩, hk.2.1⟩)) hg hat)
                have n1_ := Aside0.mk (Kd.V_afterv (ok := (fun k_ => ((P0_ k_ ∨ P1_0_ k_ ∨ P1_1_ k_) ∨ w.heap.size ≤ k_) ∧ some k_ ≠ (.slice Ao33 y129.length co33 : Value).ownBlock ∧ k_ ≠ gb115)) (by (with_reducible repeat (first | apply Kd.V_alloc | apply Kd.V_drewN | apply Kd.V_drew)); exact Kd.V_mono HO_116000.out (fun _ hk => ⟨⟨hk.1, ⟨hk.2.2.1, hk.2.2.2⟩⟩, hk.2.1⟩)) hg hat)
                have n2_ := Aside0.mk (Kd.V_afterv (ok := (fun k_ => ((P0_ k_ ∨ P1_0_ k_ ∨ P1_1_ k_) ∨ w.heap.size ≤ k_) ∧ some k_ ≠ (.slice Ao33 y129.length co33 : Value).ownBlock ∧ k_ ≠ gb115)) (by (with_reducible repeat (first | apply Kd.V_alloc | apply Kd.V_drewN | apply Kd.V_drew)); exact Kd.V_mono HO_116001.out (fun _ hk => ⟨⟨hk.1, ⟨hk.2.2.1, hk.2.2.2⟩⟩, hk.2.1⟩)) hg hat)
                have n3_ := Aside0.mk (blk_grown (g := gb115) (o := .cells #[.slice A1_0 l1_0.length c1_0, .slice A1_1 l1_1.length c1_1] 25 (0, 0)) (by (with_reducible repeat (first | refine blk_drewN ?_ _ | refine blk_drew ?_ | refine blk_alloc ?_ _)); exact BK115.out) hg (Kd.N_away HO128.out (fun _ hk => hk.2.2)))
                have n4_ := Aside0.mk (Kd.N_afterv (ok := (fun k_ => ((P0_ k_ ∨ P1_0_ k_ ∨ P1_1_ k_) ∨ w.heap.size ≤ k_) ∧ k_ ≠ gb115)) (by (with_reducible repeat (first | apply Kd.N_alloc | apply Kd.N_drewN | apply Kd.N_drew)); exact Kd.N_mono HO131.out (fun _ hk => ⟨⟨hk.1, hk.2.2⟩, hk.2.1⟩)) hg hat)
                have n5_ := Aside0.mk (hb)
                have n6_ := Aside0.mk (ho)
                clear HO_0
                clear HO_116000
                clear HO_116001
                clear BK115
                clear HO131
                clear HB
                clear HO128
                have HO_0 := n0_
                have HO_116000 := n1_
                have HO_116001 := n2_
                have BK115 := n3_
                have HO131 := n4_
                have HB := n5_
                have HO134 := n6_
                clear n0_ n1_ n2_ n3_ n4_ n5_ n6_
                clear ho hb hg hat
                obtain ⟨Ao34, co34, eo34⟩ := Kd.N_slice HO134.out
                (first | subst eo34 | (injection eo34 with f1_ f2_ f3_; have f4_ := f1_.symm; have f5_ := f3_.symm; clear f1_ f2_ f3_; subst f4_; subst f5_))
                refine hK.out _ _ ⟨(blk_cell BK115.out 0).trans rfl, (blk_cell BK115.out 1).trans rfl⟩ (fun hHeld => ?_)
                clear hK K
                refine norm_ (a' := ?_) ?_ ?_
                rotate_left
                · show Act.put _ (some 26) _ = _
                  simp only [Act.put, List.setIfInBounds_toArray, List.set_cons_zero, List.set_cons_succ, i64_w, i32_w]
                  rfl
                refine one_ (i := 6) (N := some 27) #[true, true, true, true, true, true, true, false] rfl rfl (one_of HT_.out (by kernel_rfl)) (by decide) (fun K hK => ?_)
                refine goes_ Try.func9 (by kernel_rfl) rfl #[.slice Ao34 y132.length co34] (by rfl) rfl rfl (by (try simp only [List.map_toArray, List.map_cons, List.map_nil]); first | done | rfl | (simp only [List.length_drop, List.length_take]; rfl)) ?_
                with_reducible refine (score_Of.calls kj4 _ _ y132 t135 _ ?side1 ?side2 A24.out).mono ?_
                (case side1 => repeat (first | exact (Kd.N_reads' HO134.out).2.2 | (with_reducible refine Kd.C_alloc ?_ _) | (with_reducible refine Kd.C_drewN ?_ _) | (with_reducible refine Kd.C_drew ?_)))
                (case side2 => exact (Kd.N_reads' HO134.out).2.1)
                rintro e w35 ⟨rfl, hb⟩
                refine ⟨_, rfl, ?_⟩
                have n0_ := Aside0.mk (Kd.V_below (by (with_reducible repeat (first | apply Kd.V_alloc | apply Kd.V_drewN | apply Kd.V_drew)); exact HO_0.out) hb)
                have n1_ := Aside0.mk (Kd.V_below (by (with_reducible repeat (first | apply Kd.V_alloc | apply Kd.V_drewN | apply Kd.V_drew)); exact HO_116000.out) hb)
                have n2_ := Aside0.mk (Kd.V_below (by (with_reducible repeat (first | apply Kd.V_alloc | apply Kd.V_drewN | apply Kd.V_drew)); exact HO_116001.out) hb)
                have n3_ := Aside0.mk (Kd.N_below (by (with_reducible repeat (first | apply Kd.N_alloc | apply Kd.N_drewN | apply Kd.N_drew)); exact HO131.out) hb)
                have n4_ := Aside0.mk (Kd.N_below (by (with_reducible repeat (first | apply Kd.N_alloc | apply Kd.N_drewN | apply Kd.N_drew)); exact HO134.out) hb)
                have n5_ := Aside0.mk (blk_below (g := gb115) (o := .cells #[.slice A1_0 l1_0.length c1_0, .slice A1_1 l1_1.length c1_1] 25 (0, 0)) (by (with_reducible repeat (first | refine blk_drewN ?_ _ | refine blk_drew ?_ | refine blk_alloc ?_ _)); exact BK115.out) hb)
                have n6_ := Aside0.mk (below_step (by repeat (first | (with_reducible first | exact HB.out | apply below_alloc | apply pw_below_drewN | apply below_drew1 | refine below_set ?_ GE115.out) | exact HB.out)) hb)
                clear HO_0
                clear HO_116000
                clear HO_116001
                clear HO131
                clear HO134
                clear BK115
                clear HB
                have HO_0 := n0_
                have HO_116000 := n1_
                have HO_116001 := n2_
                have HO131 := n3_
                have HO134 := n4_
                have BK115 := n5_
                have HB := n6_
                clear n0_ n1_ n2_ n3_ n4_ n5_ n6_
                (try clear hb)
                (try clear hb2)
                (try clear hk)
                (try clear hi)
                refine hK.out _ _ ⟨(blk_cell BK115.out 0).trans rfl, (blk_cell BK115.out 1).trans rfl⟩ (fun hHeld => ?_)
                clear hK K
                refine norm_ (a' := ?_) ?_ ?_
                rotate_left
                · show Act.put _ (some 27) _ = _
                  simp only [Act.put, List.setIfInBounds_toArray, List.set_cons_zero, List.set_cons_succ, i64_w, i32_w]
                  rfl
                refine pure_ (i := 7) (N := some 6) (v := ?_) (a' := ?_) #[true, true, true, true, true, true, true, true] rfl rfl (any_of HT_.out (by kernel_rfl)) (fun _ _ _ h => h) (Or.inl ⟨by rfl, ?_⟩) ?_ ?_
                rotate_left
                · intro w'
                  go_simp
                  with_reducible rfl
                rotate_left
                · simp only [Act.put, List.setIfInBounds_toArray, List.set_cons_zero, List.set_cons_succ, i64_w, i32_w]
                  rfl
                refine done_ (done_of HT_.out (by kernel_rfl)) ?_
                try go_wp2
                go_meet
                case rel => exact ⟨_, (t135), (by first | rfl | (simp; done) | (simp [*]; done)), H', ⟨by have := HJ4.out; first | omega | exact Nat.le_refl _⟩, ⟨by (with_reducible repeat (first | apply Kd.V_alloc | apply Kd.V_drewN | apply Kd.V_drew)); exact Kd.V_mono HO_0.out (fun _ hk => ⟨hk.1.1, hk.1.2.2⟩)⟩, ⟨by (with_reducible repeat (first | apply Kd.V_alloc | apply Kd.V_drewN | apply Kd.V_drew)); exact Kd.V_mono HO_116000.out (fun _ hk => ⟨hk.1.1, hk.1.2.2⟩)⟩, ⟨by (with_reducible repeat (first | apply Kd.V_alloc | apply Kd.V_drewN | apply Kd.V_drew)); exact Kd.V_mono HO_116001.out (fun _ hk => ⟨hk.1.1, hk.1.2.2⟩)⟩, ⟨by (with_reducible repeat (first | refine blk_drewN ?_ _ | refine blk_drew ?_ | refine blk_alloc ?_ _)); exact BK115.out⟩, ⟨by repeat (first | (with_reducible first | exact HB.out | apply below_alloc | apply pw_below_drewN | apply below_drew1 | refine below_set ?_ GE115.out) | exact HB.out)⟩⟩
              · rw [if_neg c23] at H
                exact absurd H (by simp)
            · rw [if_neg c22] at H
              exact absurd H (by simp)
          case rest =>
            clear HC20
            try clear c1
            try clear c2
            try clear p2
            try clear c3
            try clear c4
            try clear c7
            try clear c8
            try clear c9
            try clear c18
            try clear c22
            try clear c23
            try clear hcz12_0
            try clear hcz12_1
            try clear hfz12_0
            try clear hfz12_1
            try clear p2
            obtain ⟨kq, x6_19, rfl, HA, HJ19, HO_0, HO_116000, HO_116001, BK115, HB⟩ := hcut
            cases kq with
            | zero => exact absurd HA.out (by simp [catchwordlaw17_ScoreMore.j1])
            | succ kj19 =>
              have H := HA.out
              clear HA
              simp only [catchwordlaw17_ScoreMore.j1] at H
              have HC36 := Aside0.mk H
              clear H
              go_upto_region 7 with (fail)
              go_cut [7] (fun v7 wc => ∃ (kq : Nat) (x7_35 : Int), v7 = .int .i64 x7_35 ∧ Aside0 (catchwordlaw17_ScoreMore.j2 kq t122 x6_19 x7_35 = some r) ∧ Aside0 (kq ≤ kj19) ∧ Aside0 (Kd.V k31 31 wc w.heap.size (fun k_ => ((P0_ k_ ∨ P1_0_ k_ ∨ P1_1_ k_) ∨ w.heap.size ≤ k_) ∧ k_ ≠ gb115) (.slice A1_0 l1_0.length c1_0) l1_0) ∧ Aside0 (Kd.V k31 31 wc w.heap.size (fun k_ => ((P0_ k_ ∨ P1_0_ k_ ∨ P1_1_ k_) ∨ w.heap.size ≤ k_) ∧ k_ ≠ gb115) (.slice A1_1 l1_1.length c1_1) l1_1) ∧ Aside0 (wc.heap[gb115]? = some (.cells #[(.slice A1_0 l1_0.length c1_0), (.slice A1_1 l1_1.length c1_1)] 25 (0, 0))) ∧ Aside0 (Below w.heap.size w wc))
              case first =>
                have H := HC36.out
                clear HC36
                obtain ⟨y136, hy136⟩ : ∃ y_ : List (S25), y_ = (([(⟨l1_0, l1_1⟩ : S25)] : List (S25))) := ⟨_, rfl⟩
                replace H : (if y136.length + l0.length < 2932031007402 then ((score_Of.f kj19 (y136 ++ l0)).bind fun t142 => (catchwordlaw17_ScoreMore.j2 kj19 t122 x6_19 t142)) else (none)) = some r := by first | (rw [hy136]; with_reducible exact H) | (have H2_ := (Option.bind_some _ _).symm.trans H; rw [hy136]; with_reducible exact H2_) | (have H2_ := (Option.bind_some _ _).symm.trans H; with_reducible exact H2_) | with_reducible exact H | (rw [hy136]; exact H) | exact H
                have Ny136 := Aside0.mk hy136
                clear hy136
                by_cases c37 : y136.length + l0.length < 2932031007402
                · rw [if_pos c37] at H
                  have LMc37 := Aside0.mk c37
                  clear c37
                  obtain ⟨y139, hy139⟩ : ∃ y_ : List (S25), y_ = (y136 ++ l0) := ⟨_, rfl⟩
                  replace H : ((score_Of.f kj19 y139).bind fun t142 => (catchwordlaw17_ScoreMore.j2 kj19 t122 x6_19 t142)) = some r := by first | (rw [hy139]; with_reducible exact H) | (have H2_ := (Option.bind_some _ _).symm.trans H; rw [hy139]; with_reducible exact H2_) | (have H2_ := (Option.bind_some _ _).symm.trans H; with_reducible exact H2_) | with_reducible exact H | (rw [hy139]; exact H) | exact H
                  have Ny139 := Aside0.mk hy139
                  clear hy139
                  replace H := Option.bind_eq_some_iff.mp H
                  obtain ⟨t142, A380, H⟩ := H
                  replace H : (catchwordlaw17_ScoreMore.j2 kj19 t122 x6_19 t142) = some r := H
                  have A38 := Aside0.mk A380
                  clear A380
                  have H' := Aside0.mk H
                  clear H
                  have hcz39_0 : wc.cell? ⟨gb115, 0, none⟩ = some (.slice A1_0 l1_0.length c1_0) := (blk_cell BK115.out 0).trans rfl
                  have hcz39_1 : wc.cell? ⟨gb115, 1, none⟩ = some (.slice A1_1 l1_1.length c1_1) := (blk_cell BK115.out 1).trans rfl
                  have hfz39_0 := blk_frozen BK115.out 0
                  have hfz39_1 := blk_frozen BK115.out 1
                  go_wp2_with (first | ((with_reducible refine gate_dst (N := 29) rfl ?_); (try (refine gate_guard (by rfl) ?_; dsimp only)); refine Kd.N_lit k25 _ 25 ?hg (N' := 29) ?hd (xs := ([(⟨l1_0, l1_1⟩ : S25)] : List (S25))) (inner := [.slice A1_0 l1_0.length c1_0, .slice A1_1 l1_1.length c1_1]) (ok := (fun k_ => ((P0_ k_ ∨ P1_0_ k_ ∨ P1_1_ k_) ∨ w.heap.size ≤ k_) ∧ k_ ≠ gb115)) (okp := (fun k_ => ((P0_ k_ ∨ P1_0_ k_ ∨ P1_1_ k_) ∨ w.heap.size ≤ k_) ∧ k_ ≠ gb115)) ?hr ?hp (fun _ hk => hk) ((show ∀ k_, wc.heap.size ≤ k_ → (fun k_ => ((P0_ k_ ∨ P1_0_ k_ ∨ P1_1_ k_) ∨ w.heap.size ≤ k_) ∧ k_ ≠ gb115) k_ from fun k_ hk => ⟨(.inr (Nat.le_trans (below_size (by repeat (first | (with_reducible first | exact HB.out | apply below_alloc | apply pw_below_drewN | apply below_drew1 | refine below_set ?_ GE115.out) | exact HB.out))) hk)), Kd.freshB (g := gb115) (o := .cells #[.slice A1_0 l1_0.length c1_0, .slice A1_1 l1_1.length c1_1] 25 (0, 0)) (by (with_reducible repeat (first | refine blk_drewN ?_ _ | refine blk_drew ?_ | refine blk_alloc ?_ _)); exact BK115.out) k_ hk⟩) _ (Nat.le_refl _)) (Below.refl _ _) (Nat.le_refl _) (by simp) ?_; (case hd => rfl); (case hg => rfl); (case hr => first | (go_simp; done) | (go_simp; rfl)); (case hp => exact (Reps.c2 (show Kd.FK k25 _ _ (⟨l1_0, l1_1⟩ : S25) [.slice A1_0 l1_0.length c1_0, .slice A1_1 l1_1.length c1_1] from (k25_mkF _ _ (⟨l1_0, l1_1⟩ : S25) (Kd.V_reads' (Kd.V_mono (ok' := (fun k_ => ((P0_ k_ ∨ P1_0_ k_ ∨ P1_1_ k_) ∨ w.heap.size ≤ k_) ∧ k_ ≠ gb115)) (HO_116000.out) (fun k_ hk => ⟨hk.1, hk.2⟩))).2.1 (Kd.V_F (Kd.V_mono (ok' := (fun k_ => ((P0_ k_ ∨ P1_0_ k_ ∨ P1_1_ k_) ∨ w.heap.size ≤ k_) ∧ k_ ≠ gb115)) (HO_116000.out) (fun k_ hk => ⟨hk.1, hk.2⟩))) (Kd.V_reads' (Kd.V_mono (ok' := (fun k_ => ((P0_ k_ ∨ P1_0_ k_ ∨ P1_1_ k_) ∨ w.heap.size ≤ k_) ∧ k_ ≠ gb115)) (HO_116001.out) (fun k_ hk => ⟨hk.1, hk.2⟩))).2.1 (Kd.V_F (Kd.V_mono (ok' := (fun k_ => ((P0_ k_ ∨ P1_0_ k_ ∨ P1_1_ k_) ∨ w.heap.size ≤ k_) ∧ k_ ≠ gb115)) (HO_116001.out) (fun k_ hk => ⟨hk.1, hk.2⟩))))) (Reps.none _ _))); intro v137 w40 ho41 hb hg_ hnew_; clear hg_ hnew_; (first | rw [← Ny136.out] at ho41 | (simp only [Int.reduceToNat] at ho41; rw [← Ny136.out] at ho41)); have n0_ := Aside0.mk (Kd.V_elder' (by (with_reducible repeat (first | apply Kd.V_alloc | apply Kd.V_drewN | apply Kd.V_drew)); exact HO_0.out) (Kd.N_base ho41) hb); have n1_ := Aside0.mk (Kd.V_elder' (by (with_reducible repeat (first | apply Kd.V_alloc | apply Kd.V_drewN | apply Kd.V_drew)); exact HO_116000.out) (Kd.N_base ho41) hb); have n2_ := Aside0.mk (Kd.V_elder' (by (with_reducible repeat (first | apply Kd.V_alloc | apply Kd.V_drewN | apply Kd.V_drew)); exact HO_116001.out) (Kd.N_base ho41) hb); have n3_ := Aside0.mk (Kd.N_lower ho41 (below_size (by repeat (first | (with_reducible first | exact HB.out | apply below_alloc | apply pw_below_drewN | apply below_drew1 | refine below_set ?_ GE115.out) | exact HB.out)))); have n4_ := Aside0.mk (blk_below (g := gb115) (o := .cells #[.slice A1_0 l1_0.length c1_0, .slice A1_1 l1_1.length c1_1] 25 (0, 0)) (by (with_reducible repeat (first | refine blk_drewN ?_ _ | refine blk_drew ?_ | refine blk_alloc ?_ _)); exact BK115.out) hb); have n5_ := Aside0.mk (below_step (by repeat (first | (with_reducible first | exact HB.out | apply below_alloc | apply pw_below_drewN | apply below_drew1 | refine below_set ?_ GE115.out) | exact HB.out)) hb); clear HO_0; clear HO_116000; clear HO_116001; clear BK115; clear HB; have HO_0 := n0_; have HO_116000 := n1_; have HO_116001 := n2_; have HO138 := n3_; have BK115 := n4_; have HB := n5_; clear n0_ n1_ n2_ n3_ n4_ n5_; clear hb ho41) | ((with_reducible refine gate_builtin (b := .append) (xs := #[.tmp 29, .tmp 30]) rfl ?_); (try (refine gate_guard (by rfl) ?_; dsimp only)); at_builtin; refine Kd.N_append_rows k25 (w0 := w) w.heap.size rfl (.tmp 29) (.tmp 30) 22 25 (.agg #[(.slice none 0 0), (.slice none 0 0)]) 48 rfl Try.underlying22 info25 rfl (by decide) (by omega) v137 y136 l0 _ _ _ (fun k_ => ((P0_ k_ ∨ P1_0_ k_ ∨ P1_1_ k_) ∨ w.heap.size ≤ k_) ∧ k_ ≠ gb115) (fun k_ => ((fun k_ => ((P0_ k_ ∨ P1_0_ k_ ∨ P1_1_ k_) ∨ w.heap.size ≤ k_) ∧ k_ ≠ gb115)) k_ ∧ some k_ ≠ (v137 : Value).ownBlock) rfl rfl ?aO ?aR (fun _ hk => hk) ?aF ?aB ?aS ?aL ?_; (case aR => exact (by skip; exact Kd.V_F (Kd.V_mono (ok' := (fun k_ => ((fun k_ => ((P0_ k_ ∨ P1_0_ k_ ∨ P1_1_ k_) ∨ w.heap.size ≤ k_) ∧ k_ ≠ gb115)) k_ ∧ some k_ ≠ (v137 : Value).ownBlock)) (HO_0.out) (fun k_ hk => ⟨⟨hk.1.1, hk.1.2⟩, hk.2⟩)))); (case aB => exact (by repeat (first | (with_reducible first | exact HB.out | apply below_alloc | apply pw_below_drewN | apply below_drew1 | refine below_set ?_ GE115.out) | exact HB.out))); (case aF => exact (fun k_ hk => ⟨(.inr (Nat.le_trans (below_size (by repeat (first | (with_reducible first | exact HB.out | apply below_alloc | apply pw_below_drewN | apply below_drew1 | refine below_set ?_ GE115.out) | exact HB.out))) hk)), Kd.freshB (g := gb115) (o := .cells #[.slice A1_0 l1_0.length c1_0, .slice A1_1 l1_1.length c1_1] 25 (0, 0)) (by (with_reducible repeat (first | refine blk_drewN ?_ _ | refine blk_drew ?_ | refine blk_alloc ?_ _)); exact BK115.out) k_ hk⟩)); (case aO => exact (by (with_reducible repeat (first | apply Kd.N_alloc | apply Kd.N_drewN | apply Kd.N_drew)); exact HO138.out)); (case aS => exact (below_size (by repeat (first | (with_reducible first | exact HB.out | apply below_alloc | apply pw_below_drewN | apply below_drew1 | refine below_set ?_ GE115.out) | exact HB.out)))); (case aL => have := LMc37.out; omega); intro v140 w42 ho hb hg hat; rw [← Ny139.out] at ho; have n0_ := Aside0.mk (Kd.V_afterv (ok := (fun k_ => ((P0_ k_ ∨ P1_0_ k_ ∨ P1_1_ k_) ∨ w.heap.size ≤ k_) ∧ k_ ≠ gb115)) (by (with_reducible repeat (first | apply Kd.V_alloc | apply Kd.V_drewN | apply Kd.V_drew)); exact HO_0.out) hg hat); have n1_ := Aside0.mk (Kd.V_afterv (ok := (fun k_ => ((P0_ k_ ∨ P1_0_ k_ ∨ P1_1_ k_) ∨ w.heap.size ≤ k_) ∧ k_ ≠ gb115)) (by (with_reducible repeat (first | apply Kd.V_alloc | apply Kd.V_drewN | apply Kd.V_drew)); exact HO_116000.out) hg hat); have n2_ := Aside0.mk (Kd.V_afterv (ok := (fun k_ => ((P0_ k_ ∨ P1_0_ k_ ∨ P1_1_ k_) ∨ w.heap.size ≤ k_) ∧ k_ ≠ gb115)) (by (with_reducible repeat (first | apply Kd.V_alloc | apply Kd.V_drewN | apply Kd.V_drew)); exact HO_116001.out) hg hat); have n3_ := Aside0.mk (blk_grown (g := gb115) (o := .cells #[.slice A1_0 l1_0.length c1_0, .slice A1_1 l1_1.length c1_1] 25 (0, 0)) (by (with_reducible repeat (first | refine blk_drewN ?_ _ | refine blk_drew ?_ | refine blk_alloc ?_ _)); exact BK115.out) hg (Kd.N_away HO138.out (fun _ hk => hk.2))); have n4_ := Aside0.mk (hb); have n5_ := Aside0.mk (ho); clear HO_0; clear HO_116000; clear HO_116001; clear BK115; clear HB; clear HO138; have HO_0 := n0_; have HO_116000 := n1_; have HO_116001 := n2_; have BK115 := n3_; have HB := n4_; have HO141 := n5_; clear n0_ n1_ n2_ n3_ n4_ n5_; clear ho hb hg hat; obtain ⟨Ao43, co43, eo43⟩ := Kd.N_slice HO141.out; subst eo43) | ((with_reducible refine gate_callee (f := 9) rfl ?_); refine goesL_ (some 32) rfl rfl Try.func9 (by kernel_rfl) rfl #[.slice Ao43 y139.length co43] rfl (by (try simp only [List.map_toArray, List.map_cons, List.map_nil]); first | done | rfl | (simp only [List.length_drop, List.length_take]; rfl)) ?_; (with_reducible refine (score_Of.calls kj19 _ _ y139 t142 _ ?side1 ?side2 A38.out).mono ?_); (case side1 => repeat (first | exact (Kd.N_reads' HO141.out).2.2 | (with_reducible refine Kd.C_alloc ?_ _) | (with_reducible refine Kd.C_drewN ?_ _) | (with_reducible refine Kd.C_drew ?_))); (case side2 => exact (Kd.N_reads' HO141.out).2.1); rintro e w44 ⟨rfl, hb⟩; refine ⟨_, rfl, ?_⟩; have n0_ := Aside0.mk (Kd.V_below (by (with_reducible repeat (first | apply Kd.V_alloc | apply Kd.V_drewN | apply Kd.V_drew)); exact HO_0.out) hb); have n1_ := Aside0.mk (Kd.V_below (by (with_reducible repeat (first | apply Kd.V_alloc | apply Kd.V_drewN | apply Kd.V_drew)); exact HO_116000.out) hb); have n2_ := Aside0.mk (Kd.V_below (by (with_reducible repeat (first | apply Kd.V_alloc | apply Kd.V_drewN | apply Kd.V_drew)); exact HO_116001.out) hb); have n3_ := Aside0.mk (Kd.N_below (by (with_reducible repeat (first | apply Kd.N_alloc | apply Kd.N_drewN | apply Kd.N_drew)); exact HO141.out) hb); have n4_ := Aside0.mk (blk_below (g := gb115) (o := .cells #[.slice A1_0 l1_0.length c1_0, .slice A1_1 l1_1.length c1_1] 25 (0, 0)) (by (with_reducible repeat (first | refine blk_drewN ?_ _ | refine blk_drew ?_ | refine blk_alloc ?_ _)); exact BK115.out) hb); have n5_ := Aside0.mk (below_step (by repeat (first | (with_reducible first | exact HB.out | apply below_alloc | apply pw_below_drewN | apply below_drew1 | refine below_set ?_ GE115.out) | exact HB.out)) hb); clear HO_0; clear HO_116000; clear HO_116001; clear HO141; clear BK115; clear HB; have HO_0 := n0_; have HO_116000 := n1_; have HO_116001 := n2_; have HO141 := n3_; have BK115 := n4_; have HB := n5_; clear n0_ n1_ n2_ n3_ n4_ n5_; (try clear hb); (try clear hb2); (try clear hk); (try clear hi)))
                  go_meet
                  case rel => exact ⟨_, (t142), (by first | rfl | (simp; done) | (simp [*]; done)), H', ⟨by have := HJ4.out; have := HJ19.out; first | omega | exact Nat.le_refl _⟩, ⟨by (with_reducible repeat (first | apply Kd.V_alloc | apply Kd.V_drewN | apply Kd.V_drew)); exact Kd.V_mono HO_116000.out (fun _ hk => ⟨hk.1.1, hk.1.2⟩)⟩, ⟨by (with_reducible repeat (first | apply Kd.V_alloc | apply Kd.V_drewN | apply Kd.V_drew)); exact Kd.V_mono HO_116001.out (fun _ hk => ⟨hk.1.1, hk.1.2⟩)⟩, ⟨by (with_reducible repeat (first | refine blk_drewN ?_ _ | refine blk_drew ?_ | refine blk_alloc ?_ _)); exact BK115.out⟩, ⟨by repeat (first | (with_reducible first | exact HB.out | apply below_alloc | apply pw_below_drewN | apply below_drew1 | refine below_set ?_ GE115.out) | exact HB.out)⟩⟩
                · rw [if_neg c37] at H
                  exact absurd H (by simp)
              case rest =>
                clear HC36
                try clear c1
                try clear c2
                try clear p2
                try clear c3
                try clear c4
                try clear c7
                try clear c8
                try clear c9
                try clear c18
                try clear c22
                try clear c23
                try clear c37
                try clear hcz12_0
                try clear hcz12_1
                try clear hcz39_0
                try clear hcz39_1
                try clear hfz12_0
                try clear hfz12_1
                try clear hfz39_0
                try clear hfz39_1
                try clear p2
                obtain ⟨kq, x7_35, rfl, HA, HJ35, HO_116000, HO_116001, BK115, HB⟩ := hcut
                cases kq with
                | zero => exact absurd HA.out (by simp [catchwordlaw17_ScoreMore.j2])
                | succ kj35 =>
                  have H := HA.out
                  clear HA
                  simp only [catchwordlaw17_ScoreMore.j2] at H
                  by_cases c45 : x6_19 ≥ t122
                  · rw [if_pos c45] at H
                    have c45b0 : decide (t122 ≤ x6_19) = true := decide_eq_true c45
                    clear c45
                    by_cases c46 : x6_19 = x7_35
                    · rw [if_pos c46] at H
                      have c46b0 : (x6_19 == x7_35) = true := beq_iff_eq.mpr c46
                      have c46b1 : (x6_19 != x7_35) = false := bne_eq_false_iff_eq.mpr c46
                      clear c46
                      by_cases c47 : t122 ≥ 0
                      · rw [if_pos c47] at H
                        have c47b0 : decide (0 ≤ t122) = true := decide_eq_true c47
                        clear c47
                        obtain rfl := Option.some.inj H
                        go_wp2
                        go_ret
                        exact ⟨by first | rfl | (simp [errW_none, errW_some] <;> rfl) | (simp [*, errW_none, errW_some] <;> rfl), by repeat (first | (with_reducible first | exact HB.out | apply below_alloc | apply pw_below_drewN | apply below_drew1 | refine below_set ?_ GE115.out) | exact HB.out)⟩
                      · rw [if_neg c47] at H
                        have c47b0 : decide (0 ≤ t122) = false := decide_eq_false c47
                        clear c47
                        obtain rfl := Option.some.inj H
                        go_wp2
                        go_ret
                        exact ⟨by first | rfl | (simp [errW_none, errW_some] <;> rfl) | (simp [*, errW_none, errW_some] <;> rfl), by repeat (first | (with_reducible first | exact HB.out | apply below_alloc | apply pw_below_drewN | apply below_drew1 | refine below_set ?_ GE115.out) | exact HB.out)⟩
                    · rw [if_neg c46] at H
                      have c46b0 : (x6_19 == x7_35) = false := beq_eq_false_iff_ne.mpr c46
                      have c46b1 : (x6_19 != x7_35) = true := bne_iff_ne.mpr c46
                      obtain rfl := Option.some.inj H
                      go_wp2
                      go_ret
                      exact ⟨by first | rfl | (simp [errW_none, errW_some] <;> rfl) | (simp [*, errW_none, errW_some] <;> rfl), by repeat (first | (with_reducible first | exact HB.out | apply below_alloc | apply pw_below_drewN | apply below_drew1 | refine below_set ?_ GE115.out) | exact HB.out)⟩
                  · rw [if_neg c45] at H
                    have c45b0 : decide (t122 ≤ x6_19) = false := decide_eq_false c45
                    clear c45
                    obtain rfl := Option.some.inj H
                    go_wp2
                    go_ret
                    exact ⟨by first | rfl | (simp [errW_none, errW_some] <;> rfl) | (simp [*, errW_none, errW_some] <;> rfl), by repeat (first | (with_reducible first | exact HB.out | apply below_alloc | apply pw_below_drewN | apply below_drew1 | refine below_set ?_ GE115.out) | exact HB.out)⟩
  · replace c4 := Bool.eq_false_iff.mpr c4
    subst c4
    have H1 : (some false) = some r := by rw [if_neg (show ¬ (false = true) by decide)] at H; exact H
    clear H
    have H := H1
    clear H1
    obtain rfl := Option.some.inj H
    go_enter Try.func3, Try.ntmps3
    go_wp2_with (first | ((with_reducible refine gate_dst (N := 3) rfl ?_); (try (refine gate_guard (by rfl) ?_; dsimp only)); refine box_event ?hg (N := 3) ?hd (cs := #[.slice A1_0 l1_0.length c1_0, .slice A1_1 l1_1.length c1_1]) (t := 25) ?hr ?_; (case hd => rfl); (case hg => rfl); (case hr => first | (go_simp; done) | (go_simp; rfl)); intro gb115 hg w48 hbox hb; have n0_ := Aside0.mk (Kd.V_below (Kd.V_elderB (by (with_reducible repeat (first | apply Kd.V_alloc | apply Kd.V_drewN | apply Kd.V_drew)); exact HO0.out) gb115 (Nat.le_of_eq hg.symm)) hb); have n1_ := Aside0.mk (Kd.V_below (Kd.V_elderB (by (with_reducible repeat (first | apply Kd.V_alloc | apply Kd.V_drewN | apply Kd.V_drew)); exact HO1_0.out) gb115 (Nat.le_of_eq hg.symm)) hb); have n2_ := Aside0.mk (Kd.V_below (Kd.V_elderB (by (with_reducible repeat (first | apply Kd.V_alloc | apply Kd.V_drewN | apply Kd.V_drew)); exact HO1_1.out) gb115 (Nat.le_of_eq hg.symm)) hb); have n3_ := Aside0.mk (below_step (by repeat (first | (with_reducible first | exact HB.out | apply below_alloc | apply pw_below_drewN | apply below_drew1) | exact HB.out)) hb); have n4_ := Aside0.mk (hbox); have n5_ := Aside0.mk ((by rw [hg]; exact (below_size (by repeat (first | (with_reducible first | exact HB.out | apply below_alloc | apply pw_below_drewN | apply below_drew1) | exact HB.out))) : w.heap.size ≤ gb115)); have n6_ := Aside0.mk ((by rw [hg]; exact (below_size (by repeat (first | (with_reducible first | exact HB.out | apply below_alloc | apply pw_below_drewN | apply below_drew1) | exact HB.out))) : w.heap.size ≤ gb115)); clear HO0; clear HO1_0; clear HO1_1; clear HB; have HO0 := n0_; have HO1_0 := n1_; have HO1_1 := n2_; have HB := n3_; have BK115 := n4_; have GW115 := n5_; have GE115 := n6_; clear n0_ n1_ n2_ n3_ n4_ n5_ n6_; clear hb hbox hg) | ((with_reducible refine gate_callee (f := 7) rfl ?_); refine goesL_ (some 8) rfl rfl Try.func7 (by kernel_rfl) rfl #[] rfl (by (try simp only [List.map_toArray, List.map_cons, List.map_nil]); first | done | rfl | (simp only [List.length_drop, List.length_take]; rfl)) ?_; (with_reducible refine (catchwordlaw17_head.calls k  false _ A3.out).mono ?_); rintro e w49 ⟨rfl, hb⟩; refine ⟨_, rfl, ?_⟩; have n0_ := Aside0.mk (Kd.V_below (by (with_reducible repeat (first | apply Kd.V_alloc | apply Kd.V_drewN | apply Kd.V_drew)); exact HO0.out) hb); have n1_ := Aside0.mk (Kd.V_below (by (with_reducible repeat (first | apply Kd.V_alloc | apply Kd.V_drewN | apply Kd.V_drew)); exact HO1_0.out) hb); have n2_ := Aside0.mk (Kd.V_below (by (with_reducible repeat (first | apply Kd.V_alloc | apply Kd.V_drewN | apply Kd.V_drew)); exact HO1_1.out) hb); have n3_ := Aside0.mk (blk_below (g := gb115) (o := .cells #[.slice A1_0 l1_0.length c1_0, .slice A1_1 l1_1.length c1_1] 25 (0, 0)) (by (with_reducible repeat (first | refine blk_drewN ?_ _ | refine blk_drew ?_ | refine blk_alloc ?_ _)); exact BK115.out) hb); have n4_ := Aside0.mk (below_step (by repeat (first | (with_reducible first | exact HB.out | apply below_alloc | apply pw_below_drewN | apply below_drew1 | refine below_set ?_ GE115.out) | exact HB.out)) hb); clear HO0; clear HO1_0; clear HO1_1; clear BK115; clear HB; have HO0 := n0_; have HO1_0 := n1_; have HO1_1 := n2_; have BK115 := n3_; have HB := n4_; clear n0_ n1_ n2_ n3_ n4_; (try clear hb); (try clear hb2); (try clear hk); (try clear hi)))
    go_ret
    exact ⟨by first | rfl | (simp [errW_none, errW_some] <;> rfl) | (simp [*, errW_none, errW_some] <;> rfl), by repeat (first | (with_reducible first | exact HB.out | apply below_alloc | apply pw_below_drewN | apply below_drew1 | refine below_set ?_ GE115.out) | exact HB.out)⟩

end Go.Proofs.Ythbjofpaegboiaa.QS
