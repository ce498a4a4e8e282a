/- The walks of Go functions and their mirrors (Q..), or a row over a Pure (Law..), written by the program of this session: a private copy of the print, turned (wip/patch_print.py). No condition beyond what each theorem says. -/
import Derived.Test.YthbjofpaegboiaaQSx0
import Derived.Test.YthbjofpaegboiaaQSx1
namespace Go.Proofs.Ythbjofpaegboiaa.QS
open Go.RowKit Go.Proofs.YthbjofpaegboiaaW.PrintWords Go.Proofs.YthbjofpaegboiaaW.PrintLast Go.Proofs.YthbjofpaegboiaaW.PrintMore
attribute [local go_sem] max2_int min2_int max_two min_two max_three min_three max_four min_four   -- for this text's walks alone
set_option linter.unusedVariables false
set_option linter.unusedSimpArgs false

/-! ### catchwordlaw17_ScoreGreat: function 4 -/
def catchwordlaw17_ScoreGreat.l0 : Nat → Int → Int → List (S25) → Int → Option (Bool)
  | 0, _, _, _, _ => none
  | k + 1, x0, x1, x5, x6 => if x6 < x0 then (if x5.length < 2932031007402 then (catchwordlaw17_ScoreGreat.l0 k x0 x1 (x5 ++ [(⟨(([(⟨0, 0, 0, x1⟩ : S31)] : List (S31))), ([] : List (S31))⟩ : S25)]) (wrap64 (x6 + 1))) else (none)) else (if x1 > 0 then ((score_Of.f k x5).bind fun t153 => (some ((IntKind.u64.wrap (t153)) == (mn (IntKind.u64.wrap ((mn (IntKind.u64.wrap ((IntKind.u64.wrap (x1)) + 1)) 2147483647) * (IntKind.u64.wrap (x0)))) 2147483647)))) else ((score_Of.f k x5).bind fun t154 => (some ((IntKind.u64.wrap (t154)) == (IntKind.u64.wrap (x0))))))
def catchwordlaw17_ScoreGreat.f (k : Nat) (a0 : Int) (a1 : Int) : Option (Bool) := (catchwordlaw17_head.f k).bind fun t143 => (if t143 = true then (catchwordlaw17_ScoreGreat.l0 k (Go.bits .and .i64 a0 255) a1 (([] : List (S25))) 0) else (some false))
theorem catchwordlaw17_ScoreGreat.mono_l : ∀ k, (∀ y0 y1 y2 y3, LeO (catchwordlaw17_ScoreGreat.l0 k y0 y1 y2 y3) (catchwordlaw17_ScoreGreat.l0 (k + 1) y0 y1 y2 y3))
  | 0 => fun _ _ _ _ r h => by simp [catchwordlaw17_ScoreGreat.l0] at h
  | k + 1 => by
    have ih0 := catchwordlaw17_ScoreGreat.mono_l k
    · intro y0 y1 y2 y3
      unfold catchwordlaw17_ScoreGreat.l0
      repeat' first
      | (with_reducible exact ih0 _ _ _ _)
      | (with_reducible exact catchwordlaw17_head.mono _)
      | (with_reducible exact score_Of.mono _ _)
      | (with_reducible exact LeO.refl _)
      | (with_reducible exact LeO.none _)
      | (with_reducible refine LeO.ite ?_ ?_)
      | (with_reducible refine LeO.bind ?_ (fun _ => ?_))
      | exact ih0 _ _ _ _
      | exact catchwordlaw17_head.mono _
      | exact score_Of.mono _ _
      | exact LeO.none _
      | refine LeO.ite ?_ ?_
      | refine LeO.bind ?_ (fun _ => ?_)
theorem catchwordlaw17_ScoreGreat.mono : ∀ a0 a1 k, LeO (catchwordlaw17_ScoreGreat.f k a0 a1) (catchwordlaw17_ScoreGreat.f (k + 1) a0 a1) := by
  intro a0 a1 k
  have ih0 := catchwordlaw17_ScoreGreat.mono_l k
  unfold catchwordlaw17_ScoreGreat.f
  repeat' first
      | (with_reducible exact ih0 _ _ _ _)
      | (with_reducible exact catchwordlaw17_head.mono _)
      | (with_reducible exact score_Of.mono _ _)
      | (with_reducible exact LeO.refl _)
      | (with_reducible exact LeO.none _)
      | (with_reducible refine LeO.ite ?_ ?_)
      | (with_reducible refine LeO.bind ?_ (fun _ => ?_))
      | exact ih0 _ _ _ _
      | exact catchwordlaw17_head.mono _
      | exact score_Of.mono _ _
      | exact LeO.none _
      | refine LeO.ite ?_ ?_
      | refine LeO.bind ?_ (fun _ => ?_)
set_option maxHeartbeats 8000000 in
set_option maxRecDepth 100000 in
theorem catchwordlaw17_ScoreGreat.calls (k : Nat) (a0 : Int) (a1 : Int) (r : Bool) (w : World) (h : catchwordlaw17_ScoreGreat.f k a0 a1 = some r) :
    Calls Try.prog 4 #[.int .i64 a0, .int .i64 a1] w fun e w' => e = .returned (.bool r) ∧ Below w.heap.size w w' := by
  have hu31 := Try.underlying31
  have hu25 := Try.underlying25
  have HB := Aside0.mk (Below.refl w.heap.size w)
  have H : ((catchwordlaw17_head.f k).bind fun t143 => (if t143 = true then (catchwordlaw17_ScoreGreat.l0 k (Go.bits .and .i64 a0 255) a1 (([] : List (S25))) 0) else (some false))) = some r := h
  clear h
  replace H := Option.bind_eq_some_iff.mp H
  obtain ⟨t143, A30, H⟩ := H
  replace H : (if t143 = true then (catchwordlaw17_ScoreGreat.l0 k (Go.bits .and .i64 a0 255) a1 (([] : List (S25))) 0) else (some false)) = some r := H
  have A3 := Aside0.mk A30
  clear A30
  by_cases c4 : t143 = true
  · subst c4
    have H1 : (catchwordlaw17_ScoreGreat.l0 k (Go.bits .and .i64 a0 255) a1 (([] : List (S25))) 0) = some r := by rw [if_pos rfl] at H; exact H
    clear H
    have H := H1
    clear H1
    obtain ⟨y144, hy144⟩ : ∃ y_ : List (S25), y_ = (([] : List (S25))) := ⟨_, rfl⟩
    replace H : (catchwordlaw17_ScoreGreat.l0 k (Go.bits .and .i64 a0 255) a1 y144 0) = some r := by first | (rw [hy144]; with_reducible exact H) | (have H2_ := (Option.bind_some _ _).symm.trans H; rw [hy144]; with_reducible exact H2_) | (have H2_ := (Option.bind_some _ _).symm.trans H; with_reducible exact H2_) | with_reducible exact H | (rw [hy144]; exact H) | exact H
    have Ny144 := Aside0.mk hy144
    clear hy144
    have H' := Aside0.mk H
    clear H
    go_enter Try.func4, Try.ntmps4
    go_wp2_with (first | ((with_reducible refine gate_callee (f := 7) rfl ?_); refine goesL_ (some 9) rfl rfl Try.func7 (by kernel_rfl) rfl #[] rfl (by (try simp only [List.map_toArray, List.map_cons, List.map_nil]); first | done | rfl | (simp only [List.length_drop, List.length_take]; rfl)) ?_; (with_reducible refine (catchwordlaw17_head.calls k  true _ A3.out).mono ?_); rintro e w5 ⟨rfl, hb⟩; refine ⟨_, rfl, ?_⟩; have n0_ := Aside0.mk (below_step (by repeat (first | (with_reducible first | exact HB.out | apply below_alloc | apply pw_below_drewN | apply below_drew1) | exact HB.out)) hb); clear HB; have HB := n0_; clear n0_; (try clear hb); (try clear hb2); (try clear hk); (try clear hi)) | ((with_reducible refine gate_dst (N := 13) rfl ?_); refine Kd.S_lit k25 _ 25 ?hg (N := 13) ?hd (xs := ([] : List (S25))) (inner := []) (ok := fun _ => True) (okp := fun _ => True) ?hr ?hp (fun _ hk => hk) trivial (Below.refl _ _) (Nat.le_refl _) (by simp) ?_; (case hd => rfl); (case hg => rfl); (case hr => first | (go_simp; done) | (go_simp; rfl)); (case hp => exact (Reps.none _ _)); intro v145 w6 ho7 hb hg_ hnew_; clear hg_ hnew_; (first | rw [← Ny144.out] at ho7 | (simp only [Int.reduceToNat] at ho7; rw [← Ny144.out] at ho7)); have n0_ := Aside0.mk (Kd.S_lower ho7 (below_size (by repeat (first | (with_reducible first | exact HB.out | apply below_alloc | apply pw_below_drewN | apply below_drew1) | exact HB.out)))); have n1_ := Aside0.mk (below_step (by repeat (first | (with_reducible first | exact HB.out | apply below_alloc | apply pw_below_drewN | apply below_drew1) | exact HB.out)) hb); clear HB; have HO146 := n0_; have HB := n1_; clear n0_ n1_; clear hb ho7))
    go_loopg [5, 6] k (fun kq v5 v6 w' => ∃ (x5_1 : List (S25)) (x6_1 : Int), v6 = .int .i64 x6_1 ∧ Aside0 (catchwordlaw17_ScoreGreat.l0 kq (Go.bits .and .i64 a0 255) a1 x5_1 x6_1 = some r) ∧ Aside0 (kq ≤ k) ∧ Aside0 (Kd.S k25 25 w' w.heap.size (fun _ => True) v5 x5_1) ∧ Aside0 (Below w.heap.size w w'))
    case atStart => exact ⟨(y144), (0), (by first | rfl | (simp; done) | (simp [*]; done)), H', ⟨Nat.le_refl _⟩, ⟨by (with_reducible repeat (first | apply Kd.S_alloc | apply Kd.S_drewN | apply Kd.S_drew)); exact HO146.out⟩, ⟨by repeat (first | (with_reducible first | exact HB.out | apply below_alloc | apply pw_below_drewN | apply below_drew1) | exact HB.out)⟩⟩
    case round =>
      clear H'
      try clear p2
      try clear c4
      try clear c7
      obtain ⟨x5_1, x6_1, rfl, HA, HK1, HO_5, HB⟩ := hrel
      cases gk with
      | zero => exact absurd HA.out (by simp [catchwordlaw17_ScoreGreat.l0])
      | succ k1 =>
        have H := HA.out
        clear HA
        simp only [catchwordlaw17_ScoreGreat.l0] at H
        by_cases c8 : x6_1 < (Go.bits .and .i64 a0 255)
        · rw [if_pos c8] at H
          have c8b0 : decide (x6_1 < (Go.bits .and .i64 a0 255)) = true := decide_eq_true c8
          clear c8
          obtain ⟨y147, hy147⟩ : ∃ y_ : List (S31), y_ = (([(⟨0, 0, 0, a1⟩ : S31)] : List (S31))) := ⟨_, rfl⟩
          replace H : (if x5_1.length < 2932031007402 then (catchwordlaw17_ScoreGreat.l0 k1 (Go.bits .and .i64 a0 255) a1 (x5_1 ++ [(⟨y147, ([] : List (S31))⟩ : S25)]) (wrap64 (x6_1 + 1))) else (none)) = some r := by first | (rw [hy147]; with_reducible exact H) | (have H2_ := (Option.bind_some _ _).symm.trans H; rw [hy147]; with_reducible exact H2_) | (have H2_ := (Option.bind_some _ _).symm.trans H; with_reducible exact H2_) | with_reducible exact H | (rw [hy147]; exact H) | exact H
          have Ny147 := Aside0.mk hy147
          clear hy147
          by_cases c9 : x5_1.length < 2932031007402
          · rw [if_pos c9] at H
            have LMc9 := Aside0.mk c9
            clear c9
            obtain ⟨y150, hy150⟩ : ∃ y_ : List (S25), y_ = (x5_1 ++ [(⟨y147, ([] : List (S31))⟩ : S25)]) := ⟨_, rfl⟩
            replace H : (catchwordlaw17_ScoreGreat.l0 k1 (Go.bits .and .i64 a0 255) a1 y150 (wrap64 (x6_1 + 1))) = some r := by first | (rw [hy150]; with_reducible exact H) | (have H2_ := (Option.bind_some _ _).symm.trans H; rw [hy150]; with_reducible exact H2_) | (have H2_ := (Option.bind_some _ _).symm.trans H; with_reducible exact H2_) | with_reducible exact H | (rw [hy150]; exact H) | exact H
            have Ny150 := Aside0.mk hy150
            clear hy150
            have H' := Aside0.mk H
            clear H
            go_wp2_with (first | ((with_reducible refine gate_dst (N := 22) rfl ?_); refine Kd.R_lit k31 _ 31 ?hg (N := 22) ?hd (xs := ([(⟨0, 0, 0, a1⟩ : S31)] : List (S31))) (inner := [.int .i64 0, .int .i64 0, .int .i64 0, .int .i64 a1]) (ok := fun _ => True) (okp := fun _ => True) ?hr ?hp (fun _ hk => hk) trivial (Below.refl _ _) (Nat.le_refl _) (by simp) ?_; (case hd => rfl); (case hg => rfl); (case hr => first | (go_simp; done) | (go_simp; rfl)); (case hp => exact (Reps.c4 (show Kd.M k31 _ _ _ (⟨0, 0, 0, a1⟩ : S31) [.int .i64 0, .int .i64 0, .int .i64 0, .int .i64 a1] from (k31_mkM _ _ _ (⟨0, 0, 0, a1⟩ : S31) )) (Reps.none _ _))); intro v148 w10 ho11 hb hg_ hnew_; clear hg_ hnew_; (first | rw [← Ny147.out] at ho11 | (simp only [Int.reduceToNat] at ho11; rw [← Ny147.out] at ho11)); have n0_ := Aside0.mk (Kd.S_elder' (by (with_reducible repeat (first | apply Kd.S_alloc | apply Kd.S_drewN | apply Kd.S_drew)); exact HO_5.out) (Kd.R_base ho11) hb); have n1_ := Aside0.mk (Kd.R_lower ho11 (below_size (by repeat (first | (with_reducible first | exact HB.out | apply below_alloc | apply pw_below_drewN | apply below_drew1) | exact HB.out)))); have n2_ := Aside0.mk (below_step (by repeat (first | (with_reducible first | exact HB.out | apply below_alloc | apply pw_below_drewN | apply below_drew1) | exact HB.out)) hb); clear HO_5; clear HB; have HO_5 := n0_; have HO149 := n1_; have HB := n2_; clear n0_ n1_ n2_; clear hb ho11; obtain ⟨Ao12, co12, eo12⟩ := Kd.R_slice HO149.out; subst eo12) | ((with_reducible refine gate_builtin (b := .append) (xs := #[.tmp 19, .tmp 24]) rfl ?_); at_builtin; refine Kd.S_append k25 (w0 := w) w.heap.size rfl (.tmp 19) (.tmp 24) 22 25 (.agg #[(.slice none 0 0), (.slice none 0 0)]) 48 rfl Try.underlying22 info25 rfl (by decide) (by omega) u5 x5_1 (⟨y147, ([] : List (S31))⟩ : S25) [.slice Ao12 y147.length co12, .slice none 0 0] (fun _ => True) (fun k_ => some k_ = (.slice Ao12 y147.length co12 : Value).ownBlock) rfl rfl ?aP (fun k_ hk_ => ((Kd.R_mono (ok' := fun k_ => ((fun _ => True)) k_ ∧ some k_ ≠ (u5 : Value).ownBlock) (Kd.R_apart' (HO149.out) (Kd.S_typed HO_5.out) (by decide)) (fun k_ hk => ⟨trivial, hk.2⟩))).1 k_ hk_.symm) ?aF ?aO ?aB ?aS ?aL ?_; (case aP => exact k25_mkM _ _ _ (⟨y147, ([] : List (S31))⟩ : S25) (Kd.R_mono (Kd.R_tight rfl (Kd.R_mono (ok' := fun k_ => ((fun _ => True)) k_ ∧ some k_ ≠ (u5 : Value).ownBlock) (Kd.R_apart' (HO149.out) (Kd.S_typed HO_5.out) (by decide)) (fun k_ hk => ⟨trivial, hk.2⟩))) (fun _ h_ => h_)) (Kd.R_nil _ _ _ _ _)); (case aB => exact (by repeat (first | (with_reducible first | exact HB.out | apply below_alloc | apply pw_below_drewN | apply below_drew1) | exact HB.out))); (case aF => exact (fun _ _ => trivial)); (case aO => exact (by (with_reducible repeat (first | apply Kd.S_alloc | apply Kd.S_drewN | apply Kd.S_drew)); exact Kd.S_mono HO_5.out (fun k_ hk => ⟨trivial, fun e_ => hk.2 e_⟩))); (case aS => exact (below_size (by repeat (first | (with_reducible first | exact HB.out | apply below_alloc | apply pw_below_drewN | apply below_drew1) | exact HB.out)))); (case aL => have := LMc9.out; omega); intro v151 w13 ho hb hg hat; rw [← Ny150.out] at ho; have n0_ := Aside0.mk (hb); have n1_ := Aside0.mk (ho); clear HB; clear HO_5; clear HO149; have HB := n0_; have HO152 := n1_; clear n0_ n1_; clear ho hb hg hat))
            go_roundg k1
            case measure => have := HK1.out; omega
            case rel => exact ⟨(y150), (wrap64 (x6_1 + 1)), (by first | rfl | (simp; done) | (simp [*]; done)), H', ⟨by have := HK1.out; omega⟩, ⟨by (with_reducible repeat (first | apply Kd.S_alloc | apply Kd.S_drewN | apply Kd.S_drew)); exact HO152.out⟩, ⟨by repeat (first | (with_reducible first | exact HB.out | apply below_alloc | apply pw_below_drewN | apply below_drew1) | exact HB.out)⟩⟩
          · rw [if_neg c9] at H
            exact absurd H (by simp)
        · rw [if_neg c8] at H
          have c8b0 : decide (x6_1 < (Go.bits .and .i64 a0 255)) = false := decide_eq_false c8
          clear c8
          by_cases c14 : a1 > 0
          · rw [if_pos c14] at H
            have c14b0 : decide (0 < a1) = true := decide_eq_true c14
            clear c14
            obtain ⟨ji15, hji15⟩ : ∃ j_ : Int, (mn (IntKind.u64.wrap ((IntKind.u64.wrap (a1)) + 1)) 2147483647) = j_ := ⟨_, rfl⟩
            replace H : ((score_Of.f k1 x5_1).bind fun t153 => (some ((IntKind.u64.wrap (t153)) == (mn (IntKind.u64.wrap ((ji15) * (IntKind.u64.wrap ((Go.bits .and .i64 a0 255))))) 2147483647)))) = some r := by first | (rw [hji15] at H; exact H) | (simp only [hji15] at H ⊢; exact H)
            have hji15_ : (if 2147483647 < (IntKind.u64.wrap ((IntKind.u64.wrap (a1)) + 1)) then 2147483647 else (IntKind.u64.wrap ((IntKind.u64.wrap (a1)) + 1))) = ji15 := hji15
            (try (have hji15n := hji15_; simp only [Int.ofNat_lt] at hji15n))
            obtain ⟨ji16, hji16⟩ : ∃ j_ : Int, (mn (IntKind.u64.wrap ((ji15) * (IntKind.u64.wrap ((Go.bits .and .i64 a0 255))))) 2147483647) = j_ := ⟨_, rfl⟩
            replace H : ((score_Of.f k1 x5_1).bind fun t153 => (some ((IntKind.u64.wrap (t153)) == (ji16)))) = some r := by first | (rw [hji16] at H; exact H) | (simp only [hji16] at H ⊢; exact H)
            have hji16_ : (if 2147483647 < (IntKind.u64.wrap ((ji15) * (IntKind.u64.wrap ((Go.bits .and .i64 a0 255))))) then 2147483647 else (IntKind.u64.wrap ((ji15) * (IntKind.u64.wrap ((Go.bits .and .i64 a0 255)))))) = ji16 := hji16
            (try (have hji16n := hji16_; simp only [Int.ofNat_lt] at hji16n))
            replace H := Option.bind_eq_some_iff.mp H
            obtain ⟨t153, A170, H⟩ := H
            replace H : (some ((IntKind.u64.wrap (t153)) == (ji16))) = some r := H
            have A17 := Aside0.mk A170
            clear A170
            obtain rfl := Option.some.inj H
            obtain ⟨Ao18, co18, eo18⟩ := Kd.S_slice HO_5.out
            subst eo18
            go_wp2_with (first | ((with_reducible refine gate_callee (f := 9) rfl ?_); refine goesL_ (some 40) rfl rfl Try.func9 (by kernel_rfl) rfl #[.slice Ao18 x5_1.length co18] rfl (by (try simp only [List.map_toArray, List.map_cons, List.map_nil]); first | done | rfl | (simp only [List.length_drop, List.length_take]; rfl)) ?_; (with_reducible refine (score_Of.calls k1 _ _ x5_1 t153 _ ?side1 ?side2 A17.out).mono ?_); (case side1 => repeat (first | exact (Kd.S_reads' HO_5.out).2.2 | (with_reducible refine Kd.C_alloc ?_ _) | (with_reducible refine Kd.C_drewN ?_ _) | (with_reducible refine Kd.C_drew ?_))); (case side2 => exact (Kd.S_reads' HO_5.out).2.1); rintro e w19 ⟨rfl, hb⟩; refine ⟨_, rfl, ?_⟩; have n0_ := Aside0.mk (Kd.S_below (by (with_reducible repeat (first | apply Kd.S_alloc | apply Kd.S_drewN | apply Kd.S_drew)); exact HO_5.out) hb); have n1_ := Aside0.mk (below_step (by repeat (first | (with_reducible first | exact HB.out | apply below_alloc | apply pw_below_drewN | apply below_drew1) | exact HB.out)) hb); clear HO_5; clear HB; have HO_5 := n0_; have HB := n1_; clear n0_ n1_; (try clear hb); (try clear hb2); (try clear hk); (try clear hi)))
            go_ret
            exact ⟨by first | rfl | (simp [errW_none, errW_some] <;> rfl) | (simp only [← hji15, ← hji16]; first | rfl | (simp [errW_none, errW_some] <;> rfl)) | (simp [*, errW_none, errW_some] <;> rfl), by repeat (first | (with_reducible first | exact HB.out | apply below_alloc | apply pw_below_drewN | apply below_drew1) | exact HB.out)⟩
          · rw [if_neg c14] at H
            have c14b0 : decide (0 < a1) = false := decide_eq_false c14
            clear c14
            replace H := Option.bind_eq_some_iff.mp H
            obtain ⟨t154, A200, H⟩ := H
            replace H : (some ((IntKind.u64.wrap (t154)) == (IntKind.u64.wrap ((Go.bits .and .i64 a0 255))))) = some r := H
            have A20 := Aside0.mk A200
            clear A200
            obtain rfl := Option.some.inj H
            obtain ⟨Ao21, co21, eo21⟩ := Kd.S_slice HO_5.out
            subst eo21
            go_wp2_with (first | ((with_reducible refine gate_callee (f := 9) rfl ?_); refine goesL_ (some 40) rfl rfl Try.func9 (by kernel_rfl) rfl #[.slice Ao21 x5_1.length co21] rfl (by (try simp only [List.map_toArray, List.map_cons, List.map_nil]); first | done | rfl | (simp only [List.length_drop, List.length_take]; rfl)) ?_; (with_reducible refine (score_Of.calls k1 _ _ x5_1 t154 _ ?side1 ?side2 A20.out).mono ?_); (case side1 => repeat (first | exact (Kd.S_reads' HO_5.out).2.2 | (with_reducible refine Kd.C_alloc ?_ _) | (with_reducible refine Kd.C_drewN ?_ _) | (with_reducible refine Kd.C_drew ?_))); (case side2 => exact (Kd.S_reads' HO_5.out).2.1); rintro e w22 ⟨rfl, hb⟩; refine ⟨_, rfl, ?_⟩; have n0_ := Aside0.mk (Kd.S_below (by (with_reducible repeat (first | apply Kd.S_alloc | apply Kd.S_drewN | apply Kd.S_drew)); exact HO_5.out) hb); have n1_ := Aside0.mk (below_step (by repeat (first | (with_reducible first | exact HB.out | apply below_alloc | apply pw_below_drewN | apply below_drew1) | exact HB.out)) hb); clear HO_5; clear HB; have HO_5 := n0_; have HB := n1_; clear n0_ n1_; (try clear hb); (try clear hb2); (try clear hk); (try clear hi)))
            go_ret
            exact ⟨by first | rfl | (simp [errW_none, errW_some] <;> rfl) | (simp [*, errW_none, errW_some] <;> rfl), by repeat (first | (with_reducible first | exact HB.out | apply below_alloc | apply pw_below_drewN | apply below_drew1) | exact HB.out)⟩
  · replace c4 := Bool.eq_false_iff.mpr c4
    subst c4
    have H1 : (some false) = some r := by rw [if_neg (show ¬ (false = true) by decide)] at H; exact H
    clear H
    have H := H1
    clear H1
    obtain rfl := Option.some.inj H
    go_enter Try.func4, Try.ntmps4
    go_wp2_with (first | ((with_reducible refine gate_callee (f := 7) rfl ?_); refine goesL_ (some 9) rfl rfl Try.func7 (by kernel_rfl) rfl #[] rfl (by (try simp only [List.map_toArray, List.map_cons, List.map_nil]); first | done | rfl | (simp only [List.length_drop, List.length_take]; rfl)) ?_; (with_reducible refine (catchwordlaw17_head.calls k  false _ A3.out).mono ?_); rintro e w23 ⟨rfl, hb⟩; refine ⟨_, rfl, ?_⟩; have n0_ := Aside0.mk (below_step (by repeat (first | (with_reducible first | exact HB.out | apply below_alloc | apply pw_below_drewN | apply below_drew1) | exact HB.out)) hb); clear HB; have HB := n0_; clear n0_; (try clear hb); (try clear hb2); (try clear hk); (try clear hi)))
    go_ret
    exact ⟨by first | rfl | (simp [errW_none, errW_some] <;> rfl) | (simp [*, errW_none, errW_some] <;> rfl), by repeat (first | (with_reducible first | exact HB.out | apply below_alloc | apply pw_below_drewN | apply below_drew1) | exact HB.out)⟩

/-- THE ONE PURE STATEMENT of catchwordlaw17_ScoreGreat: yours. -/
def catchwordlaw17_ScoreGreat.Pure : Prop := ∀ (a0 : Int) (a1 : Int), (Lit.int .i64 a0).wf = true → (Lit.int .i64 a1).wf = true → ∃ k, catchwordlaw17_ScoreGreat.f k a0 a1 = some true
theorem catchwordlaw17_ScoreGreat.walk (P : catchwordlaw17_ScoreGreat.Pure) (a0 : Int) (a1 : Int) (w : World) (w0 : (Lit.int .i64 a0).wf = true) (w1 : (Lit.int .i64 a1).wf = true) :
    Calls Try.prog 4 #[.int .i64 a0, .int .i64 a1] w fun e w' => e = .returned (.bool true) ∧ Below w.heap.size w w' := by
  obtain ⟨k, h⟩ := P a0 a1 w0 w1
  refine (catchwordlaw17_ScoreGreat.calls k a0 a1 true w h).mono ?_
  rintro e w' ⟨rfl, hd⟩
  exact ⟨rfl, hd⟩

/-! ### catchwordlaw17_ScoreParts: function 5 -/
def catchwordlaw17_ScoreParts.j0 : Nat → List (S25) → List (S25) → Bool → Option (Bool)
  | 0, _, _, _ => none
  | k + 1, x0, x1, x16 => if x16 = true then (some true) else ((score_Of.f k x0).bind fun t158 => ((score_Of.f k x1).bind fun t159 => ((some (([] : List (S25)) : List (S25))).bind fun y160 => (if y160.length + x0.length < 2932031007402 then ((some (y160 ++ x0 : List (S25))).bind fun y163 => (if y163.length + x1.length < 2932031007402 then ((score_Of.f k (y163 ++ x1)).bind fun t169 => (some ((IntKind.u64.wrap (t169)) == (mn (IntKind.u64.wrap ((IntKind.u64.wrap (t158)) + (IntKind.u64.wrap (t159)))) 2147483647)))) else (none))) else (none)))))
def catchwordlaw17_ScoreParts.f (k : Nat) (l0 : List (S25)) (l1 : List (S25)) : Option (Bool) := (catchwordlaw17_head.f k).bind fun t155 => (if t155 = true then ((catchwordlaw17_Few.f k l0).bind fun t156 => (if t156 = true then ((catchwordlaw17_Few.f k l1).bind fun t157 => (catchwordlaw17_ScoreParts.j0 k l0 l1 (!t157))) else (catchwordlaw17_ScoreParts.j0 k l0 l1 true))) else (some false))
theorem catchwordlaw17_ScoreParts.mono_l : ∀ k, (∀ y0 y1 y2, LeO (catchwordlaw17_ScoreParts.j0 k y0 y1 y2) (catchwordlaw17_ScoreParts.j0 (k + 1) y0 y1 y2))
  | 0 => fun _ _ _ r h => by simp [catchwordlaw17_ScoreParts.j0] at h
  | k + 1 => by
    have ih0 := catchwordlaw17_ScoreParts.mono_l k
    · intro y0 y1 y2
      unfold catchwordlaw17_ScoreParts.j0
      repeat' first
      | (with_reducible exact ih0 _ _ _)
      | (with_reducible exact catchwordlaw17_Few.mono _ _)
      | (with_reducible exact catchwordlaw17_head.mono _)
      | (with_reducible exact score_Of.mono _ _)
      | (with_reducible exact LeO.refl _)
      | (with_reducible exact LeO.none _)
      | (with_reducible refine LeO.ite ?_ ?_)
      | (with_reducible refine LeO.bind ?_ (fun _ => ?_))
      | exact ih0 _ _ _
      | exact catchwordlaw17_Few.mono _ _
      | exact catchwordlaw17_head.mono _
      | exact score_Of.mono _ _
      | exact LeO.none _
      | refine LeO.ite ?_ ?_
      | refine LeO.bind ?_ (fun _ => ?_)
theorem catchwordlaw17_ScoreParts.mono : ∀ a0 a1 k, LeO (catchwordlaw17_ScoreParts.f k a0 a1) (catchwordlaw17_ScoreParts.f (k + 1) a0 a1) := by
  intro a0 a1 k
  have ih0 := catchwordlaw17_ScoreParts.mono_l k
  unfold catchwordlaw17_ScoreParts.f
  repeat' first
      | (with_reducible exact ih0 _ _ _)
      | (with_reducible exact catchwordlaw17_Few.mono _ _)
      | (with_reducible exact catchwordlaw17_head.mono _)
      | (with_reducible exact score_Of.mono _ _)
      | (with_reducible exact LeO.refl _)
      | (with_reducible exact LeO.none _)
      | (with_reducible refine LeO.ite ?_ ?_)
      | (with_reducible refine LeO.bind ?_ (fun _ => ?_))
      | exact ih0 _ _ _
      | exact catchwordlaw17_Few.mono _ _
      | exact catchwordlaw17_head.mono _
      | exact score_Of.mono _ _
      | exact LeO.none _
      | refine LeO.ite ?_ ?_
      | refine LeO.bind ?_ (fun _ => ?_)
set_option maxHeartbeats 8000000 in
set_option maxRecDepth 100000 in
theorem catchwordlaw17_ScoreParts.calls (k : Nat) (P0_ : Nat → Prop) (A0 : Option Addr) (c0 : Nat) (l0 : List (S25)) (P1_ : Nat → Prop) (A1 : Option Addr) (c1 : Nat) (l1 : List (S25)) (r : Bool) (w : World) (hs0 : Kd.V k25 25 w w.heap.size (fun k_ => P0_ k_) (.slice A0 l0.length c0) l0) (hs1 : Kd.V k25 25 w w.heap.size (fun k_ => P1_ k_) (.slice A1 l1.length c1) l1) (h : catchwordlaw17_ScoreParts.f k l0 l1 = some r) :
    Calls Try.prog 5 #[.slice A0 l0.length c0, .slice A1 l1.length c1] w fun e w' => e = .returned (.bool r) ∧ Below w.heap.size w w' := by
  have HO0 := Aside0.mk (show Kd.V k25 25 w w.heap.size (fun k_ => ((P0_ k_ ∨ P1_ k_) ∨ w.heap.size ≤ k_)) (.slice A0 l0.length c0) l0 from Kd.V_mono hs0 (fun k_ hk => .inl (.inl hk)))
  have HO1 := Aside0.mk (show Kd.V k25 25 w w.heap.size (fun k_ => ((P0_ k_ ∨ P1_ k_) ∨ w.heap.size ≤ k_)) (.slice A1 l1.length c1) l1 from Kd.V_mono hs1 (fun k_ hk => .inl (.inr hk)))
  have HB := Aside0.mk (Below.refl w.heap.size w)
  have H : ((catchwordlaw17_head.f k).bind fun t155 => (if t155 = true then ((catchwordlaw17_Few.f k l0).bind fun t156 => (if t156 = true then ((catchwordlaw17_Few.f k l1).bind fun t157 => (catchwordlaw17_ScoreParts.j0 k l0 l1 (!t157))) else (catchwordlaw17_ScoreParts.j0 k l0 l1 true))) else (some false))) = some r := h
  clear h
  replace H := Option.bind_eq_some_iff.mp H
  obtain ⟨t155, A30, H⟩ := H
  replace H : (if t155 = true then ((catchwordlaw17_Few.f k l0).bind fun t156 => (if t156 = true then ((catchwordlaw17_Few.f k l1).bind fun t157 => (catchwordlaw17_ScoreParts.j0 k l0 l1 (!t157))) else (catchwordlaw17_ScoreParts.j0 k l0 l1 true))) else (some false)) = some r := H
  have A3 := Aside0.mk A30
  clear A30
  by_cases c4 : t155 = true
  · subst c4
    have H1 : ((catchwordlaw17_Few.f k l0).bind fun t156 => (if t156 = true then ((catchwordlaw17_Few.f k l1).bind fun t157 => (catchwordlaw17_ScoreParts.j0 k l0 l1 (!t157))) else (catchwordlaw17_ScoreParts.j0 k l0 l1 true))) = some r := by rw [if_pos rfl] at H; exact H
    clear H
    have H := H1
    clear H1
    have HC5 := Aside0.mk H
    clear H
    go_enter Try.func5, Try.ntmps5
    go_upto_region 3 with (first | ((with_reducible refine gate_callee (f := 7) rfl ?_); refine goesL_ (some 7) rfl rfl Try.func7 (by kernel_rfl) rfl #[] rfl (by (try simp only [List.map_toArray, List.map_cons, List.map_nil]); first | done | rfl | (simp only [List.length_drop, List.length_take]; rfl)) ?_; (with_reducible refine (catchwordlaw17_head.calls k  true _ A3.out).mono ?_); rintro e w6 ⟨rfl, hb⟩; refine ⟨_, rfl, ?_⟩; have n0_ := Aside0.mk (Kd.V_below (by (with_reducible repeat (first | apply Kd.V_alloc | apply Kd.V_drewN | apply Kd.V_drew)); exact HO0.out) hb); have n1_ := Aside0.mk (Kd.V_below (by (with_reducible repeat (first | apply Kd.V_alloc | apply Kd.V_drewN | apply Kd.V_drew)); exact HO1.out) hb); have n2_ := Aside0.mk (below_step (by repeat (first | (with_reducible first | exact HB.out | apply below_alloc | apply pw_below_drewN | apply below_drew1) | exact HB.out)) hb); clear HO0; clear HO1; clear HB; have HO0 := n0_; have HO1 := n1_; have HB := n2_; clear n0_ n1_ n2_; (try clear hb); (try clear hb2); (try clear hk); (try clear hi)))
    (try simp only [Act.put, List.setIfInBounds_toArray, List.set_cons_zero, List.set_cons_succ])
    go_cut [16] (fun v16 wc => ∃ (kq : Nat) (x16_4 : Bool), v16 = .bool x16_4 ∧ Aside0 (catchwordlaw17_ScoreParts.j0 kq l0 l1 x16_4 = some r) ∧ Aside0 (kq ≤ k) ∧ Aside0 (Kd.V k25 25 wc w.heap.size (fun k_ => ((P0_ k_ ∨ P1_ k_) ∨ w.heap.size ≤ k_)) (.slice A0 l0.length c0) l0) ∧ Aside0 (Kd.V k25 25 wc w.heap.size (fun k_ => ((P0_ k_ ∨ P1_ k_) ∨ w.heap.size ≤ k_)) (.slice A1 l1.length c1) l1) ∧ Aside0 (Below w.heap.size w wc))
    case first =>
      have H := HC5.out
      clear HC5
      replace H := Option.bind_eq_some_iff.mp H
      obtain ⟨t156, A70, H⟩ := H
      replace H : (if t156 = true then ((catchwordlaw17_Few.f k l1).bind fun t157 => (catchwordlaw17_ScoreParts.j0 k l0 l1 (!t157))) else (catchwordlaw17_ScoreParts.j0 k l0 l1 true)) = some r := H
      have A7 := Aside0.mk A70
      clear A70
      by_cases c8 : t156 = true
      · subst c8
        have H1 : ((catchwordlaw17_Few.f k l1).bind fun t157 => (catchwordlaw17_ScoreParts.j0 k l0 l1 (!t157))) = some r := by rw [if_pos rfl] at H; exact H
        clear H
        have H := H1
        clear H1
        replace H := Option.bind_eq_some_iff.mp H
        obtain ⟨t157, A90, H⟩ := H
        replace H : (catchwordlaw17_ScoreParts.j0 k l0 l1 (!t157)) = some r := H
        have A9 := Aside0.mk A90
        clear A90
        have H' := Aside0.mk H
        clear H
        go_wp2_with (first | ((with_reducible refine gate_callee (f := 8) rfl ?_); refine goesL_ (some 10) rfl rfl Try.func8 (by kernel_rfl) rfl #[.slice A0 l0.length c0] rfl (by (try simp only [List.map_toArray, List.map_cons, List.map_nil]); first | done | rfl | (simp only [List.length_drop, List.length_take]; rfl)) ?_; (with_reducible refine (catchwordlaw17_Few.calls k _ _ l0 true _ ?side1 ?side2 A7.out).mono ?_); (case side1 => repeat (first | exact (Kd.V_reads' HO0.out).2.2 | (with_reducible refine Kd.C_alloc ?_ _) | (with_reducible refine Kd.C_drewN ?_ _) | (with_reducible refine Kd.C_drew ?_))); (case side2 => exact (Kd.V_reads' HO0.out).2.1); rintro e w10 ⟨rfl, hb⟩; refine ⟨_, rfl, ?_⟩; have n0_ := Aside0.mk (Kd.V_below (by (with_reducible repeat (first | apply Kd.V_alloc | apply Kd.V_drewN | apply Kd.V_drew)); exact HO0.out) hb); have n1_ := Aside0.mk (Kd.V_below (by (with_reducible repeat (first | apply Kd.V_alloc | apply Kd.V_drewN | apply Kd.V_drew)); exact HO1.out) hb); have n2_ := Aside0.mk (below_step (by repeat (first | (with_reducible first | exact HB.out | apply below_alloc | apply pw_below_drewN | apply below_drew1) | exact HB.out)) hb); clear HO0; clear HO1; clear HB; have HO0 := n0_; have HO1 := n1_; have HB := n2_; clear n0_ n1_ n2_; (try clear hb); (try clear hb2); (try clear hk); (try clear hi)) | (go_at_call 8; (with_reducible refine (catchwordlaw17_Few.calls k _ _ l1 t157 _ ?side1 ?side2 A9.out).mono ?_); (case side1 => repeat (first | exact (Kd.V_reads' HO1.out).2.2 | (with_reducible refine Kd.C_alloc ?_ _) | (with_reducible refine Kd.C_drewN ?_ _) | (with_reducible refine Kd.C_drew ?_))); (case side2 => exact (Kd.V_reads' HO1.out).2.1); rintro e w11 ⟨rfl, hb⟩; have n0_ := Aside0.mk (Kd.V_below (by (with_reducible repeat (first | apply Kd.V_alloc | apply Kd.V_drewN | apply Kd.V_drew)); exact HO0.out) hb); have n1_ := Aside0.mk (Kd.V_below (by (with_reducible repeat (first | apply Kd.V_alloc | apply Kd.V_drewN | apply Kd.V_drew)); exact HO1.out) hb); have n2_ := Aside0.mk (below_step (by repeat (first | (with_reducible first | exact HB.out | apply below_alloc | apply pw_below_drewN | apply below_drew1) | exact HB.out)) hb); clear HO0; clear HO1; clear HB; have HO0 := n0_; have HO1 := n1_; have HB := n2_; clear n0_ n1_ n2_; (try clear hb); (try clear hb2); (try clear hk); (try clear hi)))
        go_meet
        case rel => exact ⟨_, (!t157), (by first | rfl | (simp; done) | (simp [*]; done)), H', ⟨by first | omega | exact Nat.le_refl _⟩, ⟨by (with_reducible repeat (first | apply Kd.V_alloc | apply Kd.V_drewN | apply Kd.V_drew)); exact HO0.out⟩, ⟨by (with_reducible repeat (first | apply Kd.V_alloc | apply Kd.V_drewN | apply Kd.V_drew)); exact HO1.out⟩, ⟨by repeat (first | (with_reducible first | exact HB.out | apply below_alloc | apply pw_below_drewN | apply below_drew1) | exact HB.out)⟩⟩
      · replace c8 := Bool.eq_false_iff.mpr c8
        subst c8
        have H1 : (catchwordlaw17_ScoreParts.j0 k l0 l1 true) = some r := by rw [if_neg (show ¬ (false = true) by decide)] at H; exact H
        clear H
        have H := H1
        clear H1
        have H' := Aside0.mk H
        clear H
        go_wp2_with (first | ((with_reducible refine gate_callee (f := 8) rfl ?_); refine goesL_ (some 10) rfl rfl Try.func8 (by kernel_rfl) rfl #[.slice A0 l0.length c0] rfl (by (try simp only [List.map_toArray, List.map_cons, List.map_nil]); first | done | rfl | (simp only [List.length_drop, List.length_take]; rfl)) ?_; (with_reducible refine (catchwordlaw17_Few.calls k _ _ l0 false _ ?side1 ?side2 A7.out).mono ?_); (case side1 => repeat (first | exact (Kd.V_reads' HO0.out).2.2 | (with_reducible refine Kd.C_alloc ?_ _) | (with_reducible refine Kd.C_drewN ?_ _) | (with_reducible refine Kd.C_drew ?_))); (case side2 => exact (Kd.V_reads' HO0.out).2.1); rintro e w12 ⟨rfl, hb⟩; refine ⟨_, rfl, ?_⟩; have n0_ := Aside0.mk (Kd.V_below (by (with_reducible repeat (first | apply Kd.V_alloc | apply Kd.V_drewN | apply Kd.V_drew)); exact HO0.out) hb); have n1_ := Aside0.mk (Kd.V_below (by (with_reducible repeat (first | apply Kd.V_alloc | apply Kd.V_drewN | apply Kd.V_drew)); exact HO1.out) hb); have n2_ := Aside0.mk (below_step (by repeat (first | (with_reducible first | exact HB.out | apply below_alloc | apply pw_below_drewN | apply below_drew1) | exact HB.out)) hb); clear HO0; clear HO1; clear HB; have HO0 := n0_; have HO1 := n1_; have HB := n2_; clear n0_ n1_ n2_; (try clear hb); (try clear hb2); (try clear hk); (try clear hi)))
        go_meet
        case rel => exact ⟨_, (true), (by first | rfl | (simp; done) | (simp [*]; done)), H', ⟨by first | omega | exact Nat.le_refl _⟩, ⟨by (with_reducible repeat (first | apply Kd.V_alloc | apply Kd.V_drewN | apply Kd.V_drew)); exact HO0.out⟩, ⟨by (with_reducible repeat (first | apply Kd.V_alloc | apply Kd.V_drewN | apply Kd.V_drew)); exact HO1.out⟩, ⟨by repeat (first | (with_reducible first | exact HB.out | apply below_alloc | apply pw_below_drewN | apply below_drew1) | exact HB.out)⟩⟩
    case rest =>
      clear HC5
      try clear c1
      try clear p2
      try clear c4
      try clear c5
      try clear c7
      try clear c8
      obtain ⟨kq, x16_4, rfl, HA, HJ4, HO_0, HO_1, HB⟩ := hcut
      cases kq with
      | zero => exact absurd HA.out (by simp [catchwordlaw17_ScoreParts.j0])
      | succ kj4 =>
        have H := HA.out
        clear HA
        simp only [catchwordlaw17_ScoreParts.j0] at H
        by_cases c13 : x16_4 = true
        · subst c13
          have H1 : (some true) = some r := by rw [if_pos rfl] at H; exact H
          clear H
          have H := H1
          clear H1
          obtain rfl := Option.some.inj H
          go_wp2
          go_ret
          exact ⟨by first | rfl | (simp [errW_none, errW_some] <;> rfl) | (simp [*, errW_none, errW_some] <;> rfl), by repeat (first | (with_reducible first | exact HB.out | apply below_alloc | apply pw_below_drewN | apply below_drew1) | exact HB.out)⟩
        · replace c13 := Bool.eq_false_iff.mpr c13
          subst c13
          have H1 : ((score_Of.f kj4 l0).bind fun t158 => ((score_Of.f kj4 l1).bind fun t159 => ((some (([] : List (S25)) : List (S25))).bind fun y160 => (if y160.length + l0.length < 2932031007402 then ((some (y160 ++ l0 : List (S25))).bind fun y163 => (if y163.length + l1.length < 2932031007402 then ((score_Of.f kj4 (y163 ++ l1)).bind fun t169 => (some ((IntKind.u64.wrap (t169)) == (mn (IntKind.u64.wrap ((IntKind.u64.wrap (t158)) + (IntKind.u64.wrap (t159)))) 2147483647)))) else (none))) else (none))))) = some r := by rw [if_neg (show ¬ (false = true) by decide)] at H; exact H
          clear H
          have H := H1
          clear H1
          replace H := Option.bind_eq_some_iff.mp H
          obtain ⟨t158, A140, H⟩ := H
          replace H : ((score_Of.f kj4 l1).bind fun t159 => ((some (([] : List (S25)) : List (S25))).bind fun y160 => (if y160.length + l0.length < 2932031007402 then ((some (y160 ++ l0 : List (S25))).bind fun y163 => (if y163.length + l1.length < 2932031007402 then ((score_Of.f kj4 (y163 ++ l1)).bind fun t169 => (some ((IntKind.u64.wrap (t169)) == (mn (IntKind.u64.wrap ((IntKind.u64.wrap (t158)) + (IntKind.u64.wrap (t159)))) 2147483647)))) else (none))) else (none)))) = some r := H
          have A14 := Aside0.mk A140
          clear A140
          replace H := Option.bind_eq_some_iff.mp H
          obtain ⟨t159, A150, H⟩ := H
          replace H : ((some (([] : List (S25)) : List (S25))).bind fun y160 => (if y160.length + l0.length < 2932031007402 then ((some (y160 ++ l0 : List (S25))).bind fun y163 => (if y163.length + l1.length < 2932031007402 then ((score_Of.f kj4 (y163 ++ l1)).bind fun t169 => (some ((IntKind.u64.wrap (t169)) == (mn (IntKind.u64.wrap ((IntKind.u64.wrap (t158)) + (IntKind.u64.wrap (t159)))) 2147483647)))) else (none))) else (none))) = some r := H
          have A15 := Aside0.mk A150
          clear A150
          obtain ⟨y160, hy160⟩ : ∃ y_ : List (S25), y_ = (([] : List (S25))) := ⟨_, rfl⟩
          replace H : (if y160.length + l0.length < 2932031007402 then ((some (y160 ++ l0 : List (S25))).bind fun y163 => (if y163.length + l1.length < 2932031007402 then ((score_Of.f kj4 (y163 ++ l1)).bind fun t169 => (some ((IntKind.u64.wrap (t169)) == (mn (IntKind.u64.wrap ((IntKind.u64.wrap (t158)) + (IntKind.u64.wrap (t159)))) 2147483647)))) else (none))) else (none)) = some r := by first | (rw [hy160]; with_reducible exact H) | (have H2_ := (Option.bind_some _ _).symm.trans H; rw [hy160]; with_reducible exact H2_) | (have H2_ := (Option.bind_some _ _).symm.trans H; with_reducible exact H2_) | with_reducible exact H | (rw [hy160]; exact H) | exact H
          have Ny160 := Aside0.mk hy160
          clear hy160
          by_cases c16 : y160.length + l0.length < 2932031007402
          · rw [if_pos c16] at H
            have LMc16 := Aside0.mk c16
            clear c16
            obtain ⟨y163, hy163⟩ : ∃ y_ : List (S25), y_ = (y160 ++ l0) := ⟨_, rfl⟩
            replace H : (if y163.length + l1.length < 2932031007402 then ((score_Of.f kj4 (y163 ++ l1)).bind fun t169 => (some ((IntKind.u64.wrap (t169)) == (mn (IntKind.u64.wrap ((IntKind.u64.wrap (t158)) + (IntKind.u64.wrap (t159)))) 2147483647)))) else (none)) = some r := by first | (rw [hy163]; with_reducible exact H) | (have H2_ := (Option.bind_some _ _).symm.trans H; rw [hy163]; with_reducible exact H2_) | (have H2_ := (Option.bind_some _ _).symm.trans H; with_reducible exact H2_) | with_reducible exact H | (rw [hy163]; exact H) | exact H
            have Ny163 := Aside0.mk hy163
            clear hy163
            by_cases c17 : y163.length + l1.length < 2932031007402
            · rw [if_pos c17] at H
              have LMc17 := Aside0.mk c17
              clear c17
              obtain ⟨y166, hy166⟩ : ∃ y_ : List (S25), y_ = (y163 ++ l1) := ⟨_, rfl⟩
              replace H : ((score_Of.f kj4 y166).bind fun t169 => (some ((IntKind.u64.wrap (t169)) == (mn (IntKind.u64.wrap ((IntKind.u64.wrap (t158)) + (IntKind.u64.wrap (t159)))) 2147483647)))) = some r := by first | (rw [hy166]; with_reducible exact H) | (have H2_ := (Option.bind_some _ _).symm.trans H; rw [hy166]; with_reducible exact H2_) | (have H2_ := (Option.bind_some _ _).symm.trans H; with_reducible exact H2_) | with_reducible exact H | (rw [hy166]; exact H) | exact H
              have Ny166 := Aside0.mk hy166
              clear hy166
              replace H := Option.bind_eq_some_iff.mp H
              obtain ⟨t169, A180, H⟩ := H
              replace H : (some ((IntKind.u64.wrap (t169)) == (mn (IntKind.u64.wrap ((IntKind.u64.wrap (t158)) + (IntKind.u64.wrap (t159)))) 2147483647))) = some r := H
              have A18 := Aside0.mk A180
              clear A180
              obtain ⟨ji19, hji19⟩ : ∃ j_ : Int, (mn (IntKind.u64.wrap ((IntKind.u64.wrap (t158)) + (IntKind.u64.wrap (t159)))) 2147483647) = j_ := ⟨_, rfl⟩
              replace H : (some ((IntKind.u64.wrap (t169)) == (ji19))) = some r := by first | (rw [hji19] at H; exact H) | (simp only [hji19] at H ⊢; exact H)
              (try rw [hji19] at A14)
              (try rw [hji19] at A15)
              (try rw [hji19] at A18)
              (try (have hji19h : ji19 ≤ 2147483647 := by (rw [← hji19]; unfold mn; (repeat' split) <;> omega)))
              (try (have hji19g : ji19 ≤ 64 := by omega))
              have hji19_ : (if 2147483647 < (IntKind.u64.wrap ((IntKind.u64.wrap (t158)) + (IntKind.u64.wrap (t159)))) then 2147483647 else (IntKind.u64.wrap ((IntKind.u64.wrap (t158)) + (IntKind.u64.wrap (t159))))) = ji19 := hji19
              (try (have hji19n := hji19_; simp only [Int.ofNat_lt] at hji19n))
              obtain rfl := Option.some.inj H
              go_wp2_with (first | ((with_reducible refine gate_callee (f := 9) rfl ?_); refine goesL_ (some 18) rfl rfl Try.func9 (by kernel_rfl) rfl #[.slice A0 l0.length c0] rfl (by (try simp only [List.map_toArray, List.map_cons, List.map_nil]); first | done | rfl | (simp only [List.length_drop, List.length_take]; rfl)) ?_; (with_reducible refine (score_Of.calls kj4 _ _ l0 t158 _ ?side1 ?side2 A14.out).mono ?_); (case side1 => repeat (first | exact (Kd.V_reads' HO_0.out).2.2 | (with_reducible refine Kd.C_alloc ?_ _) | (with_reducible refine Kd.C_drewN ?_ _) | (with_reducible refine Kd.C_drew ?_))); (case side2 => exact (Kd.V_reads' HO_0.out).2.1); rintro e w20 ⟨rfl, hb⟩; refine ⟨_, rfl, ?_⟩; have n0_ := Aside0.mk (Kd.V_below (by (with_reducible repeat (first | apply Kd.V_alloc | apply Kd.V_drewN | apply Kd.V_drew)); exact HO_0.out) hb); have n1_ := Aside0.mk (Kd.V_below (by (with_reducible repeat (first | apply Kd.V_alloc | apply Kd.V_drewN | apply Kd.V_drew)); exact HO_1.out) hb); have n2_ := Aside0.mk (below_step (by repeat (first | (with_reducible first | exact HB.out | apply below_alloc | apply pw_below_drewN | apply below_drew1) | exact HB.out)) hb); clear HO_0; clear HO_1; clear HB; have HO_0 := n0_; have HO_1 := n1_; have HB := n2_; clear n0_ n1_ n2_; (try clear hb); (try clear hb2); (try clear hk); (try clear hi)) | ((with_reducible refine gate_callee (f := 9) rfl ?_); refine goesL_ (some 21) rfl rfl Try.func9 (by kernel_rfl) rfl #[.slice A1 l1.length c1] rfl (by (try simp only [List.map_toArray, List.map_cons, List.map_nil]); first | done | rfl | (simp only [List.length_drop, List.length_take]; rfl)) ?_; (with_reducible refine (score_Of.calls kj4 _ _ l1 t159 _ ?side1 ?side2 A15.out).mono ?_); (case side1 => repeat (first | exact (Kd.V_reads' HO_1.out).2.2 | (with_reducible refine Kd.C_alloc ?_ _) | (with_reducible refine Kd.C_drewN ?_ _) | (with_reducible refine Kd.C_drew ?_))); (case side2 => exact (Kd.V_reads' HO_1.out).2.1); rintro e w21 ⟨rfl, hb⟩; refine ⟨_, rfl, ?_⟩; have n0_ := Aside0.mk (Kd.V_below (by (with_reducible repeat (first | apply Kd.V_alloc | apply Kd.V_drewN | apply Kd.V_drew)); exact HO_0.out) hb); have n1_ := Aside0.mk (Kd.V_below (by (with_reducible repeat (first | apply Kd.V_alloc | apply Kd.V_drewN | apply Kd.V_drew)); exact HO_1.out) hb); have n2_ := Aside0.mk (below_step (by repeat (first | (with_reducible first | exact HB.out | apply below_alloc | apply pw_below_drewN | apply below_drew1) | exact HB.out)) hb); clear HO_0; clear HO_1; clear HB; have HO_0 := n0_; have HO_1 := n1_; have HB := n2_; clear n0_ n1_ n2_; (try clear hb); (try clear hb2); (try clear hk); (try clear hi)) | ((with_reducible refine gate_dst (N := 23) rfl ?_); refine Kd.N_lit k25 _ 25 ?hg (N' := 23) ?hd (xs := ([] : List (S25))) (inner := []) (ok := (fun k_ => ((P0_ k_ ∨ P1_ k_) ∨ w.heap.size ≤ k_))) (okp := (fun k_ => ((P0_ k_ ∨ P1_ k_) ∨ w.heap.size ≤ k_))) ?hr ?hp (fun _ hk => hk) ((show ∀ k_, w21.heap.size ≤ k_ → (fun k_ => ((P0_ k_ ∨ P1_ k_) ∨ w.heap.size ≤ k_)) k_ from fun k_ hk => (.inr (Nat.le_trans (below_size (by repeat (first | (with_reducible first | exact HB.out | apply below_alloc | apply pw_below_drewN | apply below_drew1) | exact HB.out))) hk))) _ (Nat.le_refl _)) (Below.refl _ _) (Nat.le_refl _) (by simp) ?_; (case hd => rfl); (case hg => rfl); (case hr => first | (go_simp; done) | (go_simp; rfl)); (case hp => exact (Reps.none _ _)); intro v161 w22 ho23 hb hg_ hnew_; clear hg_ hnew_; (first | rw [← Ny160.out] at ho23 | (simp only [Int.reduceToNat] at ho23; rw [← Ny160.out] at ho23)); have n0_ := Aside0.mk (Kd.V_elder' (by (with_reducible repeat (first | apply Kd.V_alloc | apply Kd.V_drewN | apply Kd.V_drew)); exact HO_0.out) (Kd.N_base ho23) hb); have n1_ := Aside0.mk (Kd.V_elder' (by (with_reducible repeat (first | apply Kd.V_alloc | apply Kd.V_drewN | apply Kd.V_drew)); exact HO_1.out) (Kd.N_base ho23) hb); have n2_ := Aside0.mk (Kd.N_lower ho23 (below_size (by repeat (first | (with_reducible first | exact HB.out | apply below_alloc | apply pw_below_drewN | apply below_drew1) | exact HB.out)))); have n3_ := Aside0.mk (below_step (by repeat (first | (with_reducible first | exact HB.out | apply below_alloc | apply pw_below_drewN | apply below_drew1) | exact HB.out)) hb); clear HO_0; clear HO_1; clear HB; have HO_0 := n0_; have HO_1 := n1_; have HO162 := n2_; have HB := n3_; clear n0_ n1_ n2_ n3_; clear hb ho23) | ((with_reducible refine gate_builtin (b := .append) (xs := #[.tmp 23, .tmp 24]) rfl ?_); at_builtin; refine Kd.N_append_rows k25 (w0 := w) w.heap.size rfl (.tmp 23) (.tmp 24) 22 25 (.agg #[(.slice none 0 0), (.slice none 0 0)]) 48 rfl Try.underlying22 info25 rfl (by decide) (by omega) v161 y160 l0 _ _ _ (fun k_ => ((P0_ k_ ∨ P1_ k_) ∨ w.heap.size ≤ k_)) (fun k_ => ((fun k_ => ((P0_ k_ ∨ P1_ k_) ∨ w.heap.size ≤ k_))) k_ ∧ some k_ ≠ (v161 : Value).ownBlock) rfl rfl ?aO ?aR (fun _ hk => hk) ?aF ?aB ?aS ?aL ?_; (case aR => exact (by skip; exact Kd.V_F (Kd.V_mono (ok' := (fun k_ => ((fun k_ => ((P0_ k_ ∨ P1_ k_) ∨ w.heap.size ≤ k_))) k_ ∧ some k_ ≠ (v161 : Value).ownBlock)) (HO_0.out) (fun k_ hk => ⟨hk.1, hk.2⟩)))); (case aB => exact (by repeat (first | (with_reducible first | exact HB.out | apply below_alloc | apply pw_below_drewN | apply below_drew1) | exact HB.out))); (case aF => exact (fun k_ hk => (.inr (Nat.le_trans (below_size (by repeat (first | (with_reducible first | exact HB.out | apply below_alloc | apply pw_below_drewN | apply below_drew1) | exact HB.out))) hk)))); (case aO => exact (by (with_reducible repeat (first | apply Kd.N_alloc | apply Kd.N_drewN | apply Kd.N_drew)); exact HO162.out)); (case aS => exact (below_size (by repeat (first | (with_reducible first | exact HB.out | apply below_alloc | apply pw_below_drewN | apply below_drew1) | exact HB.out)))); (case aL => have := LMc16.out; omega); intro v164 w24 ho hb hg hat; rw [← Ny163.out] at ho; have n0_ := Aside0.mk (Kd.V_afterv (ok := (fun k_ => ((P0_ k_ ∨ P1_ k_) ∨ w.heap.size ≤ k_))) (by (with_reducible repeat (first | apply Kd.V_alloc | apply Kd.V_drewN | apply Kd.V_drew)); exact HO_0.out) hg hat); have n1_ := Aside0.mk (Kd.V_afterv (ok := (fun k_ => ((P0_ k_ ∨ P1_ k_) ∨ w.heap.size ≤ k_))) (by (with_reducible repeat (first | apply Kd.V_alloc | apply Kd.V_drewN | apply Kd.V_drew)); exact HO_1.out) hg hat); have n2_ := Aside0.mk (hb); have n3_ := Aside0.mk (ho); clear HO_0; clear HO_1; clear HB; clear HO162; have HO_0 := n0_; have HO_1 := n1_; have HB := n2_; have HO165 := n3_; clear n0_ n1_ n2_ n3_; clear ho hb hg hat) | ((with_reducible refine gate_builtin (b := .append) (xs := #[.tmp 25, .tmp 26]) rfl ?_); at_builtin; refine Kd.N_append_rows k25 (w0 := w) w.heap.size rfl (.tmp 25) (.tmp 26) 22 25 (.agg #[(.slice none 0 0), (.slice none 0 0)]) 48 rfl Try.underlying22 info25 rfl (by decide) (by omega) v164 y163 l1 _ _ _ (fun k_ => ((P0_ k_ ∨ P1_ k_) ∨ w.heap.size ≤ k_)) (fun k_ => ((fun k_ => ((P0_ k_ ∨ P1_ k_) ∨ w.heap.size ≤ k_))) k_ ∧ some k_ ≠ (v164 : Value).ownBlock) rfl rfl ?aO ?aR (fun _ hk => hk) ?aF ?aB ?aS ?aL ?_; (case aR => exact (by skip; exact Kd.V_F (Kd.V_mono (ok' := (fun k_ => ((fun k_ => ((P0_ k_ ∨ P1_ k_) ∨ w.heap.size ≤ k_))) k_ ∧ some k_ ≠ (v164 : Value).ownBlock)) (HO_1.out) (fun k_ hk => ⟨hk.1, hk.2⟩)))); (case aB => exact (by repeat (first | (with_reducible first | exact HB.out | apply below_alloc | apply pw_below_drewN | apply below_drew1) | exact HB.out))); (case aF => exact (fun k_ hk => (.inr (Nat.le_trans (below_size (by repeat (first | (with_reducible first | exact HB.out | apply below_alloc | apply pw_below_drewN | apply below_drew1) | exact HB.out))) hk)))); (case aO => exact (by (with_reducible repeat (first | apply Kd.N_alloc | apply Kd.N_drewN | apply Kd.N_drew)); exact HO165.out)); (case aS => exact (below_size (by repeat (first | (with_reducible first | exact HB.out | apply below_alloc | apply pw_below_drewN | apply below_drew1) | exact HB.out)))); (case aL => have := LMc17.out; omega); intro v167 w25 ho hb hg hat; rw [← Ny166.out] at ho; have n0_ := Aside0.mk (Kd.V_afterv (ok := (fun k_ => ((P0_ k_ ∨ P1_ k_) ∨ w.heap.size ≤ k_))) (by (with_reducible repeat (first | apply Kd.V_alloc | apply Kd.V_drewN | apply Kd.V_drew)); exact HO_0.out) hg hat); have n1_ := Aside0.mk (Kd.V_afterv (ok := (fun k_ => ((P0_ k_ ∨ P1_ k_) ∨ w.heap.size ≤ k_))) (by (with_reducible repeat (first | apply Kd.V_alloc | apply Kd.V_drewN | apply Kd.V_drew)); exact HO_1.out) hg hat); have n2_ := Aside0.mk (hb); have n3_ := Aside0.mk (ho); clear HO_0; clear HO_1; clear HB; clear HO165; have HO_0 := n0_; have HO_1 := n1_; have HB := n2_; have HO168 := n3_; clear n0_ n1_ n2_ n3_; clear ho hb hg hat; obtain ⟨Ao26, co26, eo26⟩ := Kd.N_slice HO168.out; subst eo26) | ((with_reducible refine gate_callee (f := 9) rfl ?_); refine goesL_ (some 28) rfl rfl Try.func9 (by kernel_rfl) rfl #[.slice Ao26 y166.length co26] rfl (by (try simp only [List.map_toArray, List.map_cons, List.map_nil]); first | done | rfl | (simp only [List.length_drop, List.length_take]; rfl)) ?_; (with_reducible refine (score_Of.calls kj4 _ _ y166 t169 _ ?side1 ?side2 A18.out).mono ?_); (case side1 => repeat (first | exact (Kd.N_reads' HO168.out).2.2 | (with_reducible refine Kd.C_alloc ?_ _) | (with_reducible refine Kd.C_drewN ?_ _) | (with_reducible refine Kd.C_drew ?_))); (case side2 => exact (Kd.N_reads' HO168.out).2.1); rintro e w27 ⟨rfl, hb⟩; refine ⟨_, rfl, ?_⟩; have n0_ := Aside0.mk (Kd.V_below (by (with_reducible repeat (first | apply Kd.V_alloc | apply Kd.V_drewN | apply Kd.V_drew)); exact HO_0.out) hb); have n1_ := Aside0.mk (Kd.V_below (by (with_reducible repeat (first | apply Kd.V_alloc | apply Kd.V_drewN | apply Kd.V_drew)); exact HO_1.out) hb); have n2_ := Aside0.mk (Kd.N_below (by (with_reducible repeat (first | apply Kd.N_alloc | apply Kd.N_drewN | apply Kd.N_drew)); exact HO168.out) hb); have n3_ := Aside0.mk (below_step (by repeat (first | (with_reducible first | exact HB.out | apply below_alloc | apply pw_below_drewN | apply below_drew1) | exact HB.out)) hb); clear HO_0; clear HO_1; clear HO168; clear HB; have HO_0 := n0_; have HO_1 := n1_; have HO168 := n2_; have HB := n3_; clear n0_ n1_ n2_ n3_; (try clear hb); (try clear hb2); (try clear hk); (try clear hi)))
              go_ret
              exact ⟨by first | rfl | (simp [errW_none, errW_some] <;> rfl) | (simp only [← hji19]; first | rfl | (simp [errW_none, errW_some] <;> rfl)) | (simp [*, errW_none, errW_some] <;> rfl), by repeat (first | (with_reducible first | exact HB.out | apply below_alloc | apply pw_below_drewN | apply below_drew1) | exact HB.out)⟩
            · rw [if_neg c17] at H
              exact absurd H (by simp)
          · rw [if_neg c16] at H
            exact absurd H (by simp)
  · replace c4 := Bool.eq_false_iff.mpr c4
    subst c4
    have H1 : (some false) = some r := by rw [if_neg (show ¬ (false = true) by decide)] at H; exact H
    clear H
    have H := H1
    clear H1
    obtain rfl := Option.some.inj H
    go_enter Try.func5, Try.ntmps5
    go_wp2_with (first | ((with_reducible refine gate_callee (f := 7) rfl ?_); refine goesL_ (some 7) rfl rfl Try.func7 (by kernel_rfl) rfl #[] rfl (by (try simp only [List.map_toArray, List.map_cons, List.map_nil]); first | done | rfl | (simp only [List.length_drop, List.length_take]; rfl)) ?_; (with_reducible refine (catchwordlaw17_head.calls k  false _ A3.out).mono ?_); rintro e w28 ⟨rfl, hb⟩; refine ⟨_, rfl, ?_⟩; have n0_ := Aside0.mk (Kd.V_below (by (with_reducible repeat (first | apply Kd.V_alloc | apply Kd.V_drewN | apply Kd.V_drew)); exact HO0.out) hb); have n1_ := Aside0.mk (Kd.V_below (by (with_reducible repeat (first | apply Kd.V_alloc | apply Kd.V_drewN | apply Kd.V_drew)); exact HO1.out) hb); have n2_ := Aside0.mk (below_step (by repeat (first | (with_reducible first | exact HB.out | apply below_alloc | apply pw_below_drewN | apply below_drew1) | exact HB.out)) hb); clear HO0; clear HO1; clear HB; have HO0 := n0_; have HO1 := n1_; have HB := n2_; clear n0_ n1_ n2_; (try clear hb); (try clear hb2); (try clear hk); (try clear hi)))
    go_ret
    exact ⟨by first | rfl | (simp [errW_none, errW_some] <;> rfl) | (simp [*, errW_none, errW_some] <;> rfl), by repeat (first | (with_reducible first | exact HB.out | apply below_alloc | apply pw_below_drewN | apply below_drew1) | exact HB.out)⟩

/-! ### catchwordlaw17_one: function 11 -/
def catchwordlaw17_one.l0 : Nat → Int → List (S31) → Int → Int → Option (Int)
  | 0, _, _, _, _ => none
  | k + 1, x3, x7, x8, x9 => if x9 < x8 then (if 0 ≤ x9 then (if x9 < (x7.length : Int) then (if ((rd_T31 x7 x9).f3) > 0 then (catchwordlaw17_one.l0 k (mn (IntKind.u64.wrap (x3 + (IntKind.u64.wrap ((rd_T31 x7 x9).f3)))) 2147483647) x7 x8 (wrap64 (x9 + 1))) else (catchwordlaw17_one.l0 k x3 x7 x8 (wrap64 (x9 + 1)))) else (none)) else (none)) else (some x3)
def catchwordlaw17_one.f (k : Nat) (l0_0 : List (S31)) (l0_1 : List (S31)) : Option (Int) := catchwordlaw17_one.l0 k 1 l0_0 (l0_0.length : Int) 0
theorem catchwordlaw17_one.mono_l : ∀ k, (∀ y0 y1 y2 y3, LeO (catchwordlaw17_one.l0 k y0 y1 y2 y3) (catchwordlaw17_one.l0 (k + 1) y0 y1 y2 y3))
  | 0 => fun _ _ _ _ r h => by simp [catchwordlaw17_one.l0] at h
  | k + 1 => by
    have ih0 := catchwordlaw17_one.mono_l k
    · intro y0 y1 y2 y3
      unfold catchwordlaw17_one.l0
      repeat' first
      | (with_reducible exact ih0 _ _ _ _)
      | (with_reducible exact LeO.refl _)
      | (with_reducible exact LeO.none _)
      | (with_reducible refine LeO.ite ?_ ?_)
      | (with_reducible refine LeO.bind ?_ (fun _ => ?_))
      | exact ih0 _ _ _ _
      | exact LeO.none _
      | refine LeO.ite ?_ ?_
      | refine LeO.bind ?_ (fun _ => ?_)
theorem catchwordlaw17_one.mono : ∀ a0 a1 k, LeO (catchwordlaw17_one.f k a0 a1) (catchwordlaw17_one.f (k + 1) a0 a1) := by
  intro a0 a1 k
  have ih0 := catchwordlaw17_one.mono_l k
  unfold catchwordlaw17_one.f
  repeat' first
      | (with_reducible exact ih0 _ _ _ _)
      | (with_reducible exact LeO.refl _)
      | (with_reducible exact LeO.none _)
      | (with_reducible refine LeO.ite ?_ ?_)
      | (with_reducible refine LeO.bind ?_ (fun _ => ?_))
      | exact ih0 _ _ _ _
      | exact LeO.none _
      | refine LeO.ite ?_ ?_
      | refine LeO.bind ?_ (fun _ => ?_)
set_option maxHeartbeats 8000000 in
set_option maxRecDepth 100000 in
theorem catchwordlaw17_one.calls (k : Nat) (A0_0 : Option Addr) (c0_0 : Nat) (l0_0 : List (S31)) (A0_1 : Option Addr) (c0_1 : Nat) (l0_1 : List (S31)) (r : Int) (w : World) (hr0_0 : Kd.C k31 w A0_0 l0_0.length l0_0) (hc0_0 : l0_0.length ≤ c0_0) (hr0_1 : Kd.C k31 w A0_1 l0_1.length l0_1) (hc0_1 : l0_1.length ≤ c0_1) (h : catchwordlaw17_one.f k l0_0 l0_1 = some r) :
    Calls Try.prog 11 #[.agg #[.slice A0_0 l0_0.length c0_0, .slice A0_1 l0_1.length c0_1]] w fun e w' => e = .returned (.int .u64 r) ∧ Below w.heap.size w w' := by
  have hu25 := Try.underlying25
  have hu31 := Try.underlying31
  have HR0_0 := Aside0.mk hr0_0
  have HC0_0 := Aside0.mk hc0_0
  clear hr0_0 hc0_0
  have HR0_1 := Aside0.mk hr0_1
  have HC0_1 := Aside0.mk hc0_1
  clear hr0_1 hc0_1
  have HB := Aside0.mk (Below.refl w.heap.size w)
  have H : (catchwordlaw17_one.l0 k 1 l0_0 (l0_0.length : Int) 0) = some r := h
  clear h
  have H' := Aside0.mk H
  clear H
  go_enter Try.func11, Try.ntmps11
  go_wp2_with (first | ((with_reducible refine gate_dst (N := 1) rfl ?_); refine box_event ?hg (N := 1) ?hd (cs := #[.slice A0_0 l0_0.length c0_0, .slice A0_1 l0_1.length c0_1]) (t := 25) ?hr ?_; (case hd => rfl); (case hg => rfl); (case hr => first | (go_simp; done) | (go_simp; rfl)); intro gb170 hg w2 hbox hb; have n0_ := Aside0.mk (below_step (by repeat (first | (with_reducible first | exact HB.out | apply below_alloc | apply pw_below_drewN | apply below_drew1) | exact HB.out)) hb); have n1_ := Aside0.mk (hbox); have n2_ := Aside0.mk ((by rw [hg]; exact (below_size (by repeat (first | (with_reducible first | exact HB.out | apply below_alloc | apply pw_below_drewN | apply below_drew1) | exact HB.out))) : w.heap.size ≤ gb170)); have n3_ := Aside0.mk ((by rw [hg]; exact (below_size (by repeat (first | (with_reducible first | exact HB.out | apply below_alloc | apply pw_below_drewN | apply below_drew1) | exact HB.out))) : w.heap.size ≤ gb170)); clear HB; have HB := n0_; have BK170 := n1_; have GW170 := n2_; have GE170 := n3_; clear n0_ n1_ n2_ n3_; clear hb hbox hg; have hcz3_0 : w2.cell? ⟨gb170, 0, none⟩ = some (.slice A0_0 l0_0.length c0_0) := (blk_cell BK170.out 0).trans rfl; have hcz3_1 : w2.cell? ⟨gb170, 1, none⟩ = some (.slice A0_1 l0_1.length c0_1) := (blk_cell BK170.out 1).trans rfl; have hfz3_0 := blk_frozen BK170.out 0; have hfz3_1 := blk_frozen BK170.out 1))
  go_loopg [3, 9] k (fun kq v3 v9 w' => ∃ (x3_1 : Int) (x9_1 : Int), v3 = .int .u64 x3_1 ∧ v9 = .int .i64 x9_1 ∧ Aside0 (catchwordlaw17_one.l0 kq x3_1 l0_0 (l0_0.length : Int) x9_1 = some r) ∧ Aside0 (kq ≤ k) ∧ Aside0 (w'.heap[gb170]? = some (.cells #[(.slice A0_0 l0_0.length c0_0), (.slice A0_1 l0_1.length c0_1)] 25 (0, 0))) ∧ Aside0 (Below w.heap.size w w'))
  case atStart => exact ⟨(1), (0), (by first | rfl | (simp; done) | (simp [*]; done)), (by first | rfl | (simp; done) | (simp [*]; done)), H', ⟨Nat.le_refl _⟩, ⟨by (with_reducible repeat (first | refine blk_drewN ?_ _ | refine blk_drew ?_ | refine blk_alloc ?_ _)); exact BK170.out⟩, ⟨by repeat (first | (with_reducible first | exact HB.out | apply below_alloc | apply pw_below_drewN | apply below_drew1 | refine below_set ?_ GE170.out) | exact HB.out)⟩⟩
  case round =>
    clear H'
    try clear c1
    try clear p2
    try clear hcz3_0
    try clear hcz3_1
    try clear hfz3_0
    try clear hfz3_1
    obtain ⟨x3_1, x9_1, rfl, rfl, HA, HK1, BK170, HB⟩ := hrel
    cases gk with
    | zero => exact absurd HA.out (by simp [catchwordlaw17_one.l0])
    | succ k1 =>
      have H := HA.out
      clear HA
      simp only [catchwordlaw17_one.l0] at H
      by_cases c4 : x9_1 < (l0_0.length : Int)
      · rw [if_pos c4] at H
        have c4b0 : decide (x9_1 < (l0_0.length : Int)) = true := decide_eq_true c4
        clear c4
        by_cases c5 : 0 ≤ x9_1
        · rw [if_pos c5] at H
          have c5b0 : decide (0 ≤ x9_1) = true := decide_eq_true c5
          clear c5
          by_cases c6 : x9_1 < (l0_0.length : Int)
          · rw [if_pos c6] at H
            have c6b0 : decide (x9_1 < (l0_0.length : Int)) = true := decide_eq_true c6
            clear c6
            by_cases c7 : ((rd_T31 l0_0 x9_1).f3) > 0
            · rw [if_pos c7] at H
              have c7b0 : decide (0 < ((rd_T31 l0_0 x9_1).f3)) = true := decide_eq_true c7
              clear c7
              obtain ⟨ji8, hji8⟩ : ∃ j_ : Int, (mn (IntKind.u64.wrap (x3_1 + (IntKind.u64.wrap ((rd_T31 l0_0 x9_1).f3)))) 2147483647) = j_ := ⟨_, rfl⟩
              replace H : (catchwordlaw17_one.l0 k1 ji8 l0_0 (l0_0.length : Int) (wrap64 (x9_1 + 1))) = some r := by first | (rw [hji8] at H; exact H) | (simp only [hji8] at H ⊢; exact H)
              have hji8_ : (if 2147483647 < (IntKind.u64.wrap (x3_1 + (IntKind.u64.wrap ((rd_T31 l0_0 x9_1).f3)))) then 2147483647 else (IntKind.u64.wrap (x3_1 + (IntKind.u64.wrap ((rd_T31 l0_0 x9_1).f3))))) = ji8 := hji8
              (try (have hji8n := hji8_; simp only [Int.ofNat_lt] at hji8n))
              have H' := Aside0.mk H
              clear H
              have p171 : 0 ≤ (x9_1 : Int) := of_decide_eq_true (by first | (with_reducible assumption) | assumption)
              have q171 : x9_1 < (l0_0.length : Int) := of_decide_eq_true (by first | (with_reducible assumption) | assumption)
              obtain ⟨ad171, e171, hx171_0, hx171_1, hx171_2, hx171_3⟩ := at_T31 HR0_0.out x9_1 p171 q171
              cases e171
              replace hx171_0 := (HB.out.cell (World.block_lt_of_cell? w _ hx171_0)).trans hx171_0
              replace hx171_1 := (HB.out.cell (World.block_lt_of_cell? w _ hx171_1)).trans hx171_1
              replace hx171_2 := (HB.out.cell (World.block_lt_of_cell? w _ hx171_2)).trans hx171_2
              replace hx171_3 := (HB.out.cell (World.block_lt_of_cell? w _ hx171_3)).trans hx171_3
              replace p171 := eq_true p171
              replace q171 := eq_true q171
              go_wp2_with (first | ((with_reducible refine gate_dst (N := 5) rfl ?_); refine box_event ?hg (N := 5) ?hd (cs := #[.int .i64 0, .int .i64 0, .int .i64 0, .int .i64 0]) (t := 31) ?hr ?_; (case hd => rfl); (case hg => rfl); (case hr => first | (go_simp; done) | (go_simp; rfl)); intro gb172 hg w9 hbox hb; have n0_ := Aside0.mk (blk_below (g := gb170) (o := .cells #[.slice (some ad171) l0_0.length c0_0, .slice A0_1 l0_1.length c0_1] 25 (0, 0)) (by (with_reducible repeat (first | refine blk_drewN ?_ _ | refine blk_drew ?_ | refine blk_alloc ?_ _)); exact BK170.out) hb); have n1_ := Aside0.mk (below_step (by repeat (first | (with_reducible first | exact HB.out | apply below_alloc | apply pw_below_drewN | apply below_drew1 | refine below_set ?_ GE170.out) | exact HB.out)) hb); have n2_ := Aside0.mk (hbox); have n3_ := Aside0.mk ((by rw [hg]; exact (below_size (by repeat (first | (with_reducible first | exact HB.out | apply below_alloc | apply pw_below_drewN | apply below_drew1 | refine below_set ?_ GE170.out) | exact HB.out))) : w.heap.size ≤ gb172)); have n4_ := Aside0.mk ((by rw [hg]; exact (below_size (by repeat (first | (with_reducible first | exact HB.out | apply below_alloc | apply pw_below_drewN | apply below_drew1 | refine below_set ?_ GE170.out) | exact HB.out))) : w.heap.size ≤ gb172)); have n5_ := Aside0.mk ((by rw [hg]; exact Nat.ne_of_lt (blk_lt (g := gb170) (o := .cells #[.slice (some ad171) l0_0.length c0_0, .slice A0_1 l0_1.length c0_1] 25 (0, 0)) (by (with_reducible repeat (first | refine blk_drewN ?_ _ | refine blk_drew ?_ | refine blk_alloc ?_ _)); exact BK170.out)) : gb170 ≠ gb172)); have n6_ := Aside0.mk ((by rw [hg]; exact Nat.ne_of_gt (blk_lt (g := gb170) (o := .cells #[.slice (some ad171) l0_0.length c0_0, .slice A0_1 l0_1.length c0_1] 25 (0, 0)) (by (with_reducible repeat (first | refine blk_drewN ?_ _ | refine blk_drew ?_ | refine blk_alloc ?_ _)); exact BK170.out)) : gb172 ≠ gb170)); clear BK170; clear HB; have BK170 := n0_; have HB := n1_; have BK172 := n2_; have GW172 := n3_; have GE172 := n4_; have NB170_172 := n5_; have NB172_170 := n6_; clear n0_ n1_ n2_ n3_ n4_ n5_ n6_; clear hb hbox hg; have hnb10 := NB172_170.out; have hnc10 := NB170_172.out; have hcz11_0 : w9.cell? ⟨gb172, 0, none⟩ = some (.int .i64 0) := (blk_cell BK172.out 0).trans rfl; have hcz11_1 : w9.cell? ⟨gb172, 1, none⟩ = some (.int .i64 0) := (blk_cell BK172.out 1).trans rfl; have hcz11_2 : w9.cell? ⟨gb172, 2, none⟩ = some (.int .i64 0) := (blk_cell BK172.out 2).trans rfl; have hcz11_3 : w9.cell? ⟨gb172, 3, none⟩ = some (.int .i64 0) := (blk_cell BK172.out 3).trans rfl; have hfz11_0 := blk_frozen BK172.out 0; have hfz11_1 := blk_frozen BK172.out 1; have hfz11_2 := blk_frozen BK172.out 2; have hfz11_3 := blk_frozen BK172.out 3))
              go_roundg k1
              case measure => have := HK1.out; omega
              case rel => exact ⟨(ji8), (wrap64 (x9_1 + 1)), (by first | rfl | (simp; done) | (simp only [← hji8] <;> (first | rfl | simp)) | (simp [*]; done)), (by first | rfl | (simp; done) | (simp [*]; done)), H', ⟨by have := HK1.out; omega⟩, ⟨by (with_reducible repeat (first | refine blk_drewN ?_ _ | refine blk_drew ?_ | refine blk_alloc ?_ _)); refine blk_far ?_ NB170_172.out _; (with_reducible repeat (first | refine blk_drewN ?_ _ | refine blk_drew ?_ | refine blk_alloc ?_ _)); refine blk_far ?_ NB170_172.out _; (with_reducible repeat (first | refine blk_drewN ?_ _ | refine blk_drew ?_ | refine blk_alloc ?_ _)); refine blk_far ?_ NB170_172.out _; (with_reducible repeat (first | refine blk_drewN ?_ _ | refine blk_drew ?_ | refine blk_alloc ?_ _)); refine blk_far ?_ NB170_172.out _; (with_reducible repeat (first | refine blk_drewN ?_ _ | refine blk_drew ?_ | refine blk_alloc ?_ _)); exact BK170.out⟩, ⟨by repeat (first | (with_reducible first | exact HB.out | apply below_alloc | apply pw_below_drewN | apply below_drew1 | refine below_set ?_ GE170.out | refine below_set ?_ GE172.out) | exact HB.out)⟩⟩
            · rw [if_neg c7] at H
              have c7b0 : decide (0 < ((rd_T31 l0_0 x9_1).f3)) = false := decide_eq_false c7
              clear c7
              have H' := Aside0.mk H
              clear H
              have p171 : 0 ≤ (x9_1 : Int) := of_decide_eq_true (by first | (with_reducible assumption) | assumption)
              have q171 : x9_1 < (l0_0.length : Int) := of_decide_eq_true (by first | (with_reducible assumption) | assumption)
              obtain ⟨ad171, e171, hx171_0, hx171_1, hx171_2, hx171_3⟩ := at_T31 HR0_0.out x9_1 p171 q171
              cases e171
              replace hx171_0 := (HB.out.cell (World.block_lt_of_cell? w _ hx171_0)).trans hx171_0
              replace hx171_1 := (HB.out.cell (World.block_lt_of_cell? w _ hx171_1)).trans hx171_1
              replace hx171_2 := (HB.out.cell (World.block_lt_of_cell? w _ hx171_2)).trans hx171_2
              replace hx171_3 := (HB.out.cell (World.block_lt_of_cell? w _ hx171_3)).trans hx171_3
              replace p171 := eq_true p171
              replace q171 := eq_true q171
              go_wp2_with (first | ((with_reducible refine gate_dst (N := 5) rfl ?_); refine box_event ?hg (N := 5) ?hd (cs := #[.int .i64 0, .int .i64 0, .int .i64 0, .int .i64 0]) (t := 31) ?hr ?_; (case hd => rfl); (case hg => rfl); (case hr => first | (go_simp; done) | (go_simp; rfl)); intro gb172 hg w12 hbox hb; have n0_ := Aside0.mk (blk_below (g := gb170) (o := .cells #[.slice (some ad171) l0_0.length c0_0, .slice A0_1 l0_1.length c0_1] 25 (0, 0)) (by (with_reducible repeat (first | refine blk_drewN ?_ _ | refine blk_drew ?_ | refine blk_alloc ?_ _)); exact BK170.out) hb); have n1_ := Aside0.mk (below_step (by repeat (first | (with_reducible first | exact HB.out | apply below_alloc | apply pw_below_drewN | apply below_drew1 | refine below_set ?_ GE170.out) | exact HB.out)) hb); have n2_ := Aside0.mk (hbox); have n3_ := Aside0.mk ((by rw [hg]; exact (below_size (by repeat (first | (with_reducible first | exact HB.out | apply below_alloc | apply pw_below_drewN | apply below_drew1 | refine below_set ?_ GE170.out) | exact HB.out))) : w.heap.size ≤ gb172)); have n4_ := Aside0.mk ((by rw [hg]; exact (below_size (by repeat (first | (with_reducible first | exact HB.out | apply below_alloc | apply pw_below_drewN | apply below_drew1 | refine below_set ?_ GE170.out) | exact HB.out))) : w.heap.size ≤ gb172)); have n5_ := Aside0.mk ((by rw [hg]; exact Nat.ne_of_lt (blk_lt (g := gb170) (o := .cells #[.slice (some ad171) l0_0.length c0_0, .slice A0_1 l0_1.length c0_1] 25 (0, 0)) (by (with_reducible repeat (first | refine blk_drewN ?_ _ | refine blk_drew ?_ | refine blk_alloc ?_ _)); exact BK170.out)) : gb170 ≠ gb172)); have n6_ := Aside0.mk ((by rw [hg]; exact Nat.ne_of_gt (blk_lt (g := gb170) (o := .cells #[.slice (some ad171) l0_0.length c0_0, .slice A0_1 l0_1.length c0_1] 25 (0, 0)) (by (with_reducible repeat (first | refine blk_drewN ?_ _ | refine blk_drew ?_ | refine blk_alloc ?_ _)); exact BK170.out)) : gb172 ≠ gb170)); clear BK170; clear HB; have BK170 := n0_; have HB := n1_; have BK172 := n2_; have GW172 := n3_; have GE172 := n4_; have NB170_172 := n5_; have NB172_170 := n6_; clear n0_ n1_ n2_ n3_ n4_ n5_ n6_; clear hb hbox hg; have hnb13 := NB172_170.out; have hnc13 := NB170_172.out; have hcz14_0 : w12.cell? ⟨gb172, 0, none⟩ = some (.int .i64 0) := (blk_cell BK172.out 0).trans rfl; have hcz14_1 : w12.cell? ⟨gb172, 1, none⟩ = some (.int .i64 0) := (blk_cell BK172.out 1).trans rfl; have hcz14_2 : w12.cell? ⟨gb172, 2, none⟩ = some (.int .i64 0) := (blk_cell BK172.out 2).trans rfl; have hcz14_3 : w12.cell? ⟨gb172, 3, none⟩ = some (.int .i64 0) := (blk_cell BK172.out 3).trans rfl; have hfz14_0 := blk_frozen BK172.out 0; have hfz14_1 := blk_frozen BK172.out 1; have hfz14_2 := blk_frozen BK172.out 2; have hfz14_3 := blk_frozen BK172.out 3))
              go_roundg k1
              case measure => have := HK1.out; omega
              case rel => exact ⟨(x3_1), (wrap64 (x9_1 + 1)), (by first | rfl | (simp; done) | (simp [*]; done)), (by first | rfl | (simp; done) | (simp [*]; done)), H', ⟨by have := HK1.out; omega⟩, ⟨by (with_reducible repeat (first | refine blk_drewN ?_ _ | refine blk_drew ?_ | refine blk_alloc ?_ _)); refine blk_far ?_ NB170_172.out _; (with_reducible repeat (first | refine blk_drewN ?_ _ | refine blk_drew ?_ | refine blk_alloc ?_ _)); refine blk_far ?_ NB170_172.out _; (with_reducible repeat (first | refine blk_drewN ?_ _ | refine blk_drew ?_ | refine blk_alloc ?_ _)); refine blk_far ?_ NB170_172.out _; (with_reducible repeat (first | refine blk_drewN ?_ _ | refine blk_drew ?_ | refine blk_alloc ?_ _)); refine blk_far ?_ NB170_172.out _; (with_reducible repeat (first | refine blk_drewN ?_ _ | refine blk_drew ?_ | refine blk_alloc ?_ _)); exact BK170.out⟩, ⟨by repeat (first | (with_reducible first | exact HB.out | apply below_alloc | apply pw_below_drewN | apply below_drew1 | refine below_set ?_ GE170.out | refine below_set ?_ GE172.out) | exact HB.out)⟩⟩
          · rw [if_neg c6] at H
            exact absurd H (by simp)
        · rw [if_neg c5] at H
          exact absurd H (by simp)
      · rw [if_neg c4] at H
        have c4b0 : decide (x9_1 < (l0_0.length : Int)) = false := decide_eq_false c4
        clear c4
        obtain rfl := Option.some.inj H
        go_wp2
        go_ret
        exact ⟨by first | rfl | (simp [errW_none, errW_some] <;> rfl) | (simp [*, errW_none, errW_some] <;> rfl), by repeat (first | (with_reducible first | exact HB.out | apply below_alloc | apply pw_below_drewN | apply below_drew1 | refine below_set ?_ GE170.out) | exact HB.out)⟩

-- NOT PRINTED: function 16 (match_Match_16)

-- NOT PRINTED: function 14 (match_Match_14)

/-! ### match_Holds: function 12 (by hand) -/
theorem holds_one (A0 A1 : Option Addr) (n0 c0 n1 c1 : Nat) (w : World) : Calls Try.prog 15 #[.agg #[.slice A0 n0 c0, .slice A1 n1 c1]] w fun e w' => e = .returned (.bool (decide (n1 = 0))) ∧ Below w.heap.size w w' := by
  have hu25 := Try.underlying25
  have HB := Aside0.mk (Below.refl w.heap.size w)
  by_cases hz : n1 = 0
  all_goals
    go_enter Try.func15, Try.ntmps15
    go_wp2
    go_ret
    exact ⟨by simp [hz], by repeat (first | exact Below.refl _ _ | apply below_alloc)⟩
/-- The first match of which nothing mustn't be there, from place i on. -/
def firstAt : List S25 → Int → Int
  | [], _ => -1
  | m :: r, i => if m.f1.length = 0 then i else firstAt r (i + 1)
set_option maxHeartbeats 8000000 in
set_option maxRecDepth 100000 in
theorem index_calls (A0 : Option Addr) (c0 : Nat) (l0 : List (S25)) (w : World) (hr0 : Kd.C k25 w A0 l0.length l0) (hc0 : l0.length ≤ c0) :
    Calls Try.prog 16 #[.slice A0 l0.length c0, .func (.func 15) #[] #[]] w fun e w' => e = .returned (.int .i64 (firstAt l0 0)) ∧ Below w.heap.size w w' := by
  have hu25 := Try.underlying25
  have HR0 := Aside0.mk hr0
  have HC0 := Aside0.mk hc0
  have HM := Aside0.mk (show (l0.length : Int) ≤ 9223372036854775807 by have := hr0.2.1; omega)
  have HB := Aside0.mk (Below.refl w.heap.size w)
  clear hr0 hc0
  go_enter Try.func16, Try.ntmps16
  go_wp2
  go_loopg [8] (l0.length + 1) (fun gk v8 w' => ∃ (x8 : Int), v8 = .int .i64 x8 ∧ Aside0 (0 ≤ x8 ∧ x8 + gk = l0.length + 1) ∧ Aside0 (firstAt l0 0 = firstAt (l0.drop x8.toNat) x8) ∧ Aside0 (Below w.heap.size w w'))
  case atStart => exact ⟨0, rfl, ⟨by decide, by simp⟩, ⟨rfl⟩, HB⟩
  case round =>
    clear HB
    obtain ⟨x8, rfl, HX, HF, HB⟩ := hrel
    obtain ⟨h0, hgk⟩ := HX.out
    have HG := Aside0.mk hgk
    clear hgk HX
    have hm := HM.out
    by_cases hlt : x8 < (l0.length : Int)
    · have c2b0 : decide (x8 < (l0.length : Int)) = true := decide_eq_true hlt
      have hw : wrap64 (x8 + 1) = x8 + 1 := by unfold wrap64; omega
      have hil : x8.toNat < l0.length := by omega
      have hrd : rd_T25 l0 x8 = l0[x8.toNat] := by unfold rd_T25; simp [List.getD_eq_getElem?_getD, hil]
      have hdrop : l0.drop x8.toNat = l0[x8.toNat] :: l0.drop (x8 + 1).toNat := by
        rw [show (x8 + 1).toNat = x8.toNat + 1 by omega]
        exact List.drop_eq_getElem_cons hil
      obtain ⟨ad, B0, d0, B1, d1, e102, hx0, hx1, hl0, g0, hl1, g1⟩ := at_T25 HR0.out x8 h0 hlt
      cases e102
      replace hx0 := (HB.out.cell (World.block_lt_of_cell? w _ hx0)).trans hx0
      replace hx1 := (HB.out.cell (World.block_lt_of_cell? w _ hx1)).trans hx1
      have hx8 : 0 ≤ x8 + 1 := by omega
      have HW := Aside0.mk hw
      have HX8 := Aside0.mk (show 0 ≤ x8 + 1 ∧ x8 + 1 ≤ 9223372036854775807 by omega)
      clear hw hl0 g0 hl1 g1
      by_cases hz : (rd_T25 l0 x8).f1.length = 0
      · have HF2 := Aside0.mk (show firstAt l0 0 = x8 by rw [HF.out, hdrop]; simp only [firstAt]; rw [← hrd, if_pos hz])
        have hone := fun W => holds_one B0 B1 (rd_T25 l0 x8).f0.length d0 (rd_T25 l0 x8).f1.length d1 W
        have hdec : decide ((rd_T25 l0 x8).f1.length = 0) = true := decide_eq_true hz
        simp only [hdec] at hone
        have Hone := Aside0.mk hone
        clear hone hz hdec hdrop hrd hil hlt hm
        have p102 := eq_true h0
        have q102 : (x8 < (l0.length : Int)) = True := eq_true (of_decide_eq_true c2b0)
        go_wp2_with (go_at_call 15; refine (Hone.out _).mono ?_; rintro e w' ⟨rfl, hb⟩; have HB2 := Aside0.mk (below_step HB.out hb); clear hb)
        go_ret
        exact ⟨by rw [HF2.out]; rfl, by repeat (first | exact HB2.out | apply below_alloc | apply pw_below_drewN)⟩
      · have HF2 := Aside0.mk (show firstAt l0 0 = firstAt (l0.drop (x8 + 1).toNat) (x8 + 1) by rw [HF.out, hdrop]; simp only [firstAt]; rw [← hrd, if_neg hz])
        have hone := fun W => holds_one B0 B1 (rd_T25 l0 x8).f0.length d0 (rd_T25 l0 x8).f1.length d1 W
        have hdec : decide ((rd_T25 l0 x8).f1.length = 0) = false := decide_eq_false hz
        simp only [hdec] at hone
        have Hone := Aside0.mk hone
        clear hone hz hdec hdrop hrd hil hlt hm
        have p102 := eq_true h0
        have q102 : (x8 < (l0.length : Int)) = True := eq_true (of_decide_eq_true c2b0)
        go_wp2_with (go_at_call 15; refine (Hone.out _).mono ?_; rintro e w' ⟨rfl, hb⟩; have HB2 := Aside0.mk (below_step HB.out hb); clear hb)
        have hgk2 := HG.out
        obtain ⟨g2, rfl⟩ : ∃ g2, gk = g2 + 1 := ⟨gk - 1, by have := of_decide_eq_true c2b0; omega⟩
        go_roundg g2
        case measure => omega
        case rel => exact ⟨x8 + 1, by first | rfl | (simp; done) | (rw [HW.out]), ⟨by have := HX8.out; omega, by have := HG.out; omega⟩, HF2, HB2⟩
    · have c2b0 : decide (x8 < (l0.length : Int)) = false := decide_eq_false hlt
      have HF2 := Aside0.mk (show firstAt l0 0 = -1 by rw [HF.out, List.drop_of_length_le (by omega)]; rfl)
      clear hlt hm
      go_wp2
      go_ret
      exact ⟨by rw [HF2.out]; rfl, by repeat (first | exact HB.out | apply below_alloc | apply pw_below_drewN)⟩
set_option maxHeartbeats 8000000 in
set_option maxRecDepth 100000 in
theorem contains_calls (A0 : Option Addr) (c0 : Nat) (l0 : List (S25)) (w : World) (hr0 : Kd.C k25 w A0 l0.length l0) (hc0 : l0.length ≤ c0) :
    Calls Try.prog 14 #[.slice A0 l0.length c0, .func (.func 15) #[] #[]] w fun e w' => e = .returned (.bool (decide (0 ≤ firstAt l0 0))) ∧ Below w.heap.size w w' := by
  have HI := Aside0.mk (index_calls A0 c0 l0 w hr0 hc0)
  obtain ⟨x, hx⟩ : ∃ x, x = firstAt l0 0 := ⟨_, rfl⟩
  rw [← hx] at HI ⊢
  clear hx hr0 hc0
  go_enter Try.func14, Try.ntmps14
  go_wp2_with (go_at_call 16; refine HI.out.mono ?_; rintro e w' ⟨rfl, hb⟩; have HB := Aside0.mk hb; clear hb)
  go_ret
  exact ⟨by first | rfl | (simp; done), HB.out⟩
def match_Holds.f (l0 : List (S25)) : Option (Bool) := some (decide (0 ≤ firstAt l0 0))
set_option maxHeartbeats 8000000 in
set_option maxRecDepth 100000 in
theorem match_Holds.calls (A0 : Option Addr) (c0 : Nat) (l0 : List (S25)) (r : Bool) (w : World) (hr0 : Kd.C k25 w A0 l0.length l0) (hc0 : l0.length ≤ c0) (h : match_Holds.f l0 = some r) :
    Calls Try.prog 12 #[.slice A0 l0.length c0] w fun e w' => e = .returned (.bool r) ∧ Below w.heap.size w w' := by
  have HI := Aside0.mk (contains_calls A0 c0 l0 w hr0 hc0)
  have hr : decide (0 ≤ firstAt l0 0) = r := Option.some.inj h
  rw [hr] at HI
  clear hr h hr0 hc0
  go_enter Try.func12, Try.ntmps12
  go_wp2_with (go_at_call 14; refine HI.out.mono ?_; rintro e w' ⟨rfl, hb⟩; have HB := Aside0.mk hb; clear hb)
  go_ret
  exact ⟨by first | rfl | (simp; done), HB.out⟩

end Go.Proofs.Ythbjofpaegboiaa.QS
