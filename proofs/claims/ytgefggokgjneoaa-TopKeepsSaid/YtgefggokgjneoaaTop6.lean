/- The walk of TopKeeps. Conditions as each theorem has them. -/
import Derived.Test.YtgefggokgjneoaaTop4
import Derived.Test.YtgefggokgjneoaaTKeep
namespace Go.Proofs.Ytgefggokgjneoaa.QT
open Go.RowKit Go.Proofs.YtgefggokgjneoaaW.PrintWords Go.Proofs.YtgefggokgjneoaaW.PrintLast Go.Proofs.YtgefggokgjneoaaW.PrintMore Go.Proofs.Ytgefggokgjneoaa.TPure
attribute [local go_sem] max2_int min2_int max_two min_two max_three min_three max_four min_four ta27  -- for this text's walks alone
attribute [local go_sem high] eqA27
set_option linter.unusedVariables false
set_option linter.unusedSimpArgs false
theorem T1.read {w w1 w2 : World} {m : Int} {g : Nat} {A : Option Addr} {c : Nat} {l : List S27} (h : T1 w w1 m g A c l) (hb : Below w1.heap.size w1 w2) : T1 w w2 m g A c l := ⟨h.hs.below hb, below_then h.below h.below.size hb⟩
theorem tl_take {α : Type} (l : List α) (j : Nat) (h : j ≤ l.length) : (l.take j).length = j := by rw [List.length_take]; omega
section
variable {w0 w : World} {A : Option Addr} {c : Nat} {l : List S27}
set_option maxHeartbeats 1000000 in
set_option maxRecDepth 100000 in
theorem keeps_calls (hr : Kd.C k27 w A l.length l) (hc : l.length ≤ c) (most : Int) (hm0 : -9223372036854775808 ≤ most) (hm1 : most ≤ 9223372036854775807) :
    Calls Try.prog 3 #[.slice A l.length c, .int .i64 most] w fun e w' => e = .returned (.bool true) ∧ Below w.heap.size w w' := by
  have HR := Aside0.mk hr
  have HH := Aside0.mk (head_calls (w := w))
  clear hr
  by_cases h60 : 60 < l.length
  · have hn1 : ((60 : Int) < (l.length : Int)) := by omega
    go_enter Try.func3, Try.ntmps3
    go_wp2_with (go_at_call 8; refine HH.out.mono ?_; rintro e w1 ⟨rfl, hb⟩; have HB1 := Aside0.mk hb; clear hb HH)
    go_ret
    exact ⟨rfl, HB1.out⟩
  · have hn1 : ¬ ((60 : Int) < (l.length : Int)) := by omega
    have hlb : (l.length : Int) ≤ 60 := by omega
    obtain ⟨m, hm⟩ : ∃ m : Nat, (if 0 < most then most else 0) = (m : Int) := ⟨most.toNat, by split <;> omega⟩
    have hmb : (m : Int) ≤ 9223372036854775807 := by split at hm <;> omega
    have HN := Aside0.mk (fun (W : World) (hB : Below w.heap.size w W) => new_calls (w0 := w) (w := W) most (by omega) (by omega) hB)
    rw [hm] at HN
    go_enter Try.func3, Try.ntmps3
    go_wp2_with (first
      | (go_at_call 8; refine HH.out.mono ?_; rintro e w1 ⟨rfl, hb⟩; have HB1 := Aside0.mk hb; clear hb HH)
      | (go_at_call 9; refine (HN.out _ HB1.out).mono ?_; rintro e w2 ⟨g, rfl, hga, hsa, hb2, hb3⟩; have HT := Aside0.mk (show T1 w w2 (m : Int) g none 0 (addsL m [] (l.take 0)) from ⟨hsa.mono (fun _ _ => trivial), hb2⟩); clear hb2 hb3 hsa hga HB1 HN))
    go_loopg [27] (l.length + 1) (fun gk v27 w' => ∃ (i : Nat) (A2 : Option Addr) (c2 : Nat), v27 = .int .i64 (i : Int) ∧ Aside0 (i ≤ l.length ∧ l.length < i + gk) ∧ Aside0 (T1 w w' (m : Int) g A2 c2 (addsL m [] (l.take i))))
    case atStart => exact ⟨0, none, 0, rfl, ⟨by omega, by omega⟩, HT⟩
    case round =>
      clear HT
      obtain ⟨i, A2, c2, rfl, HI, HT⟩ := hrel
      obtain ⟨go_, rfl⟩ : ∃ k, gk = k + 1 := ⟨gk - 1, by have := HI.out; omega⟩
      have hi0 : (0 : Int) ≤ (i : Int) := by omega
      by_cases hi : i < l.length
      · have hil : (i : Int) < (l.length : Int) := by omega
        have hile : (i : Int) ≤ (l.length : Int) := by omega
        have hicap : (i : Int) ≤ (c : Int) := by omega
        have hi1cap : (i : Int) + 1 ≤ (c : Int) := by omega
        obtain ⟨ad, rfl, hx0, hx1, hx2⟩ := row_cells HR.out HT.out.below i hi
        have HII := Aside0.mk hi
        have hig : l[i]? = some (rd_T27 l (i : Int)) := by
          rw [rd_at]; unfold at_; rw [List.getD_eq_getElem?_getD, List.getElem?_eq_getElem hi]; rfl
        have hK0 := keeps_take m i l
        have hlen : (addsL m [] (l.take i)).length ≤ 60 := by rw [hK0.length, tl_take l i (by omega)]; omega
        have HS1 := Aside0.mk (addsL_step m i l _ hig)
        have HKB := Aside0.mk (hK0.kept (rd_T27 l (i : Int)))
        have HCA := Aside0.mk (fun (W : World) (hb : Below _ _ W) => add_calls (HT.out.hs.below hb) (below_then HT.out.below HT.out.below.size hb) (rd_T27 l (i : Int)) (by omega) (by omega))
        unfold enc27 at HCA
        generalize hX : rd_T27 l (i : Int) = X at hx0 hx1 hx2 HCA HS1 HKB
        clear hig hK0 hlen hX
        obtain ⟨W0, hW0⟩ : ∃ W0, W0 = wr := ⟨_, rfl⟩
        subst hW0
        have HTB := Aside0.mk HT.out.below
        go_wp2
        have HXB := Aside0.mk (fun (W : World) (hb : Below (W0.alloc (.cells #[.int .i64 X.f0, .int .i64 X.f1, .int .i64 X.f2] 27)).heap.size (W0.alloc (.cells #[.int .i64 X.f0, .int .i64 X.f1, .int .i64 X.f2] 27)) W) => blk_below (blk_new W0 (.cells #[.int .i64 X.f0, .int .i64 X.f1, .int .i64 X.f2] 27)) hb)
        have HWB := Aside0.mk (fun (W : World) (hb : Below (W0.alloc (.cells #[.int .i64 X.f0, .int .i64 X.f1, .int .i64 X.f2] 27)).heap.size (W0.alloc (.cells #[.int .i64 X.f0, .int .i64 X.f1, .int .i64 X.f2] 27)) W) => below_then (below_alloc (Below.refl _ _) _) (below_size (below_alloc (Below.refl _ _) _)) hb)
        obtain ⟨ob, hob⟩ : ∃ ob, ob = W0.heap.size := ⟨_, rfl⟩
        rw [← hob]
        have HOB := Aside0.mk hob
        clear hob
        go_loopg [9, 36] (i + 1) (fun gk v9 v36 w' => ∃ (j n : Nat), v9 = .int .i64 (n : Int) ∧ v36 = .int .i64 (j : Int) ∧ Aside0 (j ≤ i ∧ i < j + gk) ∧ Aside0 (n = cnt X (l.take j)) ∧ Aside0 (Below (W0.alloc (.cells #[.int .i64 X.f0, .int .i64 X.f1, .int .i64 X.f2] 27)).heap.size (W0.alloc (.cells #[.int .i64 X.f0, .int .i64 X.f1, .int .i64 X.f2] 27)) w'))
        case atStart => exact ⟨0, 0, rfl, rfl, ⟨by omega, by omega⟩, ⟨rfl⟩, ⟨Below.refl _ _⟩⟩
        case round =>
          obtain ⟨j, n, rfl, rfl, HJ, HCN, HW⟩ := hrel
          obtain ⟨gj, rfl⟩ : ∃ k2, gk = k2 + 1 := ⟨gk - 1, by have := HJ.out; omega⟩
          have hj0 : (0 : Int) ≤ (j : Int) := by omega
          have hn0 : (0 : Int) ≤ (n : Int) := by omega
          have hnb : (n : Int) ≤ 60 := by
            have h1 : cnt X (l.take j) ≤ (l.take j).length := List.countP_le_length
            rw [← HCN.out] at h1
            rw [List.length_take] at h1
            omega
          have hob := HOB.out
          have hbx := HXB.out _ HW.out
          rw [← hob] at hbx
          have hobl : ob < wr.heap.size := by have := (HWB.out _ HW.out).size; have := HW.out.size; simp at this; omega
          by_cases hj : j < i
          · have hjl : (j : Int) < (i : Int) := by omega
            obtain ⟨ad2, had, hy0, hy1, hy2⟩ := row_cells HR.out (below_then HTB.out HTB.out.size (HWB.out _ HW.out)) j (by omega)
            obtain rfl : ad = ad2 := by injection had
            have hjg : l[j]? = some (rd_T27 l (j : Int)) := by
              rw [rd_at]; unfold at_; rw [List.getD_eq_getElem?_getD, List.getElem?_eq_getElem (by omega)]; rfl
            have HCS := Aside0.mk (show cnt X (l.take (j + 1)) = if aheadB X (rd_T27 l (j : Int)) = true then cnt X (l.take j) else cnt X (l.take j) + 1 by
              rw [← cnt_snoc, List.take_add_one, hjg]; rfl)
            generalize rd_T27 l (j : Int) = Y at hy0 hy1 hy2 HCS
            have HAC := Aside0.mk (fun W => catchwordlaw18_ahead.calls X.f0 X.f1 X.f2 Y.f0 Y.f1 Y.f2 (aheadB X Y) W (aheadp_f X Y))
            generalize aheadB X Y = kb at HAC HCS
            have hz0 : wr.cell? ⟨ob, 0, none⟩ = some (.int .i64 X.f0) := by rw [blk_cell hbx 0]; rfl
            have hz1 : wr.cell? ⟨ob, 1, none⟩ = some (.int .i64 X.f1) := by rw [blk_cell hbx 1]; rfl
            have hz2 : wr.cell? ⟨ob, 2, none⟩ = some (.int .i64 X.f2) := by rw [blk_cell hbx 2]; rfl
            clear hjg had hbx hob
            cases kb
            · go_wp2_with (go_at_call 10; refine (HAC.out _).mono ?_; rintro e1 w3 ⟨rfl, hb⟩; have HB3 := Aside0.mk (below_then (below_alloc HW.out _) (below_size (below_alloc HW.out _)) hb); clear hb HAC)
              go_roundg gj
              case measure => omega
              case rel => exact ⟨j + 1, n + 1, (by first | rfl | (congr 1; omega) | simp), (by first | rfl | (congr 1; omega) | simp), ⟨by omega, by have := HJ.out; omega⟩, ⟨by rw [HCS.out, HCN.out]; simp⟩, HB3⟩
            · go_wp2_with (go_at_call 10; refine (HAC.out _).mono ?_; rintro e1 w3 ⟨rfl, hb⟩; have HB3 := Aside0.mk (below_then (below_alloc HW.out _) (below_size (below_alloc HW.out _)) hb); clear hb HAC)
              go_roundg gj
              case measure => omega
              case rel => exact ⟨j + 1, n, (by first | rfl | (congr 1; omega) | simp), (by first | rfl | (congr 1; omega) | simp), ⟨by omega, by have := HJ.out; omega⟩, ⟨by rw [HCS.out, HCN.out]; simp⟩, HB3⟩
          · obtain rfl : j = i := by have := HJ.out; omega
            obtain ⟨kb, hkb⟩ : ∃ kb, decide (n < m) = kb := ⟨_, rfl⟩
            have hkk : (kb != kb) = false := by simp
            have hkk2 : (!kb == kb) = false := by cases kb <;> rfl
            have HKC := Aside0.mk (show addB (addsL m [] (l.take j)) m X = kb by rw [HKB.out, ← HCN.out, ← hkb])
            have hz0 : wr.cell? ⟨ob, 0, none⟩ = some (.int .i64 X.f0) := by rw [blk_cell hbx 0]; rfl
            have hz1 : wr.cell? ⟨ob, 1, none⟩ = some (.int .i64 X.f1) := by rw [blk_cell hbx 1]; rfl
            have hz2 : wr.cell? ⟨ob, 2, none⟩ = some (.int .i64 X.f2) := by rw [blk_cell hbx 2]; rfl
            have HCA2 := Aside0.mk (HCA.out _ (HWB.out _ HW.out))
            rw [HKC.out] at HCA2
            obtain ⟨F, hF⟩ : ∃ F, F = firsts m (l.take (j + 1)) := ⟨_, rfl⟩
            have hFl : F.length = min m (j + 1) := by rw [hF, firsts_length, tl_take l (j + 1) (by have := HII.out; omega)]
            have hFm : (if (m : Int) < (j : Int) + 1 then (m : Int) else (j : Int) + 1) = (F.length : Int) := by split <;> omega
            have hFb : (F.length : Int) ≤ 60 := by omega
            have HK1 := Aside0.mk (keeps_take m (j + 1) l)
            have HRW := Aside0.mk (show rowsL (addsL m [] (l.take (j + 1))) = F by rw [HK1.out.rows, hF])
            have HLN := Aside0.mk (show (addsL m [] (l.take (j + 1))).length = F.length by rw [HK1.out.length, hF, firsts_length])
            have HSO := Aside0.mk (show (isort (l.take (j + 1))).take F.length = F by
              rw [hFl, hF]
              unfold firsts
              rw [List.take_eq_take_iff, isort_length, tl_take l (j + 1) (by have := HII.out; omega)]
              omega)
            have HSC := Aside0.mk (fun (W : World) (hb : Below w.heap.size w W) => by
              have h1 := tl_take l (j + 1) (by have := HII.out; omega)
              have h2 := catchwordlaw18_Sorted.calls (fuel_ (l.take (j + 1)).length) (some ad) c (l.take (j + 1)) (isort (l.take (j + 1))) W (Kd.C_take (Kd.C_below HR.out hb) (by have := HII.out; omega)) (by rw [h1]; omega) (sorted_f _ (by rw [h1]; omega))
              rw [h1] at h2
              exact h2)
            have HSL := Aside0.mk (show (isort (l.take (j + 1))).length = j + 1 by rw [isort_length, tl_take l (j + 1) (by have := HII.out; omega)])
            have hFc : (F.length : Int) ≤ (j : Int) + 1 := by omega
            clear hbx hob hF hFl HK1 HKB HCA HKC
            generalize isort (l.take (j + 1)) = So at HSC HSL HSO
            go_wp2_with (first
              | (go_at_call 11; refine HCA2.out.mono ?_; rintro e1 w3 ⟨rfl, A3, c3, hmv⟩; rw [← HS1.out] at hmv; have HT2 := Aside0.mk (T1.moved hmv); have HC12 := Aside0.mk (HSC.out _ hmv.below); clear hmv HCA2 HT HS1 HSC)
              | (go_at_call 12; refine HC12.out.mono ?_; rintro e1 w4 ⟨v0, rfl, hr1, hb1⟩; obtain ⟨A4, c4, rfl⟩ := Kd.R_slice hr1; have hcp := (Kd.R_reads' hr1).2.1; rw [HSL.out] at hcp; have hr1' := Kd.R_take hr1 (show F.length ≤ So.length by rw [HSL.out]; omega); rw [HSO.out] at hr1'; rw [HSL.out]; have HR1 := Aside0.mk (Kd.R_reads' hr1'); have hFc4 : (F.length : Int) ≤ (c4 : Int) := (by omega); have HT3 := Aside0.mk (T1.read HT2.out hb1); have HC13 := Aside0.mk (rows_calls HT3.out.hs (by rw [HLN.out]; omega)); rw [HRW.out] at HC13; clear hr1 hr1' hb1 hcp HC12 HT2 HSL HSO HRW)
              | (go_at_call 13; refine HC13.out.mono ?_; rintro e1 w5 ⟨A5, c5, rfl, hr2, hb2⟩; have HR2 := Aside0.mk (Kd.R_reads' hr2); have HR1b := Aside0.mk (Kd.C_below HR1.out.2.2 hb2); have HT4 := Aside0.mk (T1.read HT3.out hb2); have HC14 := Aside0.mk (tlen_calls HT4.out.hs); rw [HLN.out] at HC14; clear hr2 hb2 HR1 HT3 HC13)
              | (go_at_call 14; refine HC14.out.mono ?_; rintro e1 w6 ⟨rfl, hb3⟩; have HR1c := Aside0.mk (Kd.C_below HR1b.out hb3); have HR2b := Aside0.mk (Kd.C_below HR2.out.2.2 hb3); have HT5 := Aside0.mk (T1.read HT4.out hb3); clear hb3 HR1b HR2 HT4 HC14 HLN))
            go_loopg [81] (F.length + 1) (fun gk v81 w' => ∃ (k : Nat), v81 = .int .i64 (k : Int) ∧ Aside0 (k ≤ F.length ∧ F.length < k + gk) ∧ Aside0 (Below w6.heap.size w6 w'))
            case atStart => exact ⟨0, rfl, ⟨by omega, by omega⟩, ⟨Below.refl _ _⟩⟩
            case round =>
              obtain ⟨k, rfl, HK, HV⟩ := hrel
              obtain ⟨gq, rfl⟩ : ∃ k2, gk = k2 + 1 := ⟨gk - 1, by have := HK.out; omega⟩
              have hk0 : (0 : Int) ≤ (k : Int) := by omega
              by_cases hk : k < F.length
              · have hkl : (k : Int) < (F.length : Int) := by omega
                obtain ⟨ad1, rfl, hx0, hx1, hx2⟩ := row_cells HR2b.out HV.out k hk
                obtain ⟨ad2, rfl, hy0, hy1, hy2⟩ := row_cells HR1c.out HV.out k hk
                clear hz0 hz1 hz2
                go_wp2
                refine start_ (n := 9) (S := fun w' => w'.cell? (ad1.add (k * 3)) = some (.int .i64 (rd_T27 F (k : Int)).f0) ∧ w'.cell? ⟨(ad1.add (k * 3)).block, (ad1.add (k * 3)).off + 1, none⟩ = some (.int .i64 (rd_T27 F (k : Int)).f1) ∧ w'.cell? ⟨(ad1.add (k * 3)).block, (ad1.add (k * 3)).off + 2, none⟩ = some (.int .i64 (rd_T27 F (k : Int)).f2) ∧ w'.cell? (ad2.add (k * 3)) = some (.int .i64 (rd_T27 F (k : Int)).f0) ∧ w'.cell? ⟨(ad2.add (k * 3)).block, (ad2.add (k * 3)).off + 1, none⟩ = some (.int .i64 (rd_T27 F (k : Int)).f1) ∧ w'.cell? ⟨(ad2.add (k * 3)).block, (ad2.add (k * 3)).off + 2, none⟩ = some (.int .i64 (rd_T27 F (k : Int)).f2)) (ds := []) #[false, false, false, false, false, false, false, false, false] (by kernel_rfl) rfl rfl (⟨hx0, hx1, hx2, hy0, hy1, hy2⟩) (fun hHeld => ?_); refine with_tab (T := rtab .any (opsOf Try.f3 27)) rfl (fun HT_ => ?_)
                refine pure_ (i := 0) (N := (some 84)) (v := ?_) (a' := ?_) #[true, false, false, false, false, false, false, false, false] rfl rfl (any_of HT_.out (by kernel_rfl)) (fun _ _ _ h => h) (Or.inl ⟨by rfl, ?_⟩) ?_ ?_
                rotate_left
                · intro w'
                  go_simp
                  with_reducible rfl
                rotate_left
                · simp only [Act.put, List.setIfInBounds_toArray, List.set_cons_zero, List.set_cons_succ, i64_w, i32_w]
                  rfl
                refine pure_ (i := 1) (N := (some 85)) (v := ?_) (a' := ?_) #[true, true, false, false, false, false, false, false, false] rfl rfl (any_of HT_.out (by kernel_rfl)) (fun _ _ _ h => h) (Or.inl ⟨by rfl, ?_⟩) ?_ ?_
                rotate_left
                · intro w'
                  go_simp
                  with_reducible rfl
                rotate_left
                · simp only [Act.put, List.setIfInBounds_toArray, List.set_cons_zero, List.set_cons_succ, i64_w, i32_w]
                  rfl
                refine pure_ (i := 2) (N := (some 86)) (v := ?_) (a' := ?_) #[true, true, true, false, false, false, false, false, false] rfl rfl (any_of HT_.out (by kernel_rfl)) (fun _ _ _ h => h) (Or.inl ⟨by rfl, ?_⟩) ?_ ?_
                rotate_left
                · intro w'
                  go_simp
                  with_reducible rfl
                rotate_left
                · simp only [Act.put, List.setIfInBounds_toArray, List.set_cons_zero, List.set_cons_succ, i64_w, i32_w]
                  rfl
                refine pure_ (i := 4) (N := (some 88)) (v := ?_) (a' := ?_) #[true, true, true, false, true, false, false, false, false] rfl rfl (any_of HT_.out (by kernel_rfl)) (fun _ _ _ h => h) (Or.inl ⟨by rfl, ?_⟩) ?_ ?_
                rotate_left
                · intro w'
                  go_simp
                  with_reducible rfl
                rotate_left
                · simp only [Act.put, List.setIfInBounds_toArray, List.set_cons_zero, List.set_cons_succ, i64_w, i32_w]
                  rfl
                refine pure_ (i := 5) (N := (some 89)) (v := ?_) (a' := ?_) #[true, true, true, false, true, true, false, false, false] rfl rfl (any_of HT_.out (by kernel_rfl)) (fun _ _ _ h => h) (Or.inl ⟨by rfl, ?_⟩) ?_ ?_
                rotate_left
                · intro w'
                  go_simp
                  with_reducible rfl
                rotate_left
                · simp only [Act.put, List.setIfInBounds_toArray, List.set_cons_zero, List.set_cons_succ, i64_w, i32_w]
                  rfl
                refine pure_ (i := 6) (N := (some 90)) (v := ?_) (a' := ?_) #[true, true, true, false, true, true, true, false, false] rfl rfl (any_of HT_.out (by kernel_rfl)) (fun _ _ _ h => h) (Or.inl ⟨by rfl, ?_⟩) ?_ ?_
                rotate_left
                · intro w'
                  go_simp
                  with_reducible rfl
                rotate_left
                · simp only [Act.put, List.setIfInBounds_toArray, List.set_cons_zero, List.set_cons_succ, i64_w, i32_w]
                  rfl
                refine take_ (i := 3) (N := (some 87)) (v := ?_) (a' := ?_) #[true, true, true, true, true, true, true, false, false] rfl rfl (take_of HT_.out (by kernel_rfl)) (fun _ _ _ h => h) (Or.inl ⟨by rfl, ?_⟩) hHeld ?_ ?_
                rotate_left
                · rintro w' ⟨s0, s1, s2, s3, s4, s5⟩
                  go_simp
                  with_reducible rfl
                rotate_left
                · simp only [Act.put, List.setIfInBounds_toArray, List.set_cons_zero, List.set_cons_succ, i64_w, i32_w]
                  rfl
                refine take_ (i := 7) (N := (some 91)) (v := ?_) (a' := ?_) #[true, true, true, true, true, true, true, true, false] rfl rfl (take_of HT_.out (by kernel_rfl)) (fun _ _ _ h => h) (Or.inl ⟨by rfl, ?_⟩) hHeld ?_ ?_
                rotate_left
                · rintro w' ⟨s0, s1, s2, s3, s4, s5⟩
                  go_simp
                  with_reducible rfl
                rotate_left
                · simp only [Act.put, List.setIfInBounds_toArray, List.set_cons_zero, List.set_cons_succ, i64_w, i32_w]
                  rfl
                refine pure_ (i := 8) (N := (some 92)) (v := ?_) (a' := ?_) #[true, true, true, true, true, true, true, true, true] rfl rfl (any_of HT_.out (by kernel_rfl)) (fun _ _ _ h => h) (Or.inl ⟨by rfl, ?_⟩) ?_ ?_
                rotate_left
                · intro w'
                  go_simp
                  with_reducible rfl
                rotate_left
                · simp only [Act.put, List.setIfInBounds_toArray, List.set_cons_zero, List.set_cons_succ, i64_w, i32_w]
                  rfl
                refine done_ (done_of HT_.out (by kernel_rfl)) ?_
                go_wp2
                go_roundg gq
                case measure => omega
                case rel => exact ⟨k + 1, (by first | rfl | (congr 1; omega) | simp), ⟨by omega, by have := HK.out; omega⟩, ⟨by repeat (first | exact HV.out | apply below_drew1 | apply below_alloc)⟩⟩
              · obtain rfl : k = F.length := by have := HK.out; omega
                have HT6 := Aside0.mk (T1.read HT5.out HV.out)
                clear hz0 hz1 hz2 HT5
                go_wp2
                go_roundg go_
                case measure => omega
                case rel => exact ⟨j + 1, _, _, (by first | rfl | (congr 1; omega) | simp), ⟨by have := HII.out; omega, by have := HI.out; omega⟩, HT6⟩
      · obtain rfl : i = l.length := by have := HI.out; omega
        have HNA := Aside0.mk (fun (W : World) => add_nil (w := W) z27)
        unfold enc27 z27 at HNA
        have HNL := Aside0.mk (fun (W : World) => tlen_nil (w := W))
        have HNR := Aside0.mk (fun (W : World) => rows_nil (w := W))
        have HB := Aside0.mk HT.out.below
        clear HT
        go_wp2_with (first
          | (go_at_call 11; refine (HNA.out _).mono ?_; rintro e1 w3 ⟨rfl, hb⟩; have HB3 := Aside0.mk (below_then HB.out HB.out.size hb); clear hb HNA)
          | (go_at_call 14; refine (HNL.out _).mono ?_; rintro e1 w4 ⟨rfl, hb⟩; have HB4 := Aside0.mk (below_then HB3.out HB3.out.size hb); clear hb HNL)
          | (go_at_call 13; refine (HNR.out _).mono ?_; rintro e1 w5 ⟨rfl, hb⟩; have HB5 := Aside0.mk (below_then HB4.out HB4.out.size hb); clear hb HNR))
        go_ret
        exact ⟨rfl, HB5.out⟩
end
end Go.Proofs.Ytgefggokgjneoaa.QT
