/- The walk of TopGreat. Conditions as each theorem has them. -/
import Derived.Test.YtgefggokgjneoaaTGreat
namespace Go.Proofs.Ytgefggokgjneoaa.QT
open Go.RowKit Go.Proofs.YtgefggokgjneoaaW.PrintWords Go.Proofs.YtgefggokgjneoaaW.PrintLast Go.Proofs.YtgefggokgjneoaaW.PrintMore Go.Proofs.Ytgefggokgjneoaa.TPure
attribute [local go_sem] max2_int min2_int max_two min_two max_three min_three max_four min_four ta27  -- for this text's walks alone
set_option linter.unusedVariables false
set_option linter.unusedSimpArgs false
section
variable {w0 w : World} {P : Nat → Prop} {g : Nat} {T : TypeId} {rest : List Value} {A : Option Addr} {c : Nat} {l : List S27}
/-- One Top, and nothing else that may be changed. -/
structure T1 (w w' : World) (m : Int) (g : Nat) (A : Option Addr) (c : Nat) (l : List S27) : Prop where
  hs : HS w (fun _ => True) w' g 43 [.int .i64 m] A c l
  below : Below w.heap.size w w'
theorem T1.moved {w1 w2 : World} {m : Int} {l2 : List S27} {A2 : Option Addr} {c2 : Nat} (k : Moved w w1 (fun _ => True) w2 g 43 [.int .i64 m] A2 c2 l2) : T1 w w2 m g A2 c2 l2 := ⟨k.hs.mono (fun _ _ => trivial), k.below⟩
set_option maxHeartbeats 1000000 in
set_option maxRecDepth 100000 in
theorem great_calls (n most step : Int) :
    Calls Try.prog 7 #[.int .i64 n, .int .i64 most, .int .i64 step] w fun e w' => e = .returned (.bool true) ∧ Below w.heap.size w w' := by
  have HH := Aside0.mk (head_calls (w := w))
  obtain ⟨N, hN, hNb⟩ : ∃ N : Nat, bits .and .i64 n 511 = (N : Int) ∧ N ≤ 511 := ⟨(n % 512).toNat, by rw [and511]; omega, by omega⟩
  obtain ⟨M, hM, hMb⟩ : ∃ M : Nat, bits .and .i64 most 127 = (M : Int) ∧ M ≤ 127 := ⟨(most % 128).toNat, by rw [and127]; omega, by omega⟩
  obtain ⟨e, he, heb, he2⟩ := and1022 step
  have hor := or_odd e heb he2
  obtain ⟨D, hDe⟩ : ∃ D, D = e + 1 := ⟨_, rfl⟩
  rw [← hDe] at hor
  have hD : D < 1024 ∧ D % 2 = 1 := by omega
  have hN2 : (N : Int) ≤ 511 := by omega
  have hM2 : (M : Int) ≤ 127 := by omega
  have he3 : (e : Int) ≤ 1022 := by omega
  have he4 : (0 : Int) ≤ (e : Int) := by omega
  clear hDe he2 heb
  have HN := Aside0.mk (fun (W : World) (hB : Below w.heap.size w W) => new_calls (w0 := w) (w := W) (M : Int) (by omega) (by omega) hB)
  rw [show (if 0 < (M : Int) then (M : Int) else 0) = (M : Int) by split <;> omega] at HN
  go_enter Try.func7, Try.ntmps7
  go_wp2_with (first
    | (go_at_call 8; refine HH.out.mono ?_; rintro e1 w1 ⟨rfl, hb⟩; have HB1 := Aside0.mk hb; clear hb HH)
    | (go_at_call 9; refine (HN.out _ HB1.out).mono ?_; rintro e1 w2 ⟨g, rfl, hga, hsa, hb2, hb3⟩; have HT := Aside0.mk (show T1 w w2 (M : Int) g none 0 (addsL M [] (glist D N 0)) from ⟨hsa.mono (fun _ _ => trivial), hb2⟩); clear hb2 hb3 hsa hga HB1 HN))
  go_loopg [8] 1025 (fun gk v8 w' => ∃ (i : Nat) (A : Option Addr) (c : Nat), v8 = .int .i64 (i : Int) ∧ Aside0 (i ≤ 1024 ∧ 1024 < i + gk) ∧ Aside0 (T1 w w' (M : Int) g A c (addsL M [] (glist D N i))))
  case atStart => exact ⟨0, none, 0, rfl, ⟨by omega, by omega⟩, HT⟩
  case round =>
    clear HT
    obtain ⟨i, A, c, rfl, HI, HT⟩ := hrel
    obtain ⟨gk, rfl⟩ : ∃ k, gk = k + 1 := ⟨gk - 1, by have := HI.out; omega⟩
    have hi0 : (0 : Int) ≤ (i : Int) := by omega
    by_cases hi : i < 1024
    · have hil : (i : Int) < 1024 := by omega
      obtain ⟨p, hp, hpb⟩ : ∃ p : Nat, i * D = p ∧ p ≤ 1047552 := ⟨_, rfl, by
        have : i * D ≤ 1024 * 1023 := Nat.mul_le_mul (by omega) (by have := hD.1; omega)
        omega⟩
      have hpi : (i : Int) * (D : Int) = (p : Int) := by rw [← hp]; simp
      have hpb2 : (p : Int) ≤ 1047552 := by omega
      have hp0 : (0 : Int) ≤ (p : Int) := by omega
      obtain ⟨s, hs⟩ : ∃ s, s = gseq D i := ⟨_, rfl⟩
      have hsb : s < 1024 := by rw [hs]; exact Nat.mod_lt _ (by omega)
      have hsi : bits .and .i64 ((p : Int) + 7) 1023 = (s : Int) := by rw [and1023, hs]; unfold gseq; rw [hp]; omega
      have hG := Aside0.mk (show glist D N (i + 1) = if s < N then glist D N i ++ [rw_ s] else glist D N i by rw [hs]; rfl)
      clear hs hp
      by_cases hsN : s < N
      · have hsN2 : (s : Int) < (N : Int) := by omega
        have hG2 := Aside0.mk (show addsL M [] (glist D N (i + 1)) = addL (addsL M [] (glist D N i)) M (rw_ s) by rw [hG.out, if_pos hsN, addsL_snoc])
        have HC2 := Aside0.mk (add_calls HT.out.hs HT.out.below (rw_ s) (by have := great_len D N M i; omega) (by omega))
        unfold enc27 rw_ at HC2
        go_wp2_with (go_at_call 11; refine HC2.out.mono ?_; rintro e1 w3 ⟨rfl, A2, c2, hmv⟩; have HT2 := Aside0.mk (T1.moved hmv); clear hmv HC2 HT)
        go_roundg gk
        case measure => omega
        case rel => exact ⟨i + 1, A2, c2, (by first | rfl | (congr 1; omega) | simp), ⟨by omega, by have := HI.out; omega⟩, ⟨by rw [hG2.out]; exact HT2.out⟩⟩
      · have hsN2 : ¬ ((s : Int) < (N : Int)) := by omega
        have hG2 := Aside0.mk (show addsL M [] (glist D N (i + 1)) = addsL M [] (glist D N i) by rw [hG.out, if_neg hsN])
        go_wp2
        go_roundg gk
        case measure => omega
        case rel => exact ⟨i + 1, A, c, (by first | rfl | (congr 1; omega) | simp), ⟨by omega, by have := HI.out; omega⟩, ⟨by rw [hG2.out]; exact HT.out⟩⟩
    · obtain rfl : i = 1024 := by have := HI.out; omega
      have hF := great_rows D N M hD.1 hD.2 (by omega)
      have hFg := Aside0.mk (great_get N M)
      have hFn : ((((List.range N).reverse).map rw_).take M).length = min M N := by simp
      have HC1 := Aside0.mk (rows_calls HT.out.hs (by have := great_len D N M 1024; omega))
      rw [hF] at HC1
      clear hF
      generalize (((List.range N).reverse).map rw_).take M = F at HC1 hFg hFn
      have hFb : (F.length : Int) ≤ 127 := by omega
      have hFN : (F.length : Int) ≤ (N : Int) := by omega
      have hF0 : (0 : Int) ≤ (F.length : Int) := by omega
      have hcmp : (if M < N then (M : Int) else (N : Int)) = (F.length : Int) := by
        split
        · omega
        · omega
      have hcm2 : (if (M : Int) < (N : Int) then (M : Int) else (N : Int)) = (F.length : Int) := by
        split
        · omega
        · omega
      have HWB := Aside0.mk HT.out.below
      clear hFn
      go_wp2_with (go_at_call 13; refine HC1.out.mono ?_; rintro e1 w4 ⟨A1, c1, rfl, hr1, hb1⟩; have HR1 := Aside0.mk (Kd.R_reads' hr1); have HB4 := Aside0.mk (below_then HWB.out HWB.out.size hb1); clear hr1 hb1 HC1)
      go_loopg [51] (F.length + 1) (fun gk v51 w' => ∃ (k : Nat), v51 = .int .i64 (k : Int) ∧ Aside0 (k ≤ F.length ∧ F.length < k + gk) ∧ Aside0 (Below w4.heap.size w4 w'))
      case atStart => exact ⟨0, rfl, ⟨by omega, by omega⟩, ⟨Below.refl _ _⟩⟩
      case round =>
        obtain ⟨k, rfl, HK, HW⟩ := hrel
        obtain ⟨gj, rfl⟩ : ∃ k2, gk = k2 + 1 := ⟨gk - 1, by have := HK.out; omega⟩
        have hk0 : (0 : Int) ≤ (k : Int) := by omega
        by_cases hk : k < F.length
        · have hkl : (k : Int) < (F.length : Int) := by omega
          obtain ⟨ad1, rfl, hx0, hx1, hx2⟩ := row_cells HR1.out.2.2 HW.out k hk
          rw [hFg.out k hk] at hx0 hx1 hx2
          obtain ⟨q, hq⟩ : ∃ q : Nat, q = N - 1 - k := ⟨_, rfl⟩
          rw [← hq] at hx0 hx1 hx2
          have hqi : (N : Int) - 1 - (k : Int) = (q : Int) := by omega
          have hqb : (q : Int) ≤ 511 := by omega
          have hN1 : (1 : Int) ≤ (N : Int) := by omega
          clear hq
          unfold rw_ at hx0 hx1 hx2
          go_wp2
          go_roundg gj
          case measure => omega
          case rel => exact ⟨k + 1, (by first | rfl | (congr 1; omega) | simp), ⟨by omega, by have := HK.out; omega⟩, ⟨by repeat (first | exact HW.out | apply below_drew1 | apply below_alloc)⟩⟩
        · obtain rfl : k = F.length := by have := HK.out; omega
          go_wp2
          go_ret
          exact ⟨rfl, below_then HB4.out HB4.out.size HW.out⟩
end
end Go.Proofs.Ytgefggokgjneoaa.QT
