/- The walk of VintSizes. Conditions as each theorem has them. -/
import Derived.Test.YtgmbefkbonaodaaRPure
namespace Go.Proofs.Ytgmbefkbonaodaa.QV
open Go.RowKit Go.Proofs.YtgmbefkbonaodaaW.PrintWords Go.Proofs.YtgmbefkbonaodaaW.PrintLast Go.Proofs.YtgmbefkbonaodaaW.PrintMore Go.Proofs.Ytgmbefkbonaodaa.VSum Go.Proofs.Ytgmbefkbonaodaa.VDig
attribute [local go_sem] max2_int min2_int max_two min_two max_three min_three max_four min_four   -- for this text's walks alone
set_option linter.unusedVariables false
set_option linter.unusedSimpArgs false
section
variable {w0 w : World} {A : Option Addr} {c : Nat} {l : List ByteArray}
/-- Put of a number behind nothing. -/
theorem put_new (W : World) (hB : Below w.heap.size w W) (n : Nat) (hn : n < 18446744073709551616) : Calls Try.prog 11 #[.slice none 0 0, .int .u64 (n : Int)] W fun e w' => ∃ A' c', e = .returned (.slice A' (D n).length c') ∧ Below w.heap.size w w' := by
  have h := Put_spec [] (by simp) n hn
  rw [List.nil_append] at h
  refine (vint_Put.calls (fun _ => True) (.slice none 0 0) [] (n : Int) (D n) w W hB (Kd.R_nil _ _ _ _ _) h).mono ?_
  rintro e w' ⟨v0, rfl, hr, hb, _⟩
  obtain ⟨A', c', rfl⟩ := Kd.R_slice hr
  exact ⟨A', c', rfl, hb⟩
set_option maxHeartbeats 1000000 in
set_option maxRecDepth 100000 in
theorem sizes_walk (hr : Kd.C Kd.string w A l.length l) (hc : l.length ≤ c) (a b a' b' : Nat) (ha : a < 18446744073709551616) (hb : b < 18446744073709551616) (hab : (a ≤ b ∧ a' = a ∧ b' = b) ∨ (b < a ∧ a' = b ∧ b' = a)) (h20 : l.length ≤ 20) :
    Calls Try.prog 8 #[.int .u64 (a : Int), .int .u64 (b : Int), .slice A l.length c] w fun e w' => e = .returned (.bool true) ∧ Below w.heap.size w w' := by
  have HR := Aside0.mk hr
  have HH := Aside0.mk (catchwordlaw01_head.calls true w rfl)
  have hlb : (l.length : Int) ≤ 20 := by omega
  have hn1 : ¬ ((20 : Int) < (l.length : Int)) := by omega
  have HDM := Aside0.mk (show (D a').length ≤ (D b').length from D_mono (by omega))
  have HPA := Aside0.mk (fun (W : World) (hB : Below w.heap.size w W) => put_new W hB a' (by omega))
  have HPB := Aside0.mk (fun (W : World) (hB : Below w.heap.size w W) => put_new W hB b' (by omega))
  obtain ⟨da, hda⟩ : ∃ da, da = (D a').length := ⟨_, rfl⟩
  obtain ⟨db, hdb⟩ : ∃ db, db = (D b').length := ⟨_, rfl⟩
  rw [← hda] at HDM HPA
  rw [← hdb] at HDM HPB
  have hdd : da ≤ db := HDM.out
  have hdn : ¬ ((db : Int) < (da : Int)) := by omega
  clear hda hdb hr HDM
  rcases hab with ⟨hab, rfl, rfl⟩ | ⟨hab, rfl, rfl⟩
  · have hq : ¬ ((b' : Int) < (a' : Int)) := by omega
    go_enter Try.func8, Try.ntmps8
    go_wp2_with (first
      | (go_at_call 9; refine HH.out.mono ?_; rintro e w1 ⟨rfl, hb⟩; have HB1 := Aside0.mk hb; clear hb HH)
      | (go_at_call 11; refine (HPA.out _ HB1.out).mono ?_; rintro e w2 ⟨A1, c1, rfl, hb⟩; have HB2 := Aside0.mk hb; clear hb HPA)
      | (go_at_call 11; refine (HPB.out _ HB2.out).mono ?_; rintro e w3 ⟨A2, c2, rfl, hb⟩; have HB3 := Aside0.mk hb; clear hb HPB)
      | ((with_reducible refine gate_dst (N := 30) rfl ?_); refine Kd.R_lit (Kd.int .u8) _ 5 ?hg (N := 30) ?hd (xs := ([] : List Int)) (inner := []) (ok := fun _ => True) (okp := fun _ => True) ?hr ?hp (fun _ hk => hk) trivial (Below.refl _ _) (Nat.le_refl _) (by simp) ?_; (case hd => rfl); (case hg => rfl); (case hr => first | (go_simp; done) | (go_simp; rfl)); (case hp => exact (Reps.none _ _)); intro v7 w4 ho hb hg_ hnew_; clear hg_ hnew_; have HB4 := Aside0.mk (below_then HB3.out HB3.out.size hb); have HO := Aside0.mk (show Kd.R (Kd.int .u8) 5 w4 w.heap.size (fun _ => True) v7 (encs (l.take 0)) from Kd.R_lower ho HB3.out.size); clear ho hb))
    go_loopg [7, 33] (l.length + 1) (fun gk v7 v33 w' => ∃ (i : Nat), v33 = .int .i64 (i : Int) ∧ Aside0 (i ≤ l.length ∧ l.length < i + gk) ∧ Aside0 (∀ s ∈ l.take i, s.size ≤ 200) ∧ Aside0 (Kd.R (Kd.int .u8) 5 w' w.heap.size (fun _ => True) v7 (encs (l.take i))) ∧ Aside0 (Below w.heap.size w w'))
    case atStart => exact ⟨0, rfl, ⟨by omega, by omega⟩, ⟨by simp⟩, HO, HB4⟩
    case round =>
      clear HO HB4
      obtain ⟨i, rfl, HI, HS, HO, HB⟩ := hrel
      obtain ⟨gj, rfl⟩ : ∃ k2, gk = k2 + 1 := ⟨gk - 1, by have := HI.out; omega⟩
      have hi0 : (0 : Int) ≤ (i : Int) := by omega
      by_cases hi : i < l.length
      · have hil : (i : Int) < (l.length : Int) := by omega
        obtain ⟨ad, rfl, hx⟩ := Kd.at_string HR.out (i : Int) hi0 hil
        replace hx := (HB.out.cell (World.block_lt_of_cell? w _ hx)).trans hx
        rw [Int.toNat_natCast] at hx
        have hig : l[i]? = some (rdOf ByteArray.empty l (i : Int)) := by
          unfold rdOf; rw [Int.toNat_natCast, List.getD_eq_getElem?_getD, List.getElem?_eq_getElem hi]; rfl
        generalize rdOf ByteArray.empty l (i : Int) = s at hx hig
        by_cases hs : 200 < s.size
        · have hsi : (200 : Int) < (s.size : Int) := by omega
          clear hig
          go_wp2
          go_ret
          exact ⟨rfl, HB.out⟩
        · have hsi : ¬ (200 : Int) < (s.size : Int) := by omega
          have hsb : (s.size : Int) ≤ 200 := by omega
          have hsz : ∀ t ∈ l.take (i + 1), t.size ≤ 200 := by
            intro t ht
            rw [List.take_add_one, hig] at ht
            rcases List.mem_append.1 ht with ht | ht
            · exact HS.out t ht
            · simp at ht; subst ht; omega
          have HS2 := Aside0.mk hsz
          have hel := encs_length 200 (l.take i) HS.out (by omega)
          have hel2 : (l.take i).length ≤ 20 := by rw [List.length_take]; omega
          have HTX := Aside0.mk (show vint_Text.f (encs (l.take i)) s = some (encs (l.take (i + 1))) by
            rw [encs_take l i s hig]
            have h210 : (l.take i).length * (10 + 200) ≤ 20 * 210 := Nat.mul_le_mul hel2 (Nat.le_refl _)
            exact Text_spec _ _ (by omega))
          have HII := Aside0.mk hi
          clear hig hsz hel hel2
          go_wp2_with (go_at_call 14; refine (vint_Text.calls (fun _ => True) _ _ s _ w _ HB.out HO.out HTX.out).mono ?_; rintro e w5 ⟨v8, rfl, hr1, hb1, _⟩; have HO1 := Aside0.mk (Kd.R_mono (ok' := fun _ => True) hr1 (fun _ _ => trivial)); have HB5 := Aside0.mk hb1; clear hr1 hb1)
          go_roundg gj
          case measure => omega
          case rel => exact ⟨i + 1, (by first | rfl | (congr 1; omega) | simp), ⟨by have := HII.out; omega, by have := HI.out; omega⟩, HS2, HO1, HB5⟩
      · obtain rfl : i = l.length := by have := HI.out; omega
        rw [List.take_of_length_le (Nat.le_refl _)] at HS HO
        obtain ⟨A7, c7, hv⟩ := Kd.R_slice HO.out
        subst hv
        have hO7 := Kd.R_reads' HO.out
        have hel := encs_length 200 l HS.out (by omega)
        have h210 : l.length * (10 + 200) ≤ 20 * 210 := Nat.mul_le_mul (by omega) (Nat.le_refl _)
        have HRC := Aside0.mk (read_calls hO7.2.2 hO7.2.1 (by omega))
        have HXB := Aside0.mk (encs_bytes l (fun s hs => by have := HS.out s hs; omega))
        have hxl : (encs l).length < 1099511627776 := by omega
        have HXL := Aside0.mk hxl
        have HBW := Aside0.mk HB.out
        clear hO7 hel h210 hxl HO HB
        obtain ⟨X, hX⟩ : ∃ X, X = encs l := ⟨_, rfl⟩
        rw [← hX] at HRC HXB HXL ⊢
        have HX := Aside0.mk hX
        clear hX
        go_wp2_with (go_at_call 15; refine HRC.out.mono ?_; rintro e w6 ⟨g, A8, c8, rfl, hg, hrd, hb1⟩; have HB6 := Aside0.mk (below_then HBW.out HBW.out.size hb1); have HG := Aside0.mk (show w.heap.size ≤ g from Nat.le_trans HBW.out.size hg); have HRD := Aside0.mk (show RD w6 g X (encs (l.take 0)).length 0 A8 c8 from hrd); clear hg hrd hb1 HRC HBW)
        go_loopg [48] (l.length + 1) (fun gk v48 w' => ∃ (i : Nat), v48 = .int .i64 (i : Int) ∧ Aside0 (i ≤ l.length ∧ l.length < i + gk) ∧ Aside0 (RD w' g X (encs (l.take i)).length 0 A8 c8) ∧ Aside0 (Below w.heap.size w w'))
        case atStart => exact ⟨0, rfl, ⟨by omega, by omega⟩, HRD, HB6⟩
        case round =>
          clear HRD HB6
          obtain ⟨i, rfl, HI, HRD, HB⟩ := hrel
          obtain ⟨gj, rfl⟩ : ∃ k2, gk = k2 + 1 := ⟨gk - 1, by have := HI.out; omega⟩
          have hi0 : (0 : Int) ≤ (i : Int) := by omega
          by_cases hi : i < l.length
          · have hil : (i : Int) < (l.length : Int) := by omega
            obtain ⟨ad, rfl, hx⟩ := Kd.at_string HR.out (i : Int) hi0 hil
            replace hx := (HB.out.cell (World.block_lt_of_cell? w _ hx)).trans hx
            rw [Int.toNat_natCast] at hx
            have hig : l[i]? = some (rdOf ByteArray.empty l (i : Int)) := by
              unfold rdOf; rw [Int.toNat_natCast, List.getD_eq_getElem?_getD, List.getElem?_eq_getElem hi]; rfl
            generalize rdOf ByteArray.empty l (i : Int) = s at hx hig
            have hs : s.size ≤ 200 := HS.out s (List.mem_of_getElem? hig)
            have hsb : (s.size : Int) ≤ 200 := by omega
            have hsp := encs_split l i s hig
            rw [← HX.out] at hsp
            have htr := textR_at (encs (l.take i)) (encs (l.drop (i + 1))) s (s.size : Int) (by omega) (by omega)
            rw [← hsp] at htr
            have htc := text_calls HRD.out HB.out HG.out (by rw [hsp, List.length_append]; omega) HXL.out HXB.out (s.size : Int) (by omega) (by omega)
            rw [htr] at htc
            have HTC := Aside0.mk htc
            have HPL := Aside0.mk (show (encs (l.take (i + 1))).length = (encs (l.take i)).length + (txtE s).length by rw [encs_take l i s hig, List.length_append])
            have HII := Aside0.mk hi
            clear hig hsp htr htc
            go_wp2_with (go_at_call 16; refine HTC.out.mono ?_; rintro e w7 ⟨rfl, hrd, hb1, _⟩; have HRD2 := Aside0.mk hrd; have HB7 := Aside0.mk hb1; clear hrd hb1 HTC)
            go_roundg gj
            case measure => omega
            case rel => exact ⟨i + 1, (by first | rfl | (congr 1; omega) | simp), ⟨by have := HII.out; omega, by have := HI.out; omega⟩, ⟨by rw [HPL.out]; exact HRD2.out⟩, HB7⟩
          · obtain rfl : i = l.length := by have := HI.out; omega
            rw [List.take_of_length_le (Nat.le_refl _), ← HX.out] at HRD
            have hec := end_calls HRD.out (Nat.le_refl _) HXL.out (Or.inl rfl)
            rw [show endR X X.length 0 = 0 from if_neg (fun h2 => absurd h2.2 (Nat.lt_irrefl _))] at hec
            have HEC := Aside0.mk hec
            clear hec
            go_wp2_with (go_at_call 19; refine HEC.out.mono ?_; rintro e w7 ⟨rfl, hb1⟩; have HB7 := Aside0.mk (below_then HB.out HB.out.size hb1); clear hb1 HEC)
            go_ret
            exact ⟨rfl, HB7.out⟩
  · have hq : (a' : Int) < (b' : Int) := by omega
    go_enter Try.func8, Try.ntmps8
    go_wp2_with (first
      | (go_at_call 9; refine HH.out.mono ?_; rintro e w1 ⟨rfl, hb⟩; have HB1 := Aside0.mk hb; clear hb HH)
      | (go_at_call 11; refine (HPA.out _ HB1.out).mono ?_; rintro e w2 ⟨A1, c1, rfl, hb⟩; have HB2 := Aside0.mk hb; clear hb HPA)
      | (go_at_call 11; refine (HPB.out _ HB2.out).mono ?_; rintro e w3 ⟨A2, c2, rfl, hb⟩; have HB3 := Aside0.mk hb; clear hb HPB)
      | ((with_reducible refine gate_dst (N := 30) rfl ?_); refine Kd.R_lit (Kd.int .u8) _ 5 ?hg (N := 30) ?hd (xs := ([] : List Int)) (inner := []) (ok := fun _ => True) (okp := fun _ => True) ?hr ?hp (fun _ hk => hk) trivial (Below.refl _ _) (Nat.le_refl _) (by simp) ?_; (case hd => rfl); (case hg => rfl); (case hr => first | (go_simp; done) | (go_simp; rfl)); (case hp => exact (Reps.none _ _)); intro v7 w4 ho hb hg_ hnew_; clear hg_ hnew_; have HB4 := Aside0.mk (below_then HB3.out HB3.out.size hb); have HO := Aside0.mk (show Kd.R (Kd.int .u8) 5 w4 w.heap.size (fun _ => True) v7 (encs (l.take 0)) from Kd.R_lower ho HB3.out.size); clear ho hb))
    go_loopg [7, 33] (l.length + 1) (fun gk v7 v33 w' => ∃ (i : Nat), v33 = .int .i64 (i : Int) ∧ Aside0 (i ≤ l.length ∧ l.length < i + gk) ∧ Aside0 (∀ s ∈ l.take i, s.size ≤ 200) ∧ Aside0 (Kd.R (Kd.int .u8) 5 w' w.heap.size (fun _ => True) v7 (encs (l.take i))) ∧ Aside0 (Below w.heap.size w w'))
    case atStart => exact ⟨0, rfl, ⟨by omega, by omega⟩, ⟨by simp⟩, HO, HB4⟩
    case round =>
      clear HO HB4
      obtain ⟨i, rfl, HI, HS, HO, HB⟩ := hrel
      obtain ⟨gj, rfl⟩ : ∃ k2, gk = k2 + 1 := ⟨gk - 1, by have := HI.out; omega⟩
      have hi0 : (0 : Int) ≤ (i : Int) := by omega
      by_cases hi : i < l.length
      · have hil : (i : Int) < (l.length : Int) := by omega
        obtain ⟨ad, rfl, hx⟩ := Kd.at_string HR.out (i : Int) hi0 hil
        replace hx := (HB.out.cell (World.block_lt_of_cell? w _ hx)).trans hx
        rw [Int.toNat_natCast] at hx
        have hig : l[i]? = some (rdOf ByteArray.empty l (i : Int)) := by
          unfold rdOf; rw [Int.toNat_natCast, List.getD_eq_getElem?_getD, List.getElem?_eq_getElem hi]; rfl
        generalize rdOf ByteArray.empty l (i : Int) = s at hx hig
        by_cases hs : 200 < s.size
        · have hsi : (200 : Int) < (s.size : Int) := by omega
          clear hig
          go_wp2
          go_ret
          exact ⟨rfl, HB.out⟩
        · have hsi : ¬ (200 : Int) < (s.size : Int) := by omega
          have hsb : (s.size : Int) ≤ 200 := by omega
          have hsz : ∀ t ∈ l.take (i + 1), t.size ≤ 200 := by
            intro t ht
            rw [List.take_add_one, hig] at ht
            rcases List.mem_append.1 ht with ht | ht
            · exact HS.out t ht
            · simp at ht; subst ht; omega
          have HS2 := Aside0.mk hsz
          have hel := encs_length 200 (l.take i) HS.out (by omega)
          have hel2 : (l.take i).length ≤ 20 := by rw [List.length_take]; omega
          have HTX := Aside0.mk (show vint_Text.f (encs (l.take i)) s = some (encs (l.take (i + 1))) by
            rw [encs_take l i s hig]
            have h210 : (l.take i).length * (10 + 200) ≤ 20 * 210 := Nat.mul_le_mul hel2 (Nat.le_refl _)
            exact Text_spec _ _ (by omega))
          have HII := Aside0.mk hi
          clear hig hsz hel hel2
          go_wp2_with (go_at_call 14; refine (vint_Text.calls (fun _ => True) _ _ s _ w _ HB.out HO.out HTX.out).mono ?_; rintro e w5 ⟨v8, rfl, hr1, hb1, _⟩; have HO1 := Aside0.mk (Kd.R_mono (ok' := fun _ => True) hr1 (fun _ _ => trivial)); have HB5 := Aside0.mk hb1; clear hr1 hb1)
          go_roundg gj
          case measure => omega
          case rel => exact ⟨i + 1, (by first | rfl | (congr 1; omega) | simp), ⟨by have := HII.out; omega, by have := HI.out; omega⟩, HS2, HO1, HB5⟩
      · obtain rfl : i = l.length := by have := HI.out; omega
        rw [List.take_of_length_le (Nat.le_refl _)] at HS HO
        obtain ⟨A7, c7, hv⟩ := Kd.R_slice HO.out
        subst hv
        have hO7 := Kd.R_reads' HO.out
        have hel := encs_length 200 l HS.out (by omega)
        have h210 : l.length * (10 + 200) ≤ 20 * 210 := Nat.mul_le_mul (by omega) (Nat.le_refl _)
        have HRC := Aside0.mk (read_calls hO7.2.2 hO7.2.1 (by omega))
        have HXB := Aside0.mk (encs_bytes l (fun s hs => by have := HS.out s hs; omega))
        have hxl : (encs l).length < 1099511627776 := by omega
        have HXL := Aside0.mk hxl
        have HBW := Aside0.mk HB.out
        clear hO7 hel h210 hxl HO HB
        obtain ⟨X, hX⟩ : ∃ X, X = encs l := ⟨_, rfl⟩
        rw [← hX] at HRC HXB HXL ⊢
        have HX := Aside0.mk hX
        clear hX
        go_wp2_with (go_at_call 15; refine HRC.out.mono ?_; rintro e w6 ⟨g, A8, c8, rfl, hg, hrd, hb1⟩; have HB6 := Aside0.mk (below_then HBW.out HBW.out.size hb1); have HG := Aside0.mk (show w.heap.size ≤ g from Nat.le_trans HBW.out.size hg); have HRD := Aside0.mk (show RD w6 g X (encs (l.take 0)).length 0 A8 c8 from hrd); clear hg hrd hb1 HRC HBW)
        go_loopg [48] (l.length + 1) (fun gk v48 w' => ∃ (i : Nat), v48 = .int .i64 (i : Int) ∧ Aside0 (i ≤ l.length ∧ l.length < i + gk) ∧ Aside0 (RD w' g X (encs (l.take i)).length 0 A8 c8) ∧ Aside0 (Below w.heap.size w w'))
        case atStart => exact ⟨0, rfl, ⟨by omega, by omega⟩, HRD, HB6⟩
        case round =>
          clear HRD HB6
          obtain ⟨i, rfl, HI, HRD, HB⟩ := hrel
          obtain ⟨gj, rfl⟩ : ∃ k2, gk = k2 + 1 := ⟨gk - 1, by have := HI.out; omega⟩
          have hi0 : (0 : Int) ≤ (i : Int) := by omega
          by_cases hi : i < l.length
          · have hil : (i : Int) < (l.length : Int) := by omega
            obtain ⟨ad, rfl, hx⟩ := Kd.at_string HR.out (i : Int) hi0 hil
            replace hx := (HB.out.cell (World.block_lt_of_cell? w _ hx)).trans hx
            rw [Int.toNat_natCast] at hx
            have hig : l[i]? = some (rdOf ByteArray.empty l (i : Int)) := by
              unfold rdOf; rw [Int.toNat_natCast, List.getD_eq_getElem?_getD, List.getElem?_eq_getElem hi]; rfl
            generalize rdOf ByteArray.empty l (i : Int) = s at hx hig
            have hs : s.size ≤ 200 := HS.out s (List.mem_of_getElem? hig)
            have hsb : (s.size : Int) ≤ 200 := by omega
            have hsp := encs_split l i s hig
            rw [← HX.out] at hsp
            have htr := textR_at (encs (l.take i)) (encs (l.drop (i + 1))) s (s.size : Int) (by omega) (by omega)
            rw [← hsp] at htr
            have htc := text_calls HRD.out HB.out HG.out (by rw [hsp, List.length_append]; omega) HXL.out HXB.out (s.size : Int) (by omega) (by omega)
            rw [htr] at htc
            have HTC := Aside0.mk htc
            have HPL := Aside0.mk (show (encs (l.take (i + 1))).length = (encs (l.take i)).length + (txtE s).length by rw [encs_take l i s hig, List.length_append])
            have HII := Aside0.mk hi
            clear hig hsp htr htc
            go_wp2_with (go_at_call 16; refine HTC.out.mono ?_; rintro e w7 ⟨rfl, hrd, hb1, _⟩; have HRD2 := Aside0.mk hrd; have HB7 := Aside0.mk hb1; clear hrd hb1 HTC)
            go_roundg gj
            case measure => omega
            case rel => exact ⟨i + 1, (by first | rfl | (congr 1; omega) | simp), ⟨by have := HII.out; omega, by have := HI.out; omega⟩, ⟨by rw [HPL.out]; exact HRD2.out⟩, HB7⟩
          · obtain rfl : i = l.length := by have := HI.out; omega
            rw [List.take_of_length_le (Nat.le_refl _), ← HX.out] at HRD
            have hec := end_calls HRD.out (Nat.le_refl _) HXL.out (Or.inl rfl)
            rw [show endR X X.length 0 = 0 from if_neg (fun h2 => absurd h2.2 (Nat.lt_irrefl _))] at hec
            have HEC := Aside0.mk hec
            clear hec
            go_wp2_with (go_at_call 19; refine HEC.out.mono ?_; rintro e w7 ⟨rfl, hb1⟩; have HB7 := Aside0.mk (below_then HB.out HB.out.size hb1); clear hb1 HEC)
            go_ret
            exact ⟨rfl, HB7.out⟩
set_option maxHeartbeats 1000000 in
set_option maxRecDepth 100000 in
theorem sizes_calls (hr : Kd.C Kd.string w A l.length l) (hc : l.length ≤ c) (a b : Nat) (ha : a < 18446744073709551616) (hb : b < 18446744073709551616) :
    Calls Try.prog 8 #[.int .u64 (a : Int), .int .u64 (b : Int), .slice A l.length c] w fun e w' => e = .returned (.bool true) ∧ Below w.heap.size w w' := by
  by_cases h20 : l.length ≤ 20
  · rcases Nat.lt_or_ge b a with h | h
    · exact sizes_walk hr hc a b b a ha hb (.inr ⟨h, rfl, rfl⟩) h20
    · exact sizes_walk hr hc a b a b ha hb (.inl ⟨h, rfl, rfl⟩) h20
  · have hn1 : (20 : Int) < (l.length : Int) := by omega
    have HH := Aside0.mk (catchwordlaw01_head.calls true w rfl)
    clear hr
    go_enter Try.func8, Try.ntmps8
    go_wp2_with (go_at_call 9; refine HH.out.mono ?_; rintro e w1 ⟨rfl, hb⟩; have HB1 := Aside0.mk hb; clear hb HH)
    go_ret
    exact ⟨rfl, HB1.out⟩
end
end Go.Proofs.Ytgmbefkbonaodaa.QV
