/- The walk of VintReads. Conditions as each theorem has them. -/
import Derived.Test.YtgmbefkbonaodaaRPure2
namespace Go.Proofs.Ytgmbefkbonaodaa.QV
open Go.RowKit Go.Proofs.YtgmbefkbonaodaaW.PrintWords Go.Proofs.YtgmbefkbonaodaaW.PrintLast Go.Proofs.YtgmbefkbonaodaaW.PrintMore Go.Proofs.Ytgmbefkbonaodaa.VSum Go.Proofs.Ytgmbefkbonaodaa.VDig
attribute [local go_sem] max2_int min2_int max_two min_two max_three min_three max_four min_four   -- for this text's walks alone
set_option linter.unusedVariables false
set_option linter.unusedSimpArgs false
/-- Where a reader stands behind i parts: at the next one, or at an error. -/
def StOk (l : List S39) (X : List Int) (i p : Nat) (e : Int) (bad : Bool) : Prop := (bad = false → p = (encPs (l.take i)).length ∧ e = 0) ∧ (bad = true → e = 2 ∧ p ≤ X.length)
section
variable {w0 w : World} {A B : Option Addr} {c d : Nat} {l : List S39} {ms : List Int}
set_option maxHeartbeats 6000000 in
set_option maxRecDepth 100000 in
theorem reads_calls (hr : Kd.C k39 w A l.length l) (hc : l.length ≤ c) (hrm : Kd.C (Kd.int .i64) w B ms.length ms) (hcm : ms.length ≤ d) (hG : ∀ a ∈ ms, (Lit.int .i64 a).wf = true) (cut : Int) :
    Calls Try.prog 7 #[.slice A l.length c, .slice B ms.length d, .int .i64 cut] w fun e w' => e = .returned (.bool true) ∧ Below w.heap.size w w' := by
  have HR := Aside0.mk hr
  have HM := Aside0.mk hrm
  have HGM := Aside0.mk hG
  have HH := Aside0.mk (catchwordlaw01_head.calls true w rfl)
  clear hr hrm hG
  by_cases hl : 20 < l.length
  · have hn1 : (20 : Int) < (l.length : Int) := by omega
    go_enter Try.func7, Try.ntmps7
    go_wp2_with (go_at_call 9; refine HH.out.mono ?_; rintro e w1 ⟨rfl, hb⟩; have HB1 := Aside0.mk hb; clear hb HH)
    go_ret
    exact ⟨rfl, HB1.out⟩
  by_cases hm : 20 < ms.length
  · have hn1 : ¬ (20 : Int) < (l.length : Int) := by omega
    have hn2 : (20 : Int) < (ms.length : Int) := by omega
    go_enter Try.func7, Try.ntmps7
    go_wp2_with (go_at_call 9; refine HH.out.mono ?_; rintro e w1 ⟨rfl, hb⟩; have HB1 := Aside0.mk hb; clear hb HH)
    go_ret
    exact ⟨rfl, HB1.out⟩
  have hn1 : ¬ (20 : Int) < (l.length : Int) := by omega
  have hn2 : ¬ (20 : Int) < (ms.length : Int) := by omega
  have hlb : (l.length : Int) ≤ 20 := by omega
  have hmb : (ms.length : Int) ≤ 20 := by omega
  go_enter Try.func7, Try.ntmps7
  go_wp2_with (first
    | (go_at_call 9; refine HH.out.mono ?_; rintro e w1 ⟨rfl, hb⟩; have HB1 := Aside0.mk hb; clear hb HH)
    | ((with_reducible refine gate_dst (N := 31) rfl ?_); refine Kd.R_lit (Kd.int .u8) _ 5 ?hg (N := 31) ?hd (xs := ([] : List Int)) (inner := []) (ok := fun _ => True) (okp := fun _ => True) ?hr ?hp (fun _ hk => hk) trivial (Below.refl _ _) (Nat.le_refl _) (by simp) ?_; (case hd => rfl); (case hg => rfl); (case hr => first | (go_simp; done) | (go_simp; rfl)); (case hp => exact (Reps.none _ _)); intro v7 w4 ho hb hg_ hnew_; clear hg_ hnew_; have HB4 := Aside0.mk (below_then HB1.out HB1.out.size hb); have HO := Aside0.mk (show Kd.R (Kd.int .u8) 5 w4 w.heap.size (fun _ => True) v7 (encPs (l.take 0)) from Kd.R_lower ho HB1.out.size); clear ho hb))
  go_loopg [7, 34] (l.length + 1) (fun gk v7 v34 w' => ∃ (i : Nat), v34 = .int .i64 (i : Int) ∧ Aside0 (i ≤ l.length ∧ l.length < i + gk) ∧ Aside0 (∀ s ∈ l.take i, s.f2.size ≤ 100) ∧ Aside0 (Kd.R (Kd.int .u8) 5 w' w.heap.size (fun _ => True) v7 (encPs (l.take i))) ∧ Aside0 (Below w.heap.size w w'))
  case atStart => exact ⟨0, rfl, ⟨by omega, by omega⟩, ⟨by simp⟩, HO, HB4⟩
  case round =>
    clear HO HB4
    obtain ⟨i, rfl, HI, HS, HO, HB⟩ := hrel
    obtain ⟨gj, rfl⟩ : ∃ k2, gk = k2 + 1 := ⟨gk - 1, by have := HI.out; omega⟩
    have hi0 : (0 : Int) ≤ (i : Int) := by omega
    by_cases hi : i < l.length
    · have hil : (i : Int) < (l.length : Int) := by omega
      have HII := Aside0.mk hi
      obtain ⟨ad, hade, hx0, hx1, hx2⟩ := at_T39 HR.out (i : Int) hi0 hil
      obtain rfl : some ad = A := hade.symm
      replace hx0 := (HB.out.cell (World.block_lt_of_cell? w _ hx0)).trans hx0
      replace hx1 := (HB.out.cell (World.block_lt_of_cell? w _ hx1)).trans hx1
      replace hx2 := (HB.out.cell (World.block_lt_of_cell? w _ hx2)).trans hx2
      rw [Int.toNat_natCast] at hx0 hx1 hx2
      have hig : l[i]? = some (rd_T39 l (i : Int)) := by
        unfold rd_T39; rw [Int.toNat_natCast, List.getD_eq_getElem?_getD, List.getElem?_eq_getElem hi]; rfl
      generalize rd_T39 l (i : Int) = X at hx0 hx1 hx2 hig
      by_cases hs : 100 < X.f2.size
      · have hsi : (100 : Int) < (X.f2.size : Int) := by omega
        clear hig
        go_wp2
        go_ret
        exact ⟨rfl, below_alloc HB.out _⟩
      · have hsi : ¬ (100 : Int) < (X.f2.size : Int) := by omega
        have hsb : (X.f2.size : Int) ≤ 100 := by omega
        have hsz : ∀ t ∈ l.take (i + 1), t.f2.size ≤ 100 := by
          intro t ht
          rw [List.take_add_one, hig] at ht
          rcases List.mem_append.1 ht with ht | ht
          · exact HS.out t ht
          · simp at ht; subst ht; omega
        have HS2 := Aside0.mk hsz
        have hel := encPs_length (l.take i) HS.out
        have hel2 : (l.take i).length ≤ 20 := by rw [List.length_take]; omega
        have h210 : (l.take i).length * 110 ≤ 20 * 110 := Nat.mul_le_mul hel2 (Nat.le_refl _)
        have HHO := Aside0.mk (Kd.R_below HO.out (below_alloc (Below.refl _ _) (.cells #[.bool X.f0, .int .i64 X.f1, .string X.f2] 39)))
        have HHB := Aside0.mk (below_alloc HB.out (.cells #[.bool X.f0, .int .i64 X.f1, .string X.f2] 39))
        have htake := encPs_take l i X hig
        cases hf : X.f0
        · rw [hf] at hx0 HHO HHB
          have HPU := Aside0.mk (show vint_Put.f (encPs (l.take i)) (nOf X : Int) = some (encPs (l.take (i + 1))) by
            rw [htake, show encP X = D (nOf X) from if_neg (by rw [hf]; decide)]
            exact Put_spec _ (by omega) _ (by have := nOf_lt X; omega))
          have hand := nOf_and X
          have hw : IntKind.u64.wrap (nOf X : Int) = (nOf X : Int) := by have := nOf_lt X; rw [wrap_u64]; omega
          clear hig hsz hel hel2 htake h210 hf
          go_wp2_with (go_at_call 11; refine (vint_Put.calls (fun _ => True) _ _ _ _ w _ HHB.out HHO.out HPU.out).mono ?_; rintro e w5 ⟨v8, rfl, hr1, hb1, _⟩; have HO1 := Aside0.mk (Kd.R_mono (ok' := fun _ => True) hr1 (fun _ _ => trivial)); have HB5 := Aside0.mk hb1; clear hr1 hb1)
          go_roundg gj
          case measure => omega
          case rel => exact ⟨i + 1, (by first | rfl | (congr 1; omega) | simp), ⟨by have := HII.out; omega, by have := HI.out; omega⟩, HS2, HO1, HB5⟩
        · rw [hf] at hx0 HHO HHB
          have HTX := Aside0.mk (show vint_Text.f (encPs (l.take i)) X.f2 = some (encPs (l.take (i + 1))) by
            rw [htake, show encP X = txtE X.f2 from if_pos hf]
            exact Text_spec _ _ (by omega))
          clear hig hsz hel hel2 htake h210 hf
          go_wp2_with (go_at_call 14; refine (vint_Text.calls (fun _ => True) _ _ _ _ w _ HHB.out HHO.out HTX.out).mono ?_; rintro e w5 ⟨v8, rfl, hr1, hb1, _⟩; have HO1 := Aside0.mk (Kd.R_mono (ok' := fun _ => True) hr1 (fun _ _ => trivial)); have HB5 := Aside0.mk hb1; clear hr1 hb1)
          go_roundg gj
          case measure => omega
          case rel => exact ⟨i + 1, (by first | rfl | (congr 1; omega) | simp), ⟨by have := HII.out; omega, by have := HI.out; omega⟩, HS2, HO1, HB5⟩
    · obtain rfl : i = l.length := by have := HI.out; omega
      rw [List.take_of_length_le (Nat.le_refl _)] at HS HO
      obtain ⟨A7, c7, hv⟩ := Kd.R_slice HO.out
      subst hv
      obtain ⟨Wb, hWb⟩ : ∃ Wb, Wb = wr := ⟨_, rfl⟩
      subst hWb
      have hO7 := Kd.R_reads' HO.out
      have hel := encPs_length l HS.out
      have h210 : l.length * 110 ≤ 20 * 110 := Nat.mul_le_mul (by omega) (Nat.le_refl _)
      have hxl : (encPs l).length < 1099511627776 := by omega
      have HBw := Aside0.mk HB.out
      obtain ⟨X, hX⟩ : ∃ X, X = encPs l := ⟨_, rfl⟩
      have HXB := Aside0.mk (encPs_bytes l HS.out)
      rw [← hX] at hO7 hxl HXB ⊢
      have HRC := Aside0.mk (read_calls hO7.2.2 hO7.2.1 hxl)
      have HXC := Aside0.mk hO7
      have HXL := Aside0.mk hxl
      have HX := Aside0.mk hX
      have hxlb : (X.length : Int) ≤ 2200 := by rw [hX]; omega
      clear hO7 hel h210 hxl HO HB hX
      go_wp2_with (go_at_call 15; refine HRC.out.mono ?_; rintro e w6 ⟨g, A8, c8, rfl, hg, hrd, hb1⟩; have HB6 := Aside0.mk hb1; have HG := Aside0.mk hg; have HRD := Aside0.mk (show RD w6 g X (encPs (l.take 0)).length 0 A8 c8 from hrd); clear hg hrd hb1 HRC)
      go_loopg [11, 59] (l.length + 1) (fun gk v11 v59 w' => ∃ (i p : Nat) (e : Int) (bad : Bool), v11 = .bool bad ∧ v59 = .int .i64 (i : Int) ∧ Aside0 (i ≤ l.length ∧ l.length < i + gk) ∧ Aside0 (RD w' g X p e A8 c8) ∧ Aside0 (Below Wb.heap.size Wb w') ∧ Aside0 (StOk l X i p e bad))
      case atStart => exact ⟨0, _, _, false, rfl, rfl, ⟨by omega, by omega⟩, HRD, HB6, ⟨fun _ => ⟨rfl, rfl⟩, fun h => by cases h⟩⟩
      case round =>
        clear HRD HB6
        obtain ⟨i, p, e, bad, rfl, rfl, HI, HRD, HB, HE⟩ := hrel
        obtain ⟨gj, rfl⟩ : ∃ k2, gk = k2 + 1 := ⟨gk - 1, by have := HI.out; omega⟩
        have hi0 : (0 : Int) ≤ (i : Int) := by omega
        by_cases hi : i < l.length
        · have hil : (i : Int) < (l.length : Int) := by omega
          have HII := Aside0.mk hi
          have HBL := Aside0.mk (below_then HBw.out HBw.out.size HB.out)
          obtain ⟨ad, hade, hx0, hx1, hx2⟩ := at_T39 HR.out (i : Int) hi0 hil
          obtain rfl : some ad = A := hade.symm
          replace hx0 := (HBL.out.cell (World.block_lt_of_cell? w _ hx0)).trans hx0
          replace hx1 := (HBL.out.cell (World.block_lt_of_cell? w _ hx1)).trans hx1
          replace hx2 := (HBL.out.cell (World.block_lt_of_cell? w _ hx2)).trans hx2
          rw [Int.toNat_natCast] at hx0 hx1 hx2
          have hig : l[i]? = some (rd_T39 l (i : Int)) := by
            unfold rd_T39; rw [Int.toNat_natCast, List.getD_eq_getElem?_getD, List.getElem?_eq_getElem hi]; rfl
          generalize rd_T39 l (i : Int) = Y at hx0 hx1 hx2 hig
          have hys : Y.f2.size ≤ 100 := HS.out Y (List.mem_of_getElem? hig)
          have hysb : (Y.f2.size : Int) ≤ 100 := by omega
          have hsp := encPs_split l i Y hig
          rw [← HX.out] at hsp
          have HPL := Aside0.mk (show (encPs (l.take (i + 1))).length = (encPs (l.take i)).length + (encP Y).length by rw [encPs_take l i Y hig, List.length_append])
          have HSP := Aside0.mk hsp
          have hand := nOf_and Y
          have HNL := Aside0.mk (nOf_lt Y)
          have hob : wr.heap.size ≠ g := by have := HRD.out.lt; omega
          have HOB := Aside0.mk hob
          have HBX := Aside0.mk (blk_new wr (.cells #[.bool Y.f0, .int .i64 Y.f1, .string Y.f2] 39))
          clear hig hsp hob
          have fin : ∀ (w5 : World) (p' : Nat) (e' : Int) (bad' : Bool), RD w5 g X p' e' A8 c8 → StOk l X (i + 1) p' e' bad' → Calls Try.prog 18 #[.pointer (some ⟨g, 0, none⟩)] w5 fun e1 w6 => e1 = .returned (.int .i64 (if bad' = true then 2 else 0)) ∧ Below w5.heap.size w5 w6 ∧ RD w6 g X p' e' A8 c8 := by
            intro w5 p' e' bad' hrd hE
            refine (err_calls hrd).mono ?_
            rintro e1 w6 ⟨rfl, hb⟩
            refine ⟨?_, hb, hrd.below hb⟩
            cases bad'
            · rw [(hE.1 rfl).2]; rfl
            · rw [(hE.2 rfl).1]; rfl
          have FIN := Aside0.mk fin
          clear fin
          by_cases him : i < ms.length
          · have himi : (i : Int) < (ms.length : Int) := by omega
            obtain ⟨bd, rfl, hy0⟩ := Kd.at_int HM.out (i : Int) hi0 himi
            replace hy0 := (HBL.out.cell (World.block_lt_of_cell? w _ hy0)).trans hy0
            rw [Int.toNat_natCast] at hy0
            have hy1 := ((below_alloc (Below.refl wr.heap.size wr) (.cells #[.bool Y.f0, .int .i64 Y.f1, .string Y.f2] 39)).cell (World.block_lt_of_cell? wr _ hy0)).trans hy0
            have hwf := HGM.out (rd ms (i : Int)) (by unfold rd; rw [Int.toNat_natCast, List.getD_eq_getElem?_getD, List.getElem?_eq_getElem him]; exact List.getElem_mem him)
            generalize rd ms (i : Int) = m at hy0 hy1 hwf
            have hm01 : -9223372036854775808 ≤ m ∧ m ≤ 9223372036854775807 := by simp [Lit.wf, IntKind.min, IntKind.max, IntKind.signed, IntKind.bits] at hwf; omega
            have hm0 := hm01.1
            have hm1 := hm01.2
            clear hwf hm01
            obtain ⟨mm, hmm⟩ : ∃ mm : Nat, mm = m.toNat := ⟨_, rfl⟩
            have hmx : (if 0 < m then m else 0) = (mm : Int) := by split <;> omega
            have HMM := Aside0.mk hmm
            clear hmm
            cases hf : Y.f0
            · cases bad
              · by_cases hfb : mm < nOf Y
                · have hpe := HE.out.1 rfl
                  have hpp := hpe.1
                  have hee := hpe.2
                  clear hpe
                  subst hee
                  have hfit : mm < nOf Y := by omega
                  have hR : numR X p m = (0, (encPs (l.take i)).length, 2) := by
                    have h1 := HSP.out
                    rw [show encP Y = D (nOf Y) from if_neg (by rw [hf]; decide)] at h1
                    rw [h1, hpp]
                    exact numR_big (encPs (l.take i)) (encPs (l.drop (i + 1))) (nOf Y) m (by have := HNL.out; omega) (by rw [← HMM.out]; omega)
                  have hple : p ≤ X.length := by rw [hpp, HSP.out, List.length_append]; omega
                  have HCT := Aside0.mk (fun (W : World) (hb : Below wr.heap.size wr W) => num_calls (RD.below HRD.out hb) (below_then HB.out HB.out.size hb) HG.out hple HXL.out HXB.out m hm0 hm1)
                  rw [hR] at HCT
                  have HE2 := Aside0.mk (show StOk l X (i + 1) ((encPs (l.take i)).length) 2 true from ⟨fun h => (by cases h), fun _ => ⟨rfl, by rw [← hpp]; exact hple⟩⟩)
                  clear hR hpp hple
                  rw [hf] at hx0 HBX hy1
                  have HF := Aside0.mk hf
                  clear hf
                  go_wp2_with (first
                    | (go_at_call 17; refine (HCT.out _ (below_alloc (Below.refl _ _) _)).mono ?_; rintro e w5 ⟨rfl, hrd, hb1, hk1⟩; have hbx := blk_kept HBX.out hk1 HOB.out; have hz0 : w5.cell? ⟨wr.heap.size, 0, none⟩ = some (.bool false) := (by rw [blk_cell hbx 0]; rfl); have hz1 : w5.cell? ⟨wr.heap.size, 1, none⟩ = some (.int .i64 Y.f1) := (by rw [blk_cell hbx 1]; rfl); have hz2 : w5.cell? ⟨wr.heap.size, 2, none⟩ = some (.string Y.f2) := (by rw [blk_cell hbx 2]; rfl); have HRD2 := Aside0.mk hrd; have HB5 := Aside0.mk hb1; have HFC := Aside0.mk (FIN.out w5 _ _ true hrd HE2.out); clear hrd hb1 hbx HCT hk1)
                    | (go_at_call 18; refine HFC.out.mono ?_; rintro e w6 ⟨rfl, hb2, hrd⟩; have HRD3 := Aside0.mk hrd; have HB6 := Aside0.mk (below_then HB5.out HB5.out.size hb2); clear hb2 hrd HFC HRD2 HB5))
                  go_roundg gj
                  case measure => omega
                  case rel => exact ⟨i + 1, _, _, true, rfl, (by first | rfl | (congr 1; omega) | simp), ⟨by have := HII.out; omega, by have := HI.out; omega⟩, HRD3, HB6, HE2⟩
                · have hpe := HE.out.1 rfl
                  have hpp := hpe.1
                  have hee := hpe.2
                  clear hpe
                  subst hee
                  have hfit : ¬ mm < nOf Y := by omega
                  have hR : numR X p m = (nOf Y, (encPs (l.take i)).length + (D (nOf Y)).length, 0) := by
                    have h1 := HSP.out
                    rw [show encP Y = D (nOf Y) from if_neg (by rw [hf]; decide)] at h1
                    rw [h1, hpp]
                    exact numR_at (encPs (l.take i)) (encPs (l.drop (i + 1))) (nOf Y) m (by have := HNL.out; omega) (by rw [← HMM.out]; omega)
                  have hple : p ≤ X.length := by rw [hpp, HSP.out, List.length_append]; omega
                  have HCT := Aside0.mk (fun (W : World) (hb : Below wr.heap.size wr W) => num_calls (RD.below HRD.out hb) (below_then HB.out HB.out.size hb) HG.out hple HXL.out HXB.out m hm0 hm1)
                  rw [hR] at HCT
                  have HE2 := Aside0.mk (show StOk l X (i + 1) ((encPs (l.take i)).length + (D (nOf Y)).length) 0 false from ⟨fun _ => ⟨by rw [HPL.out, show encP Y = D (nOf Y) from if_neg (by rw [hf]; decide)], rfl⟩, fun h => (by cases h)⟩)
                  clear hR hpp hple
                  rw [hf] at hx0 HBX hy1
                  have HF := Aside0.mk hf
                  clear hf
                  go_wp2_with (first
                    | (go_at_call 17; refine (HCT.out _ (below_alloc (Below.refl _ _) _)).mono ?_; rintro e w5 ⟨rfl, hrd, hb1, hk1⟩; have hbx := blk_kept HBX.out hk1 HOB.out; have hz0 : w5.cell? ⟨wr.heap.size, 0, none⟩ = some (.bool false) := (by rw [blk_cell hbx 0]; rfl); have hz1 : w5.cell? ⟨wr.heap.size, 1, none⟩ = some (.int .i64 Y.f1) := (by rw [blk_cell hbx 1]; rfl); have hz2 : w5.cell? ⟨wr.heap.size, 2, none⟩ = some (.string Y.f2) := (by rw [blk_cell hbx 2]; rfl); have HRD2 := Aside0.mk hrd; have HB5 := Aside0.mk hb1; have HFC := Aside0.mk (FIN.out w5 _ _ false hrd HE2.out); clear hrd hb1 hbx HCT hk1)
                    | (go_at_call 18; refine HFC.out.mono ?_; rintro e w6 ⟨rfl, hb2, hrd⟩; have HRD3 := Aside0.mk hrd; have HB6 := Aside0.mk (below_then HB5.out HB5.out.size hb2); clear hb2 hrd HFC HRD2 HB5))
                  go_roundg gj
                  case measure => omega
                  case rel => exact ⟨i + 1, _, _, false, rfl, (by first | rfl | (congr 1; omega) | simp), ⟨by have := HII.out; omega, by have := HI.out; omega⟩, HRD3, HB6, HE2⟩
              · have hpe := HE.out.2 rfl
                have hpp := hpe.2
                have hee := hpe.1
                clear hpe
                subst hee
                have HCT := Aside0.mk (fun (W : World) (hb : Below wr.heap.size wr W) => num_err (RD.below HRD.out hb) (by decide) m)
                have HE2 := Aside0.mk (show StOk l X (i + 1) p 2 true from ⟨fun h => (by cases h), fun _ => ⟨rfl, hpp⟩⟩)
                clear hpp
                rw [hf] at hx0 HBX hy1
                have HF := Aside0.mk hf
                clear hf
                go_wp2_with (first
                  | (go_at_call 17; refine (HCT.out _ (below_alloc (Below.refl _ _) _)).mono ?_; rintro e w5 ⟨rfl, hb0⟩; have hrd := RD.below (RD.below HRD.out (below_alloc (Below.refl _ _) _)) hb0; have hb1 := below_then (below_alloc HB.out (.cells #[.bool false, .int .i64 Y.f1, .string Y.f2] 39)) (below_size (below_alloc HB.out (.cells #[.bool false, .int .i64 Y.f1, .string Y.f2] 39))) hb0; have hbx := blk_below HBX.out hb0; have hz0 : w5.cell? ⟨wr.heap.size, 0, none⟩ = some (.bool false) := (by rw [blk_cell hbx 0]; rfl); have hz1 : w5.cell? ⟨wr.heap.size, 1, none⟩ = some (.int .i64 Y.f1) := (by rw [blk_cell hbx 1]; rfl); have hz2 : w5.cell? ⟨wr.heap.size, 2, none⟩ = some (.string Y.f2) := (by rw [blk_cell hbx 2]; rfl); have HRD2 := Aside0.mk hrd; have HB5 := Aside0.mk hb1; have HFC := Aside0.mk (FIN.out w5 _ _ true hrd HE2.out); clear hrd hb1 hbx HCT hb0)
                  | (go_at_call 18; refine HFC.out.mono ?_; rintro e w6 ⟨rfl, hb2, hrd⟩; have HRD3 := Aside0.mk hrd; have HB6 := Aside0.mk (below_then HB5.out HB5.out.size hb2); clear hb2 hrd HFC HRD2 HB5))
                go_roundg gj
                case measure => omega
                case rel => exact ⟨i + 1, _, _, true, rfl, (by first | rfl | (congr 1; omega) | simp), ⟨by have := HII.out; omega, by have := HI.out; omega⟩, HRD3, HB6, HE2⟩
            · cases bad
              · by_cases hfb : mm < Y.f2.size
                · have hpe := HE.out.1 rfl
                  have hpp := hpe.1
                  have hee := hpe.2
                  clear hpe
                  subst hee
                  have hfit : mm < Y.f2.size := by omega
                  have hR : textR X p m = (⟨#[]⟩, (encPs (l.take i)).length, 2) := by
                    have h1 := HSP.out
                    rw [show encP Y = txtE Y.f2 from if_pos hf] at h1
                    rw [h1, hpp]
                    exact textR_big (encPs (l.take i)) (encPs (l.drop (i + 1))) Y.f2 m (by have := HNL.out; omega) (by rw [← HMM.out]; omega)
                  have hple : p ≤ X.length := by rw [hpp, HSP.out, List.length_append]; omega
                  have HCT := Aside0.mk (fun (W : World) (hb : Below wr.heap.size wr W) => text_calls (RD.below HRD.out hb) (below_then HB.out HB.out.size hb) HG.out hple HXL.out HXB.out m hm0 hm1)
                  rw [hR] at HCT
                  have HE2 := Aside0.mk (show StOk l X (i + 1) ((encPs (l.take i)).length) 2 true from ⟨fun h => (by cases h), fun _ => ⟨rfl, by rw [← hpp]; exact hple⟩⟩)
                  clear hR hpp hple
                  rw [hf] at hx0 HBX hy1
                  have HF := Aside0.mk hf
                  clear hf
                  go_wp2_with (first
                    | (go_at_call 16; refine (HCT.out _ (below_alloc (Below.refl _ _) _)).mono ?_; rintro e w5 ⟨rfl, hrd, hb1, hk1⟩; have hbx := blk_kept HBX.out hk1 HOB.out; have hz0 : w5.cell? ⟨wr.heap.size, 0, none⟩ = some (.bool true) := (by rw [blk_cell hbx 0]; rfl); have hz1 : w5.cell? ⟨wr.heap.size, 1, none⟩ = some (.int .i64 Y.f1) := (by rw [blk_cell hbx 1]; rfl); have hz2 : w5.cell? ⟨wr.heap.size, 2, none⟩ = some (.string Y.f2) := (by rw [blk_cell hbx 2]; rfl); have HRD2 := Aside0.mk hrd; have HB5 := Aside0.mk hb1; have HFC := Aside0.mk (FIN.out w5 _ _ true hrd HE2.out); clear hrd hb1 hbx HCT hk1)
                    | (go_at_call 18; refine HFC.out.mono ?_; rintro e w6 ⟨rfl, hb2, hrd⟩; have HRD3 := Aside0.mk hrd; have HB6 := Aside0.mk (below_then HB5.out HB5.out.size hb2); clear hb2 hrd HFC HRD2 HB5))
                  go_roundg gj
                  case measure => omega
                  case rel => exact ⟨i + 1, _, _, true, rfl, (by first | rfl | (congr 1; omega) | simp), ⟨by have := HII.out; omega, by have := HI.out; omega⟩, HRD3, HB6, HE2⟩
                · have hpe := HE.out.1 rfl
                  have hpp := hpe.1
                  have hee := hpe.2
                  clear hpe
                  subst hee
                  have hfit : ¬ mm < Y.f2.size := by omega
                  have hR : textR X p m = (Y.f2, (encPs (l.take i)).length + (txtE Y.f2).length, 0) := by
                    have h1 := HSP.out
                    rw [show encP Y = txtE Y.f2 from if_pos hf] at h1
                    rw [h1, hpp]
                    exact textR_at (encPs (l.take i)) (encPs (l.drop (i + 1))) Y.f2 m (by have := HNL.out; omega) (by rw [← HMM.out]; omega)
                  have hple : p ≤ X.length := by rw [hpp, HSP.out, List.length_append]; omega
                  have HCT := Aside0.mk (fun (W : World) (hb : Below wr.heap.size wr W) => text_calls (RD.below HRD.out hb) (below_then HB.out HB.out.size hb) HG.out hple HXL.out HXB.out m hm0 hm1)
                  rw [hR] at HCT
                  have HE2 := Aside0.mk (show StOk l X (i + 1) ((encPs (l.take i)).length + (txtE Y.f2).length) 0 false from ⟨fun _ => ⟨by rw [HPL.out, show encP Y = txtE Y.f2 from if_pos hf], rfl⟩, fun h => (by cases h)⟩)
                  clear hR hpp hple
                  rw [hf] at hx0 HBX hy1
                  have HF := Aside0.mk hf
                  clear hf
                  go_wp2_with (first
                    | (go_at_call 16; refine (HCT.out _ (below_alloc (Below.refl _ _) _)).mono ?_; rintro e w5 ⟨rfl, hrd, hb1, hk1⟩; have hbx := blk_kept HBX.out hk1 HOB.out; have hz0 : w5.cell? ⟨wr.heap.size, 0, none⟩ = some (.bool true) := (by rw [blk_cell hbx 0]; rfl); have hz1 : w5.cell? ⟨wr.heap.size, 1, none⟩ = some (.int .i64 Y.f1) := (by rw [blk_cell hbx 1]; rfl); have hz2 : w5.cell? ⟨wr.heap.size, 2, none⟩ = some (.string Y.f2) := (by rw [blk_cell hbx 2]; rfl); have HRD2 := Aside0.mk hrd; have HB5 := Aside0.mk hb1; have HFC := Aside0.mk (FIN.out w5 _ _ false hrd HE2.out); clear hrd hb1 hbx HCT hk1)
                    | (go_at_call 18; refine HFC.out.mono ?_; rintro e w6 ⟨rfl, hb2, hrd⟩; have HRD3 := Aside0.mk hrd; have HB6 := Aside0.mk (below_then HB5.out HB5.out.size hb2); clear hb2 hrd HFC HRD2 HB5))
                  go_roundg gj
                  case measure => omega
                  case rel => exact ⟨i + 1, _, _, false, rfl, (by first | rfl | (congr 1; omega) | simp), ⟨by have := HII.out; omega, by have := HI.out; omega⟩, HRD3, HB6, HE2⟩
              · have hpe := HE.out.2 rfl
                have hpp := hpe.2
                have hee := hpe.1
                clear hpe
                subst hee
                have HCT := Aside0.mk (fun (W : World) (hb : Below wr.heap.size wr W) => text_err (RD.below HRD.out hb) (below_then HB.out HB.out.size hb) HG.out m)
                have HE2 := Aside0.mk (show StOk l X (i + 1) p 2 true from ⟨fun h => (by cases h), fun _ => ⟨rfl, hpp⟩⟩)
                clear hpp
                rw [hf] at hx0 HBX hy1
                have HF := Aside0.mk hf
                clear hf
                go_wp2_with (first
                  | (go_at_call 16; refine (HCT.out _ (below_alloc (Below.refl _ _) _)).mono ?_; rintro e w5 ⟨rfl, hrd, hb1, hk1⟩; have hbx := blk_kept HBX.out hk1 HOB.out; have hz0 : w5.cell? ⟨wr.heap.size, 0, none⟩ = some (.bool true) := (by rw [blk_cell hbx 0]; rfl); have hz1 : w5.cell? ⟨wr.heap.size, 1, none⟩ = some (.int .i64 Y.f1) := (by rw [blk_cell hbx 1]; rfl); have hz2 : w5.cell? ⟨wr.heap.size, 2, none⟩ = some (.string Y.f2) := (by rw [blk_cell hbx 2]; rfl); have HRD2 := Aside0.mk hrd; have HB5 := Aside0.mk hb1; have HFC := Aside0.mk (FIN.out w5 _ _ true hrd HE2.out); clear hrd hb1 hbx HCT hk1)
                  | (go_at_call 18; refine HFC.out.mono ?_; rintro e w6 ⟨rfl, hb2, hrd⟩; have HRD3 := Aside0.mk hrd; have HB6 := Aside0.mk (below_then HB5.out HB5.out.size hb2); clear hb2 hrd HFC HRD2 HB5))
                go_roundg gj
                case measure => omega
                case rel => exact ⟨i + 1, _, _, true, rfl, (by first | rfl | (congr 1; omega) | simp), ⟨by have := HII.out; omega, by have := HI.out; omega⟩, HRD3, HB6, HE2⟩
          · have himi : ¬ (i : Int) < (ms.length : Int) := by omega
            obtain ⟨m, hmdef⟩ : ∃ m : Int, m = 1073741824 := ⟨_, rfl⟩
            have hm0 : -9223372036854775808 ≤ m := by omega
            have hm1 : m ≤ 9223372036854775807 := by omega
            obtain ⟨mm, hmm⟩ : ∃ mm : Nat, mm = m.toNat := ⟨_, rfl⟩
            have hmx : (if 0 < m then m else 0) = (mm : Int) := by split <;> omega
            have HMM := Aside0.mk hmm
            clear hmm
            have hmmv : mm = 1073741824 := by have := HMM.out; omega
            subst hmdef
            subst hmmv
            clear hmx
            cases hf : Y.f0
            · cases bad
              · by_cases hfb : 1073741824 < nOf Y
                · exfalso; have := HNL.out; omega
                · have hpe := HE.out.1 rfl
                  have hpp := hpe.1
                  have hee := hpe.2
                  clear hpe
                  subst hee
                  have hfit : ¬ 1073741824 < nOf Y := by omega
                  have hR : numR X p 1073741824 = (nOf Y, (encPs (l.take i)).length + (D (nOf Y)).length, 0) := by
                    have h1 := HSP.out
                    rw [show encP Y = D (nOf Y) from if_neg (by rw [hf]; decide)] at h1
                    rw [h1, hpp]
                    exact numR_at (encPs (l.take i)) (encPs (l.drop (i + 1))) (nOf Y) 1073741824 (by have := HNL.out; omega) (by rw [← HMM.out]; omega)
                  have hple : p ≤ X.length := by rw [hpp, HSP.out, List.length_append]; omega
                  have HCT := Aside0.mk (fun (W : World) (hb : Below wr.heap.size wr W) => num_calls (RD.below HRD.out hb) (below_then HB.out HB.out.size hb) HG.out hple HXL.out HXB.out 1073741824 hm0 hm1)
                  rw [hR] at HCT
                  have HE2 := Aside0.mk (show StOk l X (i + 1) ((encPs (l.take i)).length + (D (nOf Y)).length) 0 false from ⟨fun _ => ⟨by rw [HPL.out, show encP Y = D (nOf Y) from if_neg (by rw [hf]; decide)], rfl⟩, fun h => (by cases h)⟩)
                  clear hR hpp hple
                  rw [hf] at hx0 HBX
                  have HF := Aside0.mk hf
                  clear hf
                  go_wp2_with (first
                    | (go_at_call 17; refine (HCT.out _ (below_alloc (Below.refl _ _) _)).mono ?_; rintro e w5 ⟨rfl, hrd, hb1, hk1⟩; have hbx := blk_kept HBX.out hk1 HOB.out; have hz0 : w5.cell? ⟨wr.heap.size, 0, none⟩ = some (.bool false) := (by rw [blk_cell hbx 0]; rfl); have hz1 : w5.cell? ⟨wr.heap.size, 1, none⟩ = some (.int .i64 Y.f1) := (by rw [blk_cell hbx 1]; rfl); have hz2 : w5.cell? ⟨wr.heap.size, 2, none⟩ = some (.string Y.f2) := (by rw [blk_cell hbx 2]; rfl); have HRD2 := Aside0.mk hrd; have HB5 := Aside0.mk hb1; have HFC := Aside0.mk (FIN.out w5 _ _ false hrd HE2.out); clear hrd hb1 hbx HCT hk1)
                    | (go_at_call 18; refine HFC.out.mono ?_; rintro e w6 ⟨rfl, hb2, hrd⟩; have HRD3 := Aside0.mk hrd; have HB6 := Aside0.mk (below_then HB5.out HB5.out.size hb2); clear hb2 hrd HFC HRD2 HB5))
                  go_roundg gj
                  case measure => omega
                  case rel => exact ⟨i + 1, _, _, false, rfl, (by first | rfl | (congr 1; omega) | simp), ⟨by have := HII.out; omega, by have := HI.out; omega⟩, HRD3, HB6, HE2⟩
              · have hpe := HE.out.2 rfl
                have hpp := hpe.2
                have hee := hpe.1
                clear hpe
                subst hee
                have HCT := Aside0.mk (fun (W : World) (hb : Below wr.heap.size wr W) => num_err (RD.below HRD.out hb) (by decide) 1073741824)
                have HE2 := Aside0.mk (show StOk l X (i + 1) p 2 true from ⟨fun h => (by cases h), fun _ => ⟨rfl, hpp⟩⟩)
                clear hpp
                rw [hf] at hx0 HBX
                have HF := Aside0.mk hf
                clear hf
                go_wp2_with (first
                  | (go_at_call 17; refine (HCT.out _ (below_alloc (Below.refl _ _) _)).mono ?_; rintro e w5 ⟨rfl, hb0⟩; have hrd := RD.below (RD.below HRD.out (below_alloc (Below.refl _ _) _)) hb0; have hb1 := below_then (below_alloc HB.out (.cells #[.bool false, .int .i64 Y.f1, .string Y.f2] 39)) (below_size (below_alloc HB.out (.cells #[.bool false, .int .i64 Y.f1, .string Y.f2] 39))) hb0; have hbx := blk_below HBX.out hb0; have hz0 : w5.cell? ⟨wr.heap.size, 0, none⟩ = some (.bool false) := (by rw [blk_cell hbx 0]; rfl); have hz1 : w5.cell? ⟨wr.heap.size, 1, none⟩ = some (.int .i64 Y.f1) := (by rw [blk_cell hbx 1]; rfl); have hz2 : w5.cell? ⟨wr.heap.size, 2, none⟩ = some (.string Y.f2) := (by rw [blk_cell hbx 2]; rfl); have HRD2 := Aside0.mk hrd; have HB5 := Aside0.mk hb1; have HFC := Aside0.mk (FIN.out w5 _ _ true hrd HE2.out); clear hrd hb1 hbx HCT hb0)
                  | (go_at_call 18; refine HFC.out.mono ?_; rintro e w6 ⟨rfl, hb2, hrd⟩; have HRD3 := Aside0.mk hrd; have HB6 := Aside0.mk (below_then HB5.out HB5.out.size hb2); clear hb2 hrd HFC HRD2 HB5))
                go_roundg gj
                case measure => omega
                case rel => exact ⟨i + 1, _, _, true, rfl, (by first | rfl | (congr 1; omega) | simp), ⟨by have := HII.out; omega, by have := HI.out; omega⟩, HRD3, HB6, HE2⟩
            · cases bad
              · by_cases hfb : 1073741824 < Y.f2.size
                · exfalso; have := HNL.out; omega
                · have hpe := HE.out.1 rfl
                  have hpp := hpe.1
                  have hee := hpe.2
                  clear hpe
                  subst hee
                  have hfit : ¬ 1073741824 < Y.f2.size := by omega
                  have hR : textR X p 1073741824 = (Y.f2, (encPs (l.take i)).length + (txtE Y.f2).length, 0) := by
                    have h1 := HSP.out
                    rw [show encP Y = txtE Y.f2 from if_pos hf] at h1
                    rw [h1, hpp]
                    exact textR_at (encPs (l.take i)) (encPs (l.drop (i + 1))) Y.f2 1073741824 (by have := HNL.out; omega) (by rw [← HMM.out]; omega)
                  have hple : p ≤ X.length := by rw [hpp, HSP.out, List.length_append]; omega
                  have HCT := Aside0.mk (fun (W : World) (hb : Below wr.heap.size wr W) => text_calls (RD.below HRD.out hb) (below_then HB.out HB.out.size hb) HG.out hple HXL.out HXB.out 1073741824 hm0 hm1)
                  rw [hR] at HCT
                  have HE2 := Aside0.mk (show StOk l X (i + 1) ((encPs (l.take i)).length + (txtE Y.f2).length) 0 false from ⟨fun _ => ⟨by rw [HPL.out, show encP Y = txtE Y.f2 from if_pos hf], rfl⟩, fun h => (by cases h)⟩)
                  clear hR hpp hple
                  rw [hf] at hx0 HBX
                  have HF := Aside0.mk hf
                  clear hf
                  go_wp2_with (first
                    | (go_at_call 16; refine (HCT.out _ (below_alloc (Below.refl _ _) _)).mono ?_; rintro e w5 ⟨rfl, hrd, hb1, hk1⟩; have hbx := blk_kept HBX.out hk1 HOB.out; have hz0 : w5.cell? ⟨wr.heap.size, 0, none⟩ = some (.bool true) := (by rw [blk_cell hbx 0]; rfl); have hz1 : w5.cell? ⟨wr.heap.size, 1, none⟩ = some (.int .i64 Y.f1) := (by rw [blk_cell hbx 1]; rfl); have hz2 : w5.cell? ⟨wr.heap.size, 2, none⟩ = some (.string Y.f2) := (by rw [blk_cell hbx 2]; rfl); have HRD2 := Aside0.mk hrd; have HB5 := Aside0.mk hb1; have HFC := Aside0.mk (FIN.out w5 _ _ false hrd HE2.out); clear hrd hb1 hbx HCT hk1)
                    | (go_at_call 18; refine HFC.out.mono ?_; rintro e w6 ⟨rfl, hb2, hrd⟩; have HRD3 := Aside0.mk hrd; have HB6 := Aside0.mk (below_then HB5.out HB5.out.size hb2); clear hb2 hrd HFC HRD2 HB5))
                  go_roundg gj
                  case measure => omega
                  case rel => exact ⟨i + 1, _, _, false, rfl, (by first | rfl | (congr 1; omega) | simp), ⟨by have := HII.out; omega, by have := HI.out; omega⟩, HRD3, HB6, HE2⟩
              · have hpe := HE.out.2 rfl
                have hpp := hpe.2
                have hee := hpe.1
                clear hpe
                subst hee
                have HCT := Aside0.mk (fun (W : World) (hb : Below wr.heap.size wr W) => text_err (RD.below HRD.out hb) (below_then HB.out HB.out.size hb) HG.out 1073741824)
                have HE2 := Aside0.mk (show StOk l X (i + 1) p 2 true from ⟨fun h => (by cases h), fun _ => ⟨rfl, hpp⟩⟩)
                clear hpp
                rw [hf] at hx0 HBX
                have HF := Aside0.mk hf
                clear hf
                go_wp2_with (first
                  | (go_at_call 16; refine (HCT.out _ (below_alloc (Below.refl _ _) _)).mono ?_; rintro e w5 ⟨rfl, hrd, hb1, hk1⟩; have hbx := blk_kept HBX.out hk1 HOB.out; have hz0 : w5.cell? ⟨wr.heap.size, 0, none⟩ = some (.bool true) := (by rw [blk_cell hbx 0]; rfl); have hz1 : w5.cell? ⟨wr.heap.size, 1, none⟩ = some (.int .i64 Y.f1) := (by rw [blk_cell hbx 1]; rfl); have hz2 : w5.cell? ⟨wr.heap.size, 2, none⟩ = some (.string Y.f2) := (by rw [blk_cell hbx 2]; rfl); have HRD2 := Aside0.mk hrd; have HB5 := Aside0.mk hb1; have HFC := Aside0.mk (FIN.out w5 _ _ true hrd HE2.out); clear hrd hb1 hbx HCT hk1)
                  | (go_at_call 18; refine HFC.out.mono ?_; rintro e w6 ⟨rfl, hb2, hrd⟩; have HRD3 := Aside0.mk hrd; have HB6 := Aside0.mk (below_then HB5.out HB5.out.size hb2); clear hb2 hrd HFC HRD2 HB5))
                go_roundg gj
                case measure => omega
                case rel => exact ⟨i + 1, _, _, true, rfl, (by first | rfl | (congr 1; omega) | simp), ⟨by have := HII.out; omega, by have := HI.out; omega⟩, HRD3, HB6, HE2⟩
        · obtain rfl : i = l.length := by have := HI.out; omega
          have hst := HE.out
          have hple : p ≤ X.length := by
            rcases Bool.eq_false_or_eq_true bad with hbd | hbd
            · exact (hst.2 hbd).2
            · rw [(hst.1 hbd).1, List.take_of_length_le (Nat.le_refl _), ← HX.out]; exact Nat.le_refl _
          have hee : e = 0 ∨ e = 2 := by
            rcases Bool.eq_false_or_eq_true bad with hbd | hbd
            · exact .inr (hst.2 hbd).1
            · exact .inl (hst.1 hbd).2
          have HEN := Aside0.mk (fun (W : World) (hb : Below wr.heap.size wr W) => end_calls (RD.below HRD.out hb) hple HXL.out hee)
          have HLF := Aside0.mk (fun (W : World) (hb : Below wr.heap.size wr W) => left_calls (RD.below HRD.out hb) hple HXL.out)
          obtain ⟨k, hk, hkle⟩ : ∃ k : Nat, (bits .and .i64 cut 255).tmod ((X.length : Int) + 1) = (k : Int) ∧ k ≤ X.length := by
            have e1 : bits .and .i64 cut 255 = (((cut % 256).toNat : Nat) : Int) := by rw [and255]; omega
            refine ⟨(cut % 256).toNat % (X.length + 1), ?_, by have := Nat.mod_lt (cut % 256).toNat (show 0 < X.length + 1 by omega); omega⟩
            rw [e1]
            rfl
          have hk0 : (0 : Int) ≤ (k : Int) := by omega
          have hkl : (k : Int) ≤ (X.length : Int) := by omega
          have hkc : (k : Int) ≤ (c7 : Int) := by have := HXC.out.2.1; omega
          have HKL := Aside0.mk hkle
          have HRQ := Aside0.mk (fun (W : World) (hb : Below Wb.heap.size Wb W) => by
            have h1 := Kd.C_take (m := k) (Kd.C_below HXC.out.2.2 hb) hkle
            have h2 : (X.take k).length = k := by rw [List.length_take]; omega
            have h3 := read_calls (c := c7) h1 (by rw [h2]; have := HXC.out.2.1; omega) (by rw [h2]; have := HXL.out; omega)
            rw [h2] at h3
            exact h3)
          have hkk : k ≤ X.length := hkle
          clear hkle hple hee hkk
          cases bad
          · obtain ⟨rfl, rfl⟩ := hst.1 rfl
            rw [List.take_of_length_le (Nat.le_refl _), ← HX.out] at HEN HLF HRD
            rw [show endR X X.length 0 = 0 from if_neg (fun h2 => absurd h2.2 (Nat.lt_irrefl _))] at HEN
            rw [show (X.length : Int) - (X.length : Int) = 0 by omega] at HLF
            clear hst HE
            go_wp2_with (first
              | (go_at_call 19; refine (HEN.out _ (Below.refl _ _)).mono ?_; rintro e w7 ⟨rfl, hb⟩; have HW7 := Aside0.mk hb; clear hb HEN)
              | (go_at_call 20; refine (HLF.out _ HW7.out).mono ?_; rintro e w8 ⟨rfl, hb⟩; have HB8 := Aside0.mk (below_then HB.out HB.out.size (below_then HW7.out HW7.out.size hb)); clear hb HLF HW7)
              | (go_at_call 15; refine (HRQ.out _ HB8.out).mono ?_; rintro e w9 ⟨g2, A9, c9, rfl, hg, hrd, hb1⟩; have HQD := Aside0.mk hrd; have HBQ := Aside0.mk (below_then HB8.out (Below.size HB8.out) hb1); have HG2 := Aside0.mk (Nat.le_trans (Below.size HB8.out) hg); clear hg hrd hb1 HRQ))
            clear HRD
            go_loopg [167] (l.length + 1) (fun gk v167 w' => ∃ (i p : Nat) (e : Int), v167 = .int .i64 (i : Int) ∧ Aside0 (i ≤ l.length ∧ l.length < i + gk) ∧ Aside0 (RD w' g2 (X.take k) p e A9 c9) ∧ Aside0 (Below Wb.heap.size Wb w') ∧ Aside0 (QOk l X k i p e))
            case atStart => exact ⟨0, 0, 0, rfl, ⟨by omega, by omega⟩, HQD, HBQ, ⟨QOk.start l X k⟩⟩
            case round =>
              clear HQD HBQ
              obtain ⟨i, p, e, rfl, HI, HRD, HB, HE⟩ := hrel
              obtain ⟨gj, rfl⟩ : ∃ k2, gk = k2 + 1 := ⟨gk - 1, by have := HI.out; omega⟩
              have hi0 : (0 : Int) ≤ (i : Int) := by omega
              have HLT := Aside0.mk (show (X.take k).length = k by rw [List.length_take]; have := HKL.out; omega)
              have hple : p ≤ (X.take k).length := by rw [HLT.out]; exact HE.out.le
              have HBT := Aside0.mk (show Bytes (X.take k) from fun x hx => HXB.out x (List.mem_of_mem_take hx))
              have HXT := Aside0.mk (show (X.take k).length < 1099511627776 by rw [HLT.out]; have := HXL.out; have := HKL.out; omega)
              by_cases hi : i < l.length
              · have hil : (i : Int) < (l.length : Int) := by omega
                have HII := Aside0.mk hi
                have HBL := Aside0.mk (below_then HBw.out HBw.out.size HB.out)
                obtain ⟨ad, hade, hx0, hx1, hx2⟩ := at_T39 HR.out (i : Int) hi0 hil
                obtain rfl : some ad = A := hade.symm
                replace hx0 := (HBL.out.cell (World.block_lt_of_cell? w _ hx0)).trans hx0
                replace hx1 := (HBL.out.cell (World.block_lt_of_cell? w _ hx1)).trans hx1
                replace hx2 := (HBL.out.cell (World.block_lt_of_cell? w _ hx2)).trans hx2
                rw [Int.toNat_natCast] at hx0 hx1 hx2
                have hig : l[i]? = some (rd_T39 l (i : Int)) := by
                  unfold rd_T39; rw [Int.toNat_natCast, List.getD_eq_getElem?_getD, List.getElem?_eq_getElem hi]; rfl
                generalize rd_T39 l (i : Int) = Y at hx0 hx1 hx2 hig
                have hys : Y.f2.size ≤ 100 := HS.out Y (List.mem_of_getElem? hig)
                have HIG := Aside0.mk hig
                have HYS := Aside0.mk hys
                clear hig hys
                rcases HE.out.e with he | he
                · subst he
                  cases hf : Y.f0
                  · have HQ := Aside0.mk (q_num l X k i p Y HX.out HIG.out hf HE.out)
                    have HCT := Aside0.mk (fun (W : World) (hb : Below wr.heap.size wr W) => num_calls (RD.below HRD.out hb) (below_then HB.out HB.out.size hb) HG2.out hple HXT.out HBT.out 1073741824 (by decide) (by decide))
                    generalize numR (X.take k) p 1073741824 = R at HQ HCT
                    rw [hf] at hx0
                    clear hple hf
                    go_wp2_with (go_at_call 17; refine (HCT.out _ (below_alloc (Below.refl _ _) _)).mono ?_; rintro e w5 ⟨rfl, hrd, hb1, hk1⟩; have HRD2 := Aside0.mk hrd; have HB5 := Aside0.mk hb1; clear hrd hb1 hk1 HCT)
                    go_roundg gj
                    case measure => omega
                    case rel => exact ⟨i + 1, _, _, (by first | rfl | (congr 1; omega) | simp), ⟨by have := HII.out; omega, by have := HI.out; omega⟩, HRD2, HB5, HQ⟩
                  · have HQ := Aside0.mk (q_text l X k i p Y HX.out HXB.out HIG.out hf HYS.out HKL.out HE.out)
                    have HCT := Aside0.mk (fun (W : World) (hb : Below wr.heap.size wr W) => text_calls (RD.below HRD.out hb) (below_then HB.out HB.out.size hb) HG2.out hple HXT.out HBT.out 1073741824 (by decide) (by decide))
                    generalize textR (X.take k) p 1073741824 = R at HQ HCT
                    rw [hf] at hx0
                    clear hple hf
                    go_wp2_with (go_at_call 16; refine (HCT.out _ (below_alloc (Below.refl _ _) _)).mono ?_; rintro e w5 ⟨rfl, hrd, hb1, hk1⟩; have HRD2 := Aside0.mk hrd; have HB5 := Aside0.mk hb1; clear hrd hb1 hk1 HCT)
                    go_roundg gj
                    case measure => omega
                    case rel => exact ⟨i + 1, _, _, (by first | rfl | (congr 1; omega) | simp), ⟨by have := HII.out; omega, by have := HI.out; omega⟩, HRD2, HB5, HQ⟩
                · subst he
                  cases hf : Y.f0
                  · have HCT := Aside0.mk (fun (W : World) (hb : Below wr.heap.size wr W) => num_err (RD.below HRD.out hb) (by decide) 1073741824)
                    rw [hf] at hx0
                    clear hple hf
                    go_wp2_with (go_at_call 17; refine (HCT.out _ (below_alloc (Below.refl _ _) _)).mono ?_; rintro e w5 ⟨rfl, hb0⟩; have HRD2 := Aside0.mk (RD.below (RD.below HRD.out (below_alloc (Below.refl _ _) _)) hb0); have HB5 := Aside0.mk (below_then (below_alloc HB.out (.cells #[.bool false, .int .i64 Y.f1, .string Y.f2] 39)) (below_size (below_alloc HB.out (.cells #[.bool false, .int .i64 Y.f1, .string Y.f2] 39))) hb0); clear hb0 HCT)
                    go_roundg gj
                    case measure => omega
                    case rel => exact ⟨i + 1, p, 2, (by first | rfl | (congr 1; omega) | simp), ⟨by have := HII.out; omega, by have := HI.out; omega⟩, HRD2, HB5, ⟨HE.out.err (i + 1)⟩⟩
                  · have HCT := Aside0.mk (fun (W : World) (hb : Below wr.heap.size wr W) => text_err (RD.below HRD.out hb) (below_then HB.out HB.out.size hb) HG2.out 1073741824)
                    rw [hf] at hx0
                    clear hple hf
                    go_wp2_with (go_at_call 16; refine (HCT.out _ (below_alloc (Below.refl _ _) _)).mono ?_; rintro e w5 ⟨rfl, hrd, hb1, hk1⟩; have HRD2 := Aside0.mk hrd; have HB5 := Aside0.mk hb1; clear hrd hb1 hk1 HCT)
                    go_roundg gj
                    case measure => omega
                    case rel => exact ⟨i + 1, p, 2, (by first | rfl | (congr 1; omega) | simp), ⟨by have := HII.out; omega, by have := HI.out; omega⟩, HRD2, HB5, ⟨HE.out.err (i + 1)⟩⟩
              · obtain rfl : i = l.length := by have := HI.out; omega
                have HEQ := Aside0.mk (fun (W : World) (hb : Below wr.heap.size wr W) => err_calls (RD.below HRD.out hb))
                have HNN := Aside0.mk (fun (W : World) => num_nil (w := W) 5)
                have HTN := Aside0.mk (fun (W : World) => text_nil (w := W) 5)
                have HLN := Aside0.mk (fun (W : World) => left_nil (w := W))
                have HEN := Aside0.mk (fun (W : World) => err_nil (w := W))
                have HDN := Aside0.mk (fun (W : World) => end_nil (w := W))
                have HBL := Aside0.mk (below_then HBw.out HBw.out.size HB.out)
                clear hple
                rcases HE.out.all HX.out HKL.out with ⟨he, hke⟩ | ⟨he, hke⟩
                · subst he
                  go_wp2_with (first
                    | (go_at_call 18; refine (HEQ.out _ (Below.refl _ _)).mono ?_; rintro e w7 ⟨rfl, hb⟩; have HB7 := Aside0.mk (below_then HBL.out HBL.out.size hb); clear hb HEQ)
                    | (go_at_call 17; refine (HNN.out _).mono ?_; rintro e w8 ⟨rfl, hb⟩; have HB8 := Aside0.mk (below_then HB7.out HB7.out.size hb); clear hb HNN)
                    | (go_at_call 16; refine (HTN.out _).mono ?_; rintro e w9 ⟨rfl, hb⟩; have HB9 := Aside0.mk (below_then HB8.out HB8.out.size hb); clear hb HTN)
                    | (go_at_call 20; refine (HLN.out _).mono ?_; rintro e w10 ⟨rfl, hb⟩; have HB10 := Aside0.mk (below_then HB9.out HB9.out.size hb); clear hb HLN)
                    | (go_at_call 18; refine (HEN.out _).mono ?_; rintro e w11 ⟨rfl, hb⟩; have HB11 := Aside0.mk (below_then HB10.out HB10.out.size hb); clear hb HEN)
                    | (go_at_call 19; refine (HDN.out _).mono ?_; rintro e w12 ⟨rfl, hb⟩; have HB12 := Aside0.mk (below_then HB11.out HB11.out.size hb); clear hb HDN))
                  go_ret
                  exact ⟨rfl, HB12.out⟩
                · subst he
                  have hke2 : ((k : Int) == (X.length : Int)) = false := beq_eq_false_iff_ne.mpr (by omega)
                  go_wp2_with (first
                    | (go_at_call 18; refine (HEQ.out _ (Below.refl _ _)).mono ?_; rintro e w7 ⟨rfl, hb⟩; have HB7 := Aside0.mk (below_then HBL.out HBL.out.size hb); clear hb HEQ)
                    | (go_at_call 17; refine (HNN.out _).mono ?_; rintro e w8 ⟨rfl, hb⟩; have HB8 := Aside0.mk (below_then HB7.out HB7.out.size hb); clear hb HNN)
                    | (go_at_call 16; refine (HTN.out _).mono ?_; rintro e w9 ⟨rfl, hb⟩; have HB9 := Aside0.mk (below_then HB8.out HB8.out.size hb); clear hb HTN)
                    | (go_at_call 20; refine (HLN.out _).mono ?_; rintro e w10 ⟨rfl, hb⟩; have HB10 := Aside0.mk (below_then HB9.out HB9.out.size hb); clear hb HLN)
                    | (go_at_call 18; refine (HEN.out _).mono ?_; rintro e w11 ⟨rfl, hb⟩; have HB11 := Aside0.mk (below_then HB10.out HB10.out.size hb); clear hb HEN)
                    | (go_at_call 19; refine (HDN.out _).mono ?_; rintro e w12 ⟨rfl, hb⟩; have HB12 := Aside0.mk (below_then HB11.out HB11.out.size hb); clear hb HDN))
                  go_ret
                  exact ⟨rfl, HB12.out⟩
          · obtain ⟨rfl, hpl⟩ := hst.2 rfl
            rw [show endR X p 2 = 2 from if_neg (fun h2 => absurd h2.1 (by decide))] at HEN
            clear hst HE hpl HLF
            go_wp2_with (first
              | (go_at_call 19; refine (HEN.out _ (Below.refl _ _)).mono ?_; rintro e w7 ⟨rfl, hb⟩; have HB8 := Aside0.mk (below_then HB.out HB.out.size hb); clear hb HEN)
              | (go_at_call 15; refine (HRQ.out _ HB8.out).mono ?_; rintro e w9 ⟨g2, A9, c9, rfl, hg, hrd, hb1⟩; have HQD := Aside0.mk hrd; have HBQ := Aside0.mk (below_then HB8.out (Below.size HB8.out) hb1); have HG2 := Aside0.mk (Nat.le_trans (Below.size HB8.out) hg); clear hg hrd hb1 HRQ))
            clear HRD
            go_loopg [167] (l.length + 1) (fun gk v167 w' => ∃ (i p : Nat) (e : Int), v167 = .int .i64 (i : Int) ∧ Aside0 (i ≤ l.length ∧ l.length < i + gk) ∧ Aside0 (RD w' g2 (X.take k) p e A9 c9) ∧ Aside0 (Below Wb.heap.size Wb w') ∧ Aside0 (QOk l X k i p e))
            case atStart => exact ⟨0, 0, 0, rfl, ⟨by omega, by omega⟩, HQD, HBQ, ⟨QOk.start l X k⟩⟩
            case round =>
              clear HQD HBQ
              obtain ⟨i, p, e, rfl, HI, HRD, HB, HE⟩ := hrel
              obtain ⟨gj, rfl⟩ : ∃ k2, gk = k2 + 1 := ⟨gk - 1, by have := HI.out; omega⟩
              have hi0 : (0 : Int) ≤ (i : Int) := by omega
              have HLT := Aside0.mk (show (X.take k).length = k by rw [List.length_take]; have := HKL.out; omega)
              have hple : p ≤ (X.take k).length := by rw [HLT.out]; exact HE.out.le
              have HBT := Aside0.mk (show Bytes (X.take k) from fun x hx => HXB.out x (List.mem_of_mem_take hx))
              have HXT := Aside0.mk (show (X.take k).length < 1099511627776 by rw [HLT.out]; have := HXL.out; have := HKL.out; omega)
              by_cases hi : i < l.length
              · have hil : (i : Int) < (l.length : Int) := by omega
                have HII := Aside0.mk hi
                have HBL := Aside0.mk (below_then HBw.out HBw.out.size HB.out)
                obtain ⟨ad, hade, hx0, hx1, hx2⟩ := at_T39 HR.out (i : Int) hi0 hil
                obtain rfl : some ad = A := hade.symm
                replace hx0 := (HBL.out.cell (World.block_lt_of_cell? w _ hx0)).trans hx0
                replace hx1 := (HBL.out.cell (World.block_lt_of_cell? w _ hx1)).trans hx1
                replace hx2 := (HBL.out.cell (World.block_lt_of_cell? w _ hx2)).trans hx2
                rw [Int.toNat_natCast] at hx0 hx1 hx2
                have hig : l[i]? = some (rd_T39 l (i : Int)) := by
                  unfold rd_T39; rw [Int.toNat_natCast, List.getD_eq_getElem?_getD, List.getElem?_eq_getElem hi]; rfl
                generalize rd_T39 l (i : Int) = Y at hx0 hx1 hx2 hig
                have hys : Y.f2.size ≤ 100 := HS.out Y (List.mem_of_getElem? hig)
                have HIG := Aside0.mk hig
                have HYS := Aside0.mk hys
                clear hig hys
                rcases HE.out.e with he | he
                · subst he
                  cases hf : Y.f0
                  · have HQ := Aside0.mk (q_num l X k i p Y HX.out HIG.out hf HE.out)
                    have HCT := Aside0.mk (fun (W : World) (hb : Below wr.heap.size wr W) => num_calls (RD.below HRD.out hb) (below_then HB.out HB.out.size hb) HG2.out hple HXT.out HBT.out 1073741824 (by decide) (by decide))
                    generalize numR (X.take k) p 1073741824 = R at HQ HCT
                    rw [hf] at hx0
                    clear hple hf
                    go_wp2_with (go_at_call 17; refine (HCT.out _ (below_alloc (Below.refl _ _) _)).mono ?_; rintro e w5 ⟨rfl, hrd, hb1, hk1⟩; have HRD2 := Aside0.mk hrd; have HB5 := Aside0.mk hb1; clear hrd hb1 hk1 HCT)
                    go_roundg gj
                    case measure => omega
                    case rel => exact ⟨i + 1, _, _, (by first | rfl | (congr 1; omega) | simp), ⟨by have := HII.out; omega, by have := HI.out; omega⟩, HRD2, HB5, HQ⟩
                  · have HQ := Aside0.mk (q_text l X k i p Y HX.out HXB.out HIG.out hf HYS.out HKL.out HE.out)
                    have HCT := Aside0.mk (fun (W : World) (hb : Below wr.heap.size wr W) => text_calls (RD.below HRD.out hb) (below_then HB.out HB.out.size hb) HG2.out hple HXT.out HBT.out 1073741824 (by decide) (by decide))
                    generalize textR (X.take k) p 1073741824 = R at HQ HCT
                    rw [hf] at hx0
                    clear hple hf
                    go_wp2_with (go_at_call 16; refine (HCT.out _ (below_alloc (Below.refl _ _) _)).mono ?_; rintro e w5 ⟨rfl, hrd, hb1, hk1⟩; have HRD2 := Aside0.mk hrd; have HB5 := Aside0.mk hb1; clear hrd hb1 hk1 HCT)
                    go_roundg gj
                    case measure => omega
                    case rel => exact ⟨i + 1, _, _, (by first | rfl | (congr 1; omega) | simp), ⟨by have := HII.out; omega, by have := HI.out; omega⟩, HRD2, HB5, HQ⟩
                · subst he
                  cases hf : Y.f0
                  · have HCT := Aside0.mk (fun (W : World) (hb : Below wr.heap.size wr W) => num_err (RD.below HRD.out hb) (by decide) 1073741824)
                    rw [hf] at hx0
                    clear hple hf
                    go_wp2_with (go_at_call 17; refine (HCT.out _ (below_alloc (Below.refl _ _) _)).mono ?_; rintro e w5 ⟨rfl, hb0⟩; have HRD2 := Aside0.mk (RD.below (RD.below HRD.out (below_alloc (Below.refl _ _) _)) hb0); have HB5 := Aside0.mk (below_then (below_alloc HB.out (.cells #[.bool false, .int .i64 Y.f1, .string Y.f2] 39)) (below_size (below_alloc HB.out (.cells #[.bool false, .int .i64 Y.f1, .string Y.f2] 39))) hb0); clear hb0 HCT)
                    go_roundg gj
                    case measure => omega
                    case rel => exact ⟨i + 1, p, 2, (by first | rfl | (congr 1; omega) | simp), ⟨by have := HII.out; omega, by have := HI.out; omega⟩, HRD2, HB5, ⟨HE.out.err (i + 1)⟩⟩
                  · have HCT := Aside0.mk (fun (W : World) (hb : Below wr.heap.size wr W) => text_err (RD.below HRD.out hb) (below_then HB.out HB.out.size hb) HG2.out 1073741824)
                    rw [hf] at hx0
                    clear hple hf
                    go_wp2_with (go_at_call 16; refine (HCT.out _ (below_alloc (Below.refl _ _) _)).mono ?_; rintro e w5 ⟨rfl, hrd, hb1, hk1⟩; have HRD2 := Aside0.mk hrd; have HB5 := Aside0.mk hb1; clear hrd hb1 hk1 HCT)
                    go_roundg gj
                    case measure => omega
                    case rel => exact ⟨i + 1, p, 2, (by first | rfl | (congr 1; omega) | simp), ⟨by have := HII.out; omega, by have := HI.out; omega⟩, HRD2, HB5, ⟨HE.out.err (i + 1)⟩⟩
              · obtain rfl : i = l.length := by have := HI.out; omega
                have HEQ := Aside0.mk (fun (W : World) (hb : Below wr.heap.size wr W) => err_calls (RD.below HRD.out hb))
                have HNN := Aside0.mk (fun (W : World) => num_nil (w := W) 5)
                have HTN := Aside0.mk (fun (W : World) => text_nil (w := W) 5)
                have HLN := Aside0.mk (fun (W : World) => left_nil (w := W))
                have HEN := Aside0.mk (fun (W : World) => err_nil (w := W))
                have HDN := Aside0.mk (fun (W : World) => end_nil (w := W))
                have HBL := Aside0.mk (below_then HBw.out HBw.out.size HB.out)
                clear hple
                rcases HE.out.all HX.out HKL.out with ⟨he, hke⟩ | ⟨he, hke⟩
                · subst he
                  go_wp2_with (first
                    | (go_at_call 18; refine (HEQ.out _ (Below.refl _ _)).mono ?_; rintro e w7 ⟨rfl, hb⟩; have HB7 := Aside0.mk (below_then HBL.out HBL.out.size hb); clear hb HEQ)
                    | (go_at_call 17; refine (HNN.out _).mono ?_; rintro e w8 ⟨rfl, hb⟩; have HB8 := Aside0.mk (below_then HB7.out HB7.out.size hb); clear hb HNN)
                    | (go_at_call 16; refine (HTN.out _).mono ?_; rintro e w9 ⟨rfl, hb⟩; have HB9 := Aside0.mk (below_then HB8.out HB8.out.size hb); clear hb HTN)
                    | (go_at_call 20; refine (HLN.out _).mono ?_; rintro e w10 ⟨rfl, hb⟩; have HB10 := Aside0.mk (below_then HB9.out HB9.out.size hb); clear hb HLN)
                    | (go_at_call 18; refine (HEN.out _).mono ?_; rintro e w11 ⟨rfl, hb⟩; have HB11 := Aside0.mk (below_then HB10.out HB10.out.size hb); clear hb HEN)
                    | (go_at_call 19; refine (HDN.out _).mono ?_; rintro e w12 ⟨rfl, hb⟩; have HB12 := Aside0.mk (below_then HB11.out HB11.out.size hb); clear hb HDN))
                  go_ret
                  exact ⟨rfl, HB12.out⟩
                · subst he
                  have hke2 : ((k : Int) == (X.length : Int)) = false := beq_eq_false_iff_ne.mpr (by omega)
                  go_wp2_with (first
                    | (go_at_call 18; refine (HEQ.out _ (Below.refl _ _)).mono ?_; rintro e w7 ⟨rfl, hb⟩; have HB7 := Aside0.mk (below_then HBL.out HBL.out.size hb); clear hb HEQ)
                    | (go_at_call 17; refine (HNN.out _).mono ?_; rintro e w8 ⟨rfl, hb⟩; have HB8 := Aside0.mk (below_then HB7.out HB7.out.size hb); clear hb HNN)
                    | (go_at_call 16; refine (HTN.out _).mono ?_; rintro e w9 ⟨rfl, hb⟩; have HB9 := Aside0.mk (below_then HB8.out HB8.out.size hb); clear hb HTN)
                    | (go_at_call 20; refine (HLN.out _).mono ?_; rintro e w10 ⟨rfl, hb⟩; have HB10 := Aside0.mk (below_then HB9.out HB9.out.size hb); clear hb HLN)
                    | (go_at_call 18; refine (HEN.out _).mono ?_; rintro e w11 ⟨rfl, hb⟩; have HB11 := Aside0.mk (below_then HB10.out HB10.out.size hb); clear hb HEN)
                    | (go_at_call 19; refine (HDN.out _).mono ?_; rintro e w12 ⟨rfl, hb⟩; have HB12 := Aside0.mk (below_then HB11.out HB11.out.size hb); clear hb HDN))
                  go_ret
                  exact ⟨rfl, HB12.out⟩
end
end Go.Proofs.Ytgmbefkbonaodaa.QV
