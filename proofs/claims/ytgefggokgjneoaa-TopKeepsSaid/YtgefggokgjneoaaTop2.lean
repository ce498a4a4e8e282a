/- The walk of TopOrders. Conditions as each theorem has them. -/
import Derived.Test.YtgefggokgjneoaaTop1
import Derived.Test.YtgefggokgjneoaaTSort
namespace Go.Proofs.Ytgefggokgjneoaa.QT
open Go.RowKit Go.Proofs.YtgefggokgjneoaaW.PrintWords Go.Proofs.YtgefggokgjneoaaW.PrintLast Go.Proofs.YtgefggokgjneoaaW.PrintMore Go.Proofs.Ytgefggokgjneoaa.TPure
attribute [local go_sem] max2_int min2_int max_two min_two max_three min_three max_four min_four ta27  -- for this text's walks alone
set_option linter.unusedVariables false
set_option linter.unusedSimpArgs false
theorem eqA27 (d : Nat) (w : World) (x0 y0 : Int) (x1 y1 : Int) (x2 y2 : Int) :
    (Op.equalIn (d + 2) 27 (.agg #[.int .i64 x0, .int .i64 x1, .int .i64 x2]) (.agg #[.int .i64 y0, .int .i64 y1, .int .i64 y2])).run Try.prog w = .ok (x0 == y0 && (x1 == y1 && (x2 == y2))) w := by
  refine eqA_of Try.underlying27 (by kernel_rfl) ?_
  refine eqf_cons (by rfl) (by go_simp; rfl) (by go_simp; rfl) (by go_simp) ?_
  refine eqf_cons (by rfl) (by go_simp; rfl) (by go_simp; rfl) (by go_simp) ?_
  exact eqf_last (by rfl) (by go_simp; rfl) (by go_simp; rfl) (by go_simp)
attribute [local go_sem high] eqA27
/-! Low bits of a whole number. -/
theorem and31 (n : Int) : bits .and .i64 n 31 = n % 32 := by
  have hc : (BitVec.ofInt 64 31).toNat = 2 ^ 5 - 1 := by decide
  have key : (BitVec.ofInt 64 n &&& BitVec.ofInt 64 31).toNat = (n % ((2 ^ 64 : Nat) : Int)).toNat % 2 ^ 5 := by
    rw [BitVec.toNat_and, BitVec.toNat_ofInt, hc, Nat.and_two_pow_sub_one_eq_mod]
  show IntKind.i64.wrap ((BitVec.ofInt 64 n &&& BitVec.ofInt 64 31).toNat : Nat) = n % 32
  rw [key, IntKind.wrap_i64]
  omega
theorem and65535 (n : Int) : bits .and .i64 n 65535 = n % 65536 := by
  have hc : (BitVec.ofInt 64 65535).toNat = 2 ^ 16 - 1 := by decide
  have key : (BitVec.ofInt 64 n &&& BitVec.ofInt 64 65535).toNat = (n % ((2 ^ 64 : Nat) : Int)).toNat % 2 ^ 16 := by
    rw [BitVec.toNat_and, BitVec.toNat_ofInt, hc, Nat.and_two_pow_sub_one_eq_mod]
  show IntKind.i64.wrap ((BitVec.ofInt 64 n &&& BitVec.ofInt 64 65535).toNat : Nat) = n % 65536
  rw [key, IntKind.wrap_i64]
  omega
section
variable {w0 w : World} {P : Nat → Prop} {g : Nat} {T : TypeId} {rest : List Value} {A : Option Addr} {c : Nat} {l : List S27}
theorem wf_bounds {n : Int} (h : (Lit.int .i64 n).wf = true) : -9223372036854775808 ≤ n ∧ n ≤ 9223372036854775807 := by
  simp [Lit.wf, IntKind.min, IntKind.max, IntKind.signed, IntKind.bits] at h
  omega
/-- Two Tops apart from each other. -/
structure TT (w w' : World) (Pa Pb : Nat → Prop) (m : Int) (ga : Nat) (Aa : Option Addr) (ca : Nat) (la : List S27) (gb : Nat) (Ab : Option Addr) (cb : Nat) (lb : List S27) : Prop where
  a : HS w Pa w' ga 43 [.int .i64 m] Aa ca la
  b : HS w Pb w' gb 43 [.int .i64 m] Ab cb lb
  dis : ∀ q, Pa q → ¬ Pb q
  below : Below w.heap.size w w'
section
variable {w1 w2 : World} {Pa Pb : Nat → Prop} {m : Int} {ga gb : Nat} {Aa Ab A2 : Option Addr} {ca cb c2 : Nat} {la lb l2 : List S27}
theorem TT.start {w3 : World} (ha : HS w (fun k => w1.heap.size ≤ k) w2 ga 43 [.int .i64 m] none 0 []) (hb : HS w (fun k => w2.heap.size ≤ k) w3 gb 43 [.int .i64 m] none 0 []) (h23 : Below w2.heap.size w2 w3) (h3 : Below w.heap.size w w3) :
    TT w w3 (fun k => w1.heap.size ≤ k ∧ k < w2.heap.size) (fun k => w2.heap.size ≤ k) m ga none 0 [] gb none 0 [] :=
  ⟨ha.bound.below h23, hb, fun q h1 h2 => by omega, h3⟩
theorem TT.addA (h : TT w w1 Pa Pb m ga Aa ca la gb Ab cb lb) (k : Moved w w1 (fun q => Pa q ∧ q < w1.heap.size) w2 ga 43 [.int .i64 m] A2 c2 l2) :
    TT w w2 (fun q => (Pa q ∧ q < w1.heap.size) ∨ w1.heap.size ≤ q) (fun q => Pb q ∧ q < w1.heap.size) m ga A2 c2 l2 gb Ab cb lb :=
  ⟨k.hs, h.b.bound.kept k.kept (fun q hq hn => h.dis q hn.1 hq.1), fun q h1 h2 => by
    rcases h1 with h1 | h1
    · exact h.dis q h1.1 h2.1
    · omega, k.below⟩
theorem TT.addB (h : TT w w1 Pa Pb m ga Aa ca la gb Ab cb lb) (k : Moved w w1 (fun q => Pb q ∧ q < w1.heap.size) w2 gb 43 [.int .i64 m] A2 c2 l2) :
    TT w w2 (fun q => Pa q ∧ q < w1.heap.size) (fun q => (Pb q ∧ q < w1.heap.size) ∨ w1.heap.size ≤ q) m ga Aa ca la gb A2 c2 l2 :=
  ⟨h.a.bound.kept k.kept (fun q hq hn => h.dis q hq.1 hn.1), k.hs, fun q h1 h2 => by
    rcases h2 with h2 | h2
    · exact h.dis q h1.1 h2.1
    · omega, k.below⟩
theorem TT.read (h : TT w w1 Pa Pb m ga Aa ca la gb Ab cb lb) (hb : Below w1.heap.size w1 w2) : TT w w2 Pa Pb m ga Aa ca la gb Ab cb lb := ⟨h.a.below hb, h.b.below hb, h.dis, below_then h.below h.below.size hb⟩
end
/-- A row that came in, read in a later world. -/
theorem row_cells {w1 : World} (hr : Kd.C k27 w A l.length l) (hb : Below w.heap.size w w1) (i : Nat) (hi : i < l.length) :
    ∃ ad, A = some ad ∧ w1.cell? (ad.add (i * 3)) = some (.int .i64 (rd_T27 l (i : Int)).f0) ∧ w1.cell? ⟨(ad.add (i * 3)).block, (ad.add (i * 3)).off + 1, none⟩ = some (.int .i64 (rd_T27 l (i : Int)).f1) ∧ w1.cell? ⟨(ad.add (i * 3)).block, (ad.add (i * 3)).off + 2, none⟩ = some (.int .i64 (rd_T27 l (i : Int)).f2) := by
  obtain ⟨ad, e, hx0, hx1, hx2⟩ := at_T27 hr (i : Int) (by omega) (by omega)
  rw [Int.toNat_natCast] at hx0 hx1 hx2
  exact ⟨ad, e, (hb.cell (World.block_lt_of_cell? w _ hx0)).trans hx0, (hb.cell (World.block_lt_of_cell? w _ hx1)).trans hx1, (hb.cell (World.block_lt_of_cell? w _ hx2)).trans hx2⟩
/-- The rows from behind, turned. -/
def backL (l : List S27) (t : Nat) : List S27 := (l.drop t ++ l.take t).reverse
theorem backL_perm (l : List S27) (t : Nat) : (backL l t).Perm l := by
  unfold backL
  refine (List.reverse_perm _).trans (List.perm_append_comm.trans ?_)
  rw [List.take_append_drop]
theorem backL_length (l : List S27) (t : Nat) : (backL l t).length = l.length := (backL_perm l t).length_eq
theorem backL_get (l : List S27) (t i : Nat) (ht : t < l.length) (hi : i < l.length) : (backL l t)[i]? = l[(l.length - 1 - i + t) % l.length]? := by
  unfold backL
  have hl : (l.drop t ++ l.take t).length = l.length := by simp; omega
  rw [List.getElem?_reverse (by rw [hl]; exact hi), hl]
  by_cases h : l.length - 1 - i < l.length - t
  · rw [List.getElem?_append_left (by rw [List.length_drop]; omega), List.getElem?_drop, Nat.mod_eq_of_lt (by omega), Nat.add_comm]
  · rw [List.getElem?_append_right (by rw [List.length_drop]; omega), List.length_drop, List.getElem?_take_of_lt (by omega)]
    congr 1
    have : (l.length - 1 - i + t) = (l.length - 1 - i + t - l.length) + l.length := by omega
    rw [this, Nat.add_mod_right, Nat.mod_eq_of_lt (by omega)]
    omega
theorem addsL_step (m i : Nat) (bl : List S27) (x : S27) (h : bl[i]? = some x) : addsL m [] (bl.take (i + 1)) = addL (addsL m [] (bl.take i)) m x := by
  rw [← addsL_snoc]
  congr 1
  rw [List.take_add_one, h]
  rfl
theorem keeps_take (m i : Nat) (bl : List S27) : Keeps (addsL m [] (bl.take i)) m (bl.take i) := by
  have := Keeps.adds (bl.take i) (Keeps.nil m)
  rw [List.nil_append] at this
  exact this
set_option maxHeartbeats 1000000 in
set_option maxRecDepth 100000 in
theorem orders_calls (hr : Kd.C k27 w A l.length l) (hc : l.length ≤ c) (most turn : Int) (hm0 : -9223372036854775808 ≤ most) (hm1 : most ≤ 9223372036854775807) (ht0 : -9223372036854775808 ≤ turn) (ht1 : turn ≤ 9223372036854775807) :
    Calls Try.prog 5 #[.slice A l.length c, .int .i64 most, .int .i64 turn] w fun e w' => e = .returned (.bool true) ∧ Below w.heap.size w w' := by
  have HR := Aside0.mk hr
  have HH := Aside0.mk (head_calls (w := w))
  clear hr
  by_cases h60 : 60 < l.length
  · have hn1 : ((60 : Int) < (l.length : Int)) := by omega
    go_enter Try.func5, Try.ntmps5
    go_wp2_with (go_at_call 8; refine HH.out.mono ?_; rintro e w1 ⟨rfl, hb⟩; have HB1 := Aside0.mk hb; clear hb HH)
    go_ret
    exact ⟨rfl, HB1.out⟩
  · by_cases hl0 : l.length = 0
    · have hn1 : ¬ ((60 : Int) < (l.length : Int)) := by omega
      go_enter Try.func5, Try.ntmps5
      go_wp2_with (go_at_call 8; refine HH.out.mono ?_; rintro e w1 ⟨rfl, hb⟩; have HB1 := Aside0.mk hb; clear hb HH)
      go_ret
      exact ⟨rfl, HB1.out⟩
    · have hn1 : ¬ ((60 : Int) < (l.length : Int)) := by omega
      have hn2 : ¬ ((l.length : Int) = 0) := by omega
      have hn4 : (l.length : Int) ≤ 60 := by omega
      have hn5 : decide ((60 : Int) < (l.length : Int)) = false := by simp; omega
      have hn6 : ((l.length : Int) == 0) = false := beq_eq_false_iff_ne.mpr hn2
      have hor : (decide ((60 : Int) < (l.length : Int)) || ((l.length : Int) == 0)) = false := by rw [hn5, hn6]; rfl
      have hn3 : l ≠ [] := by intro h; rw [h] at hl0; exact hl0 rfl
      obtain ⟨mt, hmt, hmtb⟩ : ∃ mt : Nat, bits .and .i64 most 31 = (mt : Int) ∧ mt < 32 := ⟨(most % 32).toNat, by rw [and31]; omega, by omega⟩
      obtain ⟨t, ht, htb⟩ : ∃ t : Nat, (bits .and .i64 turn 65535).tmod (l.length : Int) = (t : Int) ∧ t < l.length := by
        have e1 : bits .and .i64 turn 65535 = (((turn % 65536).toNat : Nat) : Int) := by rw [and65535]; omega
        refine ⟨(turn % 65536).toNat % l.length, ?_, Nat.mod_lt _ (by omega)⟩
        rw [e1]
        rfl
      have htb2 : (t : Int) < (l.length : Int) := by omega
      have hmtb2 : (mt : Int) < 32 := by omega
      have HN := Aside0.mk (fun (W : World) (hB : Below w.heap.size w W) => new_calls (w0 := w) (w := W) (mt : Int) (by omega) (by omega) hB)
      rw [show (if 0 < (mt : Int) then (mt : Int) else 0) = (mt : Int) by split <;> omega] at HN
      go_enter Try.func5, Try.ntmps5
      go_wp2_with (first
        | (go_at_call 8; refine HH.out.mono ?_; rintro e w1 ⟨rfl, hb⟩; have HB1 := Aside0.mk hb; clear hb HH)
        | (go_at_call 9; refine (HN.out _ HB1.out).mono ?_; rintro e w2 ⟨ga, rfl, hga, hsa, hb2, hb3⟩; have HB2 := Aside0.mk hb2; have HSA := Aside0.mk hsa; clear hb2 hb3 hsa hga HB1)
        | (go_at_call 9; refine (HN.out _ HB2.out).mono ?_; rintro e w3 ⟨gb, rfl, hgb, hsb, hb2, hb3⟩; have HTT := Aside0.mk (TT.start HSA.out hsb hb3 hb2); clear hb2 hb3 hsb hgb HB2 HN HSA))
      go_loopg [36] (l.length + 1) (fun gk v36 w' => ∃ (i : Nat) (Pa Pb : Nat → Prop) (Aa : Option Addr) (ca : Nat) (Ab : Option Addr) (cb : Nat), v36 = .int .i64 (i : Int) ∧ Aside0 (i ≤ l.length ∧ l.length < i + gk) ∧ Aside0 (TT w w' Pa Pb (mt : Int) ga Aa ca (addsL mt [] (l.take i)) gb Ab cb (addsL mt [] ((backL l t).take i))))
      case atStart => exact ⟨0, _, _, none, 0, none, 0, rfl, ⟨by omega, by omega⟩, HTT⟩
      case round =>
        clear HTT
        obtain ⟨i, Pa, Pb, Aa, ca, Ab, cb, rfl, HI, HT⟩ := hrel
        obtain ⟨gk, rfl⟩ : ∃ k, gk = k + 1 := ⟨gk - 1, by have := HI.out; omega⟩
        have hi0 : (0 : Int) ≤ (i : Int) := by omega
        have ht0 : (0 : Int) ≤ (t : Int) := by omega
        have hlen : ∀ (bl : List S27), (addsL mt [] (bl.take i)).length ≤ 31 := fun bl => by rw [(keeps_take mt i bl).length]; omega
        by_cases hi : i < l.length
        · have hil : (i : Int) < (l.length : Int) := by omega
          obtain ⟨j, hj, hjl, hjg⟩ : ∃ j : Nat, ((l.length : Int) - 1 - (i : Int) + (t : Int)).tmod (l.length : Int) = (j : Int) ∧ j < l.length ∧ (backL l t)[i]? = some (rd_T27 l (j : Int)) := by
            refine ⟨(l.length - 1 - i + t) % l.length, ?_, Nat.mod_lt _ (by omega), ?_⟩
            · rw [show (l.length : Int) - 1 - (i : Int) + (t : Int) = ((l.length - 1 - i + t : Nat) : Int) by omega]; rfl
            · rw [backL_get l t i htb hi, rd_at, List.getElem?_eq_getElem (Nat.mod_lt _ (by omega))]
              unfold at_
              rw [List.getD_eq_getElem?_getD, List.getElem?_eq_getElem (Nat.mod_lt _ (by omega))]; rfl
          have hjl2 : (j : Int) < (l.length : Int) := by omega
          have hj0 : (0 : Int) ≤ (j : Int) := by omega
          have hig : l[i]? = some (rd_T27 l (i : Int)) := by
            rw [rd_at]; unfold at_; rw [List.getD_eq_getElem?_getD, List.getElem?_eq_getElem hi]; rfl
          obtain ⟨ad, rfl, hx0, hx1, hx2⟩ := row_cells HR.out HT.out.below i hi
          have HC1 := Aside0.mk (add_calls HT.out.a.bound HT.out.below (rd_T27 l (i : Int)) (by have := hlen l; omega) (by omega))
          unfold enc27 at HC1
          have HS1 := Aside0.mk (addsL_step mt i l _ hig)
          have HS2 := Aside0.mk (addsL_step mt i (backL l t) _ hjg)
          generalize hX : rd_T27 l (i : Int) = X at hx0 hx1 hx2 HC1 HS1
          have HXX := Aside0.mk hX
          clear hX hig hjg
          go_wp2_with (first
            | (go_at_call 11; refine HC1.out.mono ?_; rintro e w4 ⟨rfl, A2, c2, hmv⟩; have HT2 := Aside0.mk (TT.addA HT.out hmv); clear hmv HC1 HT hx0 hx1 hx2; obtain ⟨ad2, had, hy0, hy1, hy2⟩ := row_cells HR.out HT2.out.below j hjl; obtain rfl : ad = ad2 := (by injection had); clear had; have HC2 := Aside0.mk (add_calls HT2.out.b.bound HT2.out.below (rd_T27 l (j : Int)) (by have := hlen (backL l t); omega) (by omega)); unfold enc27 at HC2; generalize hY : rd_T27 l (j : Int) = Y at hy0 hy1 hy2 HC2 HS2; have HYY := Aside0.mk hY; clear hY)
            | (go_at_call 11; refine HC2.out.mono ?_; rintro e w5 ⟨rfl, A3, c3, hmv⟩; have HT3 := Aside0.mk (TT.addB HT2.out hmv); clear hmv HC2 HT2 hy0 hy1 hy2))
          go_roundg gk
          case measure => omega
          case rel =>
            have HT4 := HT3.out
            rw [← HS1.out, ← HS2.out] at HT4
            exact ⟨i + 1, _, _, A2, c2, A3, c3, (by first | rfl | (congr 1; omega) | simp), ⟨by omega, by have := HI.out; omega⟩, ⟨HT4⟩⟩
        · obtain rfl : i = l.length := by have := HI.out; omega
          have hF1 : rowsL (addsL mt [] (l.take l.length)) = firsts mt l := by rw [(keeps_take mt l.length l).rows, List.take_of_length_le (Nat.le_refl _)]
          have hF2 : rowsL (addsL mt [] ((backL l t).take l.length)) = firsts mt l := by
            rw [(keeps_take mt l.length (backL l t)).rows, List.take_of_length_le (by rw [backL_length]; exact Nat.le_refl _)]
            unfold firsts
            rw [isort_of_perm (backL_perm l t)]
          have HC1 := Aside0.mk (rows_calls HT.out.a (by have := hlen l; omega))
          rw [hF1] at HC1
          have hFl : (firsts mt l).length ≤ 31 := by rw [firsts_length]; omega
          have HC2 := Aside0.mk (fun (W : World) (hb : Below _ _ W) => rows_calls (TT.read HT.out hb).b (by have := hlen (backL l t); omega))
          rw [hF2] at HC2
          clear hF1 hF2 hlen
          generalize firsts mt l = F at HC1 HC2 hFl
          have hFb : (F.length : Int) ≤ 31 := by omega
          have HWB := Aside0.mk HT.out.below
          go_wp2_with (first
            | (go_at_call 13; refine HC1.out.mono ?_; rintro e w4 ⟨A1, c1, rfl, hr1, hb1⟩; have HR1 := Aside0.mk hr1; have HB1 := Aside0.mk hb1; have HC3 := Aside0.mk (HC2.out _ hb1); clear hr1 hb1 HC1 HC2)
            | (go_at_call 13; refine HC3.out.mono ?_; rintro e w5 ⟨A2, c2, rfl, hr2, hb2⟩; have HR2 := Aside0.mk (Kd.R_reads' hr2); have HR1b := Aside0.mk (Kd.R_reads' (Kd.R_below HR1.out hb2)); have HB5 := Aside0.mk (below_then HWB.out HWB.out.size (below_then HB1.out HB1.out.size hb2)); clear hr2 hb2 HC3 HR1 HB1))
          go_loopg [72] (F.length + 1) (fun gj v72 w' => ∃ (k : Nat), v72 = .int .i64 (k : Int) ∧ Aside0 (k ≤ F.length ∧ F.length < k + gj) ∧ Aside0 (Below w5.heap.size w5 w'))
          case atStart => exact ⟨0, rfl, ⟨by omega, by omega⟩, ⟨Below.refl _ _⟩⟩
          case round =>
            obtain ⟨k, rfl, HK, HW⟩ := hrel
            obtain ⟨gj, rfl⟩ : ∃ k2, gk = k2 + 1 := ⟨gk - 1, by have := HK.out; omega⟩
            have hk0 : (0 : Int) ≤ (k : Int) := by omega
            by_cases hk : k < F.length
            · have hkl : (k : Int) < (F.length : Int) := by omega
              obtain ⟨ad1, rfl, hx0, hx1, hx2⟩ := row_cells HR1b.out.2.2 HW.out k hk
              obtain ⟨ad2, rfl, hy0, hy1, hy2⟩ := row_cells HR2.out.2.2 HW.out k hk
              go_wp2
              refine start_ (n := 9) (S := fun w' => w'.cell? (ad1.add (k * 3)) = some (.int .i64 (rd_T27 F (k : Int)).f0) ∧ w'.cell? ⟨(ad1.add (k * 3)).block, (ad1.add (k * 3)).off + 1, none⟩ = some (.int .i64 (rd_T27 F (k : Int)).f1) ∧ w'.cell? ⟨(ad1.add (k * 3)).block, (ad1.add (k * 3)).off + 2, none⟩ = some (.int .i64 (rd_T27 F (k : Int)).f2) ∧ w'.cell? (ad2.add (k * 3)) = some (.int .i64 (rd_T27 F (k : Int)).f0) ∧ w'.cell? ⟨(ad2.add (k * 3)).block, (ad2.add (k * 3)).off + 1, none⟩ = some (.int .i64 (rd_T27 F (k : Int)).f1) ∧ w'.cell? ⟨(ad2.add (k * 3)).block, (ad2.add (k * 3)).off + 2, none⟩ = some (.int .i64 (rd_T27 F (k : Int)).f2)) (ds := []) #[false, false, false, false, false, false, false, false, false] (by kernel_rfl) rfl rfl (⟨hx0, hx1, hx2, hy0, hy1, hy2⟩) (fun hHeld => ?_); refine with_tab (T := rtab .any (opsOf Try.f5 21)) rfl (fun HT_ => ?_)
              refine pure_ (i := 0) (N := (some 75)) (v := ?_) (a' := ?_) #[true, false, false, false, false, false, false, false, false] rfl rfl (any_of HT_.out (by kernel_rfl)) (fun _ _ _ h => h) (Or.inl ⟨by rfl, ?_⟩) ?_ ?_
              rotate_left
              · intro w'
                go_simp
                with_reducible rfl
              rotate_left
              · simp only [Act.put, List.setIfInBounds_toArray, List.set_cons_zero, List.set_cons_succ, i64_w, i32_w]
                rfl
              refine pure_ (i := 1) (N := (some 76)) (v := ?_) (a' := ?_) #[true, true, false, false, false, false, false, false, false] rfl rfl (any_of HT_.out (by kernel_rfl)) (fun _ _ _ h => h) (Or.inl ⟨by rfl, ?_⟩) ?_ ?_
              rotate_left
              · intro w'
                go_simp
                with_reducible rfl
              rotate_left
              · simp only [Act.put, List.setIfInBounds_toArray, List.set_cons_zero, List.set_cons_succ, i64_w, i32_w]
                rfl
              refine pure_ (i := 2) (N := (some 77)) (v := ?_) (a' := ?_) #[true, true, true, false, false, false, false, false, false] rfl rfl (any_of HT_.out (by kernel_rfl)) (fun _ _ _ h => h) (Or.inl ⟨by rfl, ?_⟩) ?_ ?_
              rotate_left
              · intro w'
                go_simp
                with_reducible rfl
              rotate_left
              · simp only [Act.put, List.setIfInBounds_toArray, List.set_cons_zero, List.set_cons_succ, i64_w, i32_w]
                rfl
              refine pure_ (i := 4) (N := (some 79)) (v := ?_) (a' := ?_) #[true, true, true, false, true, false, false, false, false] rfl rfl (any_of HT_.out (by kernel_rfl)) (fun _ _ _ h => h) (Or.inl ⟨by rfl, ?_⟩) ?_ ?_
              rotate_left
              · intro w'
                go_simp
                with_reducible rfl
              rotate_left
              · simp only [Act.put, List.setIfInBounds_toArray, List.set_cons_zero, List.set_cons_succ, i64_w, i32_w]
                rfl
              refine pure_ (i := 5) (N := (some 80)) (v := ?_) (a' := ?_) #[true, true, true, false, true, true, false, false, false] rfl rfl (any_of HT_.out (by kernel_rfl)) (fun _ _ _ h => h) (Or.inl ⟨by rfl, ?_⟩) ?_ ?_
              rotate_left
              · intro w'
                go_simp
                with_reducible rfl
              rotate_left
              · simp only [Act.put, List.setIfInBounds_toArray, List.set_cons_zero, List.set_cons_succ, i64_w, i32_w]
                rfl
              refine pure_ (i := 6) (N := (some 81)) (v := ?_) (a' := ?_) #[true, true, true, false, true, true, true, false, false] rfl rfl (any_of HT_.out (by kernel_rfl)) (fun _ _ _ h => h) (Or.inl ⟨by rfl, ?_⟩) ?_ ?_
              rotate_left
              · intro w'
                go_simp
                with_reducible rfl
              rotate_left
              · simp only [Act.put, List.setIfInBounds_toArray, List.set_cons_zero, List.set_cons_succ, i64_w, i32_w]
                rfl
              refine take_ (i := 3) (N := (some 78)) (v := ?_) (a' := ?_) #[true, true, true, true, true, true, true, false, false] rfl rfl (take_of HT_.out (by kernel_rfl)) (fun _ _ _ h => h) (Or.inl ⟨by rfl, ?_⟩) hHeld ?_ ?_
              rotate_left
              · rintro w' ⟨s0, s1, s2, s3, s4, s5⟩
                go_simp
                with_reducible rfl
              rotate_left
              · simp only [Act.put, List.setIfInBounds_toArray, List.set_cons_zero, List.set_cons_succ, i64_w, i32_w]
                rfl
              refine take_ (i := 7) (N := (some 82)) (v := ?_) (a' := ?_) #[true, true, true, true, true, true, true, true, false] rfl rfl (take_of HT_.out (by kernel_rfl)) (fun _ _ _ h => h) (Or.inl ⟨by rfl, ?_⟩) hHeld ?_ ?_
              rotate_left
              · rintro w' ⟨s0, s1, s2, s3, s4, s5⟩
                go_simp
                with_reducible rfl
              rotate_left
              · simp only [Act.put, List.setIfInBounds_toArray, List.set_cons_zero, List.set_cons_succ, i64_w, i32_w]
                rfl
              refine pure_ (i := 8) (N := (some 83)) (v := ?_) (a' := ?_) #[true, true, true, true, true, true, true, true, true] rfl rfl (any_of HT_.out (by kernel_rfl)) (fun _ _ _ h => h) (Or.inl ⟨by rfl, ?_⟩) ?_ ?_
              rotate_left
              · intro w'
                go_simp
                with_reducible rfl
              rotate_left
              · simp only [Act.put, List.setIfInBounds_toArray, List.set_cons_zero, List.set_cons_succ, i64_w, i32_w]
                rfl
              refine done_ (done_of HT_.out (by kernel_rfl)) ?_
              go_wp2
              go_roundg gj
              case measure => omega
              case rel => exact ⟨k + 1, (by first | rfl | (congr 1; omega) | simp), ⟨by omega, by have := HK.out; omega⟩, ⟨by repeat (first | exact HW.out | apply below_drew1 | apply below_alloc)⟩⟩
            · obtain rfl : k = F.length := by have := HK.out; omega
              go_wp2
              go_ret
              exact ⟨rfl, below_then HB5.out HB5.out.size HW.out⟩
end
end Go.Proofs.Ytgefggokgjneoaa.QT
