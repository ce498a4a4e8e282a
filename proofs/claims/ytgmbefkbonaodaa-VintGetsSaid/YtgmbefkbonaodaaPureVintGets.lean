/- VintGets: whatever bytes: Get tells the number with which they begin, in its one form, or that no number begins there. For all bytes. -/
import Derived.Test.YtgmbefkbonaodaaQVx4
import Derived.Test.YtgmbefkbonaodaaPureVintPuts
namespace Go.Proofs.Ytgmbefkbonaodaa.Pure
open Go.RowKit Go.Proofs.Ytgmbefkbonaodaa.QV Go.Proofs.Ytgmbefkbonaodaa.VSum Go.Proofs.Ytgmbefkbonaodaa.VDig Go.Proofs.YtgmbefkbonaodaaW.PrintWords Go.Proofs.YtgmbefkbonaodaaW.PrintLast Go.Proofs.YtgmbefkbonaodaaW.PrintMore

theorem str_ne {a b : List Int} (ha : Bytes a) (hb : Bytes b) (h : a ≠ b) : (strOfNums a).toList ≠ (strOfNums b).toList := by
  intro he
  have h1 : (strOfNums a).data.toList = (strOfNums b).data.toList := by
    have e : ∀ s : ByteArray, s.toList = s.data.toList := fun s => ByteArray.toList_eq s
    rw [← e, ← e, he]
  rw [strOfNums_data, strOfNums_data] at h1
  apply h
  have inj : ∀ (x y : List Int), Bytes x → Bytes y → x.map (fun n => UInt8.ofNat n.toNat) = y.map (fun n => UInt8.ofNat n.toNat) → x = y := by
    intro x
    induction x with
    | nil => intro y _ _ hm; cases y with
      | nil => rfl
      | cons c r => simp at hm
    | cons c r ih =>
      intro y hx hy hm
      cases y with
      | nil => simp at hm
      | cons c2 r2 =>
        simp only [List.map_cons, List.cons.injEq] at hm
        have h2 := ih r2 (fun z hz => hx z (by simp [hz])) (fun z hz => hy z (by simp [hz])) hm.2
        have hc := hx c (by simp)
        have hc2 := hy c2 (by simp)
        have h3 := congrArg UInt8.toNat hm.1
        simp only [UInt8.toNat_ofNat'] at h3
        rw [h2]
        congr 1
        omega
  exact inj a b ha hb h1

/-- The law's own loop over bytes with which no number begins: it finds none either. -/
theorem gets_loop (xs : List Int) (hb : Bytes xs) (hn : xs.length ≤ 50) (hg : (getL 0 0 xs).2 = 0) (d : Nat) : ∀ (k a i : Nat), i + d = xs.length → a < 18446744073709551616 → 2 * d + 30 < k →
    catchwordlaw01_VintGets.l0 k xs 0 (a : Int) (i : Int) = some true := by
  induction d with
  | zero =>
    intro k a i hi ha hk
    obtain ⟨k, rfl⟩ : ∃ m, k = m + 2 := ⟨k - 2, by omega⟩
    simp only [catchwordlaw01_VintGets.l0]
    rw [if_neg (by omega)]
    simp only [catchwordlaw01_VintGets.j1]
    rw [if_neg (by decide)]
    rfl
  | succ d ih =>
    intro k a i hi ha hk
    obtain ⟨k, rfl⟩ : ∃ m, k = m + 2 := ⟨k - 2, by omega⟩
    have hlt : i < xs.length := by omega
    have hx := hb _ (List.getElem_mem hlt)
    have hw : wrap64 ((i : Int) + 1) = ((i + 1 : Nat) : Int) := by unfold wrap64; omega
    have hr : rd xs (i : Int) = xs[i] := by
      unfold rd; rw [Int.toNat_natCast, List.getD_eq_getElem?_getD, List.getElem?_eq_getElem hlt]; rfl
    simp only [catchwordlaw01_VintGets.l0]
    rw [if_pos (by omega)]
    simp only [catchwordlaw01_VintGets.j1]
    by_cases c10 : (i : Int) < 10
    · rw [if_pos (decide_eq_true c10)]
      by_cases c57 : (a : Int) > 144115188075855871
      · rw [if_pos c57]; rfl
      · rw [if_neg c57, if_pos (by omega), if_pos (by omega), hr, digit a xs[i] (by omega) hx.1 hx.2, hw]
        by_cases c128 : xs[i] < 128
        · rw [if_pos c128, if_pos trivial, putlaw_spec _ k (by omega) (by omega)]
          simp only [Option.bind_some]
          rw [if_pos (by omega), if_pos (by omega), Int.toNat_natCast]
          congr 1
          rw [bne_iff_ne]
          refine str_ne (D_bytes _ (by omega)) (fun y hy => hb y (List.mem_of_mem_take hy)) ?_
          intro he
          have h2 := get_D (a * 128 + xs[i].toNat % 128) (by omega) (xs.drop (i + 1))
          rw [he, List.take_append_drop] at h2
          rw [h2] at hg
          simp only [List.length_take] at hg
          omega
        · rw [if_neg c128]
          exact ih k _ (i + 1) (by omega) (by omega) (by omega)
    · rw [decide_eq_false c10, if_neg (by decide)]
      rfl

theorem VintGets : catchwordlaw01_VintGets.Pure := by
  intro l0 _ _ g0
  have h0 := bytes_of g0
  refine ⟨1000, ?_⟩
  unfold catchwordlaw01_VintGets.f catchwordlaw01_head.f
  simp only [Option.bind_some, if_true]
  by_cases c1 : (l0.length : Int) > 50
  · rw [if_pos c1]
  rw [if_neg c1, Get_spec l0 h0 (by omega) 1000 (by omega)]
  simp only [Option.bind_some]
  by_cases c2 : 0 < (getL 0 0 l0).2
  · have hf := get_form l0 0 0 [] h0 E_zero.symm rfl (fun h => absurd h (by decide)) (fun _ => rfl) (by decide) c2
    obtain ⟨f1, f2, f3⟩ := hf
    rw [List.nil_append] at f3
    rw [if_pos (by omega), if_pos (by omega), if_pos (by omega), putlaw_spec _ 1000 f2 (by decide)]
    simp only [Option.bind_some, Int.toNat_natCast]
    rw [f3]
    simp
  · rw [if_neg (by omega)]
    have hz : (getL 0 0 l0).1 = 0 := by
      have key : ∀ (r : List Int) (i a : Nat), (getL i a r).2 = 0 → (getL i a r).1 = 0 := by
        intro r
        induction r with
        | nil => intro i a _; rfl
        | cons c r ih =>
          intro i a
          show (if _ then _ else if _ then _ else _ : Nat × Nat).2 = 0 → (if _ then _ else if _ then _ else _ : Nat × Nat).1 = 0
          split
          · intro _; rfl
          · split
            · intro h; simp at h
            · exact ih _ _
      exact key l0 0 0 (by omega)
    rw [hz]
    exact gets_loop l0 h0 (by omega) (by omega) l0.length 1000 0 0 (by omega) (by decide) (by omega)
end Go.Proofs.Ytgmbefkbonaodaa.Pure
