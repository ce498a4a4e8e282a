/- The contract of top's Rows. Conditions as each theorem has them. -/
import Derived.Test.YtgefggokgjneoaaHeap7
namespace Go.Proofs.Ytgefggokgjneoaa.QT
open Go.RowKit Go.Proofs.YtgefggokgjneoaaW.PrintWords Go.Proofs.YtgefggokgjneoaaW.PrintLast Go.Proofs.YtgefggokgjneoaaW.PrintMore
attribute [local go_sem] max2_int min2_int max_two min_two max_three min_three max_four min_four ta27  -- for this text's walks alone
set_option linter.unusedVariables false
set_option linter.unusedSimpArgs false
section
variable {w0 w : World} {P : Nat → Prop} {g : Nat} {T : TypeId} {rest : List Value} {A : Option Addr} {c : Nat} {l : List S27}
/-- What Rows makes: rows taken off the heap, laid from the end. -/
def rowsGo : Nat → List S27 → List S27 → List S27
  | 0, _, o => o
  | j + 1, m, o => rowsGo j ((hpopL m).take (m.length - 1)) (o.set j (rd_T27 (hpopL m) ((m.length - 1 : Nat) : Int)))
def rowsL (l : List S27) : List S27 := rowsGo l.length l (List.replicate l.length z27)
theorem hpopL_length (l : List S27) : (hpopL l).length = l.length := by unfold hpopL; rw [downL_length, swapL_length]
theorem rowsGo_length (j : Nat) : ∀ (m o : List S27), (rowsGo j m o).length = o.length := by
  induction j with
  | zero => intro m o; rfl
  | succ j ih => intro m o; simp only [rowsGo]; rw [ih, List.length_set]
theorem rowsL_length (l : List S27) : (rowsL l).length = l.length := by unfold rowsL; rw [rowsGo_length, List.length_replicate]
/-- The heap that Rows works on: a variable of its own that holds a copy. -/
theorem HS.copy {w1 : World} {A' : Option Addr} {c' : Nat} (hr : Kd.R k27 27 w1 w.heap.size (fun _ => True) (.slice A' l.length c') l) (hb : Below w.heap.size w w1) :
    HS w (fun q => q ≠ w1.heap.size + 1) (w1.alloc (.cells #[.slice A' l.length c'] 41)) w1.heap.size 41 [] A' c' l := by
  refine ⟨hb.size, by omega, blk_new w1 _, Kd.R_mono (Kd.R_alloc (Kd.R_bound hr) _) (fun k hk => ?_)⟩
  have := hk.2.2.1
  constructor <;> omega
/-- The row that is laid, and the heap that it comes from. -/
structure RS (w : World) (ob : Nat) (w' : World) (g : Nat) (A : Option Addr) (c : Nat) (m : List S27) (A1 : Option Addr) (c1 : Nat) (o : List S27) : Prop where
  hs : HS w (fun q => q ≠ ob) w' g 41 [] A c m
  out : Kd.R k27 27 w' w.heap.size (fun k => k = ob) (.slice A1 o.length c1) o
  below : Below w.heap.size w w'
  lt : ob < w'.heap.size
theorem RS.moved {ob : Nat} {w1 w2 : World} {m m2 o : List S27} {A1 : Option Addr} {c1 : Nat} (h : RS w ob w1 g A c m A1 c1 o) (k : Moved w w1 (fun q => q ≠ ob) w2 g 41 [] A c m2) : RS w ob w2 g A c m2 A1 c1 o :=
  ⟨k.hs.mono (fun q hq => hq.elim id (fun hq => by have := h.lt; omega)), Kd.R_kept h.out k.kept (fun q hq hn => hn hq), k.below, Nat.lt_of_lt_of_le h.lt k.kept.1⟩
theorem RS.front {ob : Nat} {w1 : World} {m o : List S27} {A1 : Option Addr} {c1 : Nat} (h : RS w ob w1 g A c m A1 c1 o) (hp : 0 < o.length) : A1 = some ⟨ob, 0, none⟩ := by
  obtain ⟨a, cap, hv, hb, hlt, _⟩ := Kd.R_form h.out hp
  have hP := h.out.1 a (by rw [hv]; rfl)
  injection hv with h1 h2 h3
  rw [h1, hP]
theorem RS.elem {ob : Nat} {w1 : World} {m o : List S27} {c1 : Nat} (h : RS w ob w1 g A c m (some ⟨ob, 0, none⟩) c1 o) (j : Nat) (hj : j < o.length) :
    w1.cell? ⟨ob, j * 3, none⟩ = some (.int .i64 (rd_T27 o (j : Int)).f0) ∧ w1.cell? ⟨ob, j * 3 + 1, none⟩ = some (.int .i64 (rd_T27 o (j : Int)).f1) ∧ w1.cell? ⟨ob, j * 3 + 2, none⟩ = some (.int .i64 (rd_T27 o (j : Int)).f2) ∧
      w1.frozen? ⟨ob, j * 3, none⟩ = false ∧ w1.frozen? ⟨ob, j * 3 + 1, none⟩ = false ∧ w1.frozen? ⟨ob, j * 3 + 2, none⟩ = false := by
  obtain ⟨ce, hcl, hM, hcc, hfr⟩ := Kd.R_elem h.out z27 (j : Int) (by omega) (by omega)
  obtain rfl := k27_openM hM
  rw [Int.toNat_natCast] at hcc hfr
  simp only [show k27.sz = 3 from rfl] at hcc hfr
  have h0 := hcc 0 _ rfl
  have h1 := hfr 0
  rw [Nat.add_zero] at h0 h1
  exact ⟨h0, hcc 1 _ rfl, hcc 2 _ rfl, h1, hfr 1, hfr 2⟩
theorem kset {w W : World} {S : Nat → Prop} {b o : Nat} (h : Kept w W S) (hp : S b) (u : Value) : Kept w (W.setCell ⟨b, o, none⟩ u) S := Kept.setCell h (.inl hp) u
theorem RS.set {ob : Nat} {w1 : World} {m o : List S27} {c1 : Nat} (h : RS w ob w1 g A c m (some ⟨ob, 0, none⟩) c1 o) (j : Nat) (hj : j < o.length) (x : S27) :
    RS w ob (((w1.setCell ⟨ob, j * 3, none⟩ (.int .i64 x.f0)).setCell ⟨ob, j * 3 + 1, none⟩ (.int .i64 x.f1)).setCell ⟨ob, j * 3 + 2, none⟩ (.int .i64 x.f2)) g A c m (some ⟨ob, 0, none⟩) c1 (o.set j x) := by
  obtain ⟨ce, hcl, hM, hcc, hfr⟩ := Kd.R_elem h.out z27 (j : Int) (by omega) (by omega)
  have hP := (Kd.R_seg h.out (j : Int) (by omega) (by omega) (seg := [.int .i64 x.f0, .int .i64 x.f1, .int .i64 x.f2]) (j := 0) hcl hcc (show 3 ≤ 3 from by decide) (x' := x) (by obtain rfl := k27_openM hM; exact k27_mkM _ _ _ x) (fun _ hk => hk))
  have ha := Kd.R_base h.out ob rfl
  have hkp : Kept w1 (((w1.setCell ⟨ob, j * 3, none⟩ (.int .i64 x.f0)).setCell ⟨ob, j * 3 + 1, none⟩ (.int .i64 x.f1)).setCell ⟨ob, j * 3 + 2, none⟩ (.int .i64 x.f2)) (fun q => q = ob) := by
    refine kset (kset (kset (Kept.refl _ _) ?_ _) ?_ _) ?_ _
    all_goals rfl
  refine ⟨h.hs.kept hkp (fun k hk => hk), ?_, below_set (below_set (below_set h.below ha) ha) ha, Nat.lt_of_lt_of_le h.lt hkp.1⟩
  rw [List.length_set]
  have h1 := hP.1
  rw [Int.toNat_natCast] at h1
  simp only [World.setCells, show k27.sz = 3 from rfl, Nat.add_zero, Nat.add_assoc, Nat.reduceAdd] at h1
  exact h1
theorem RS.start {w1 w2 : World} {A' A1 : Option Addr} {c' c1 : Nat} {n : Nat} (h : HS w (fun q => q ≠ w1.heap.size + 1) (w1.alloc (.cells #[.slice A' l.length c'] 41)) w1.heap.size 41 [] A' c' l)
    (hr : Kd.R k27 27 w2 w.heap.size (fun k => k = w1.heap.size + 1) (.slice A1 (List.replicate n z27).length c1) (List.replicate n z27)) (hb : Below w.heap.size w w2)
    (hg : (w1.alloc (.cells #[.slice A' l.length c'] 41)).grownBy w2 none) (hown : ∃ b, (Value.slice A1 (List.replicate n z27).length c1).ownBlock = some b) : RS w (w1.heap.size + 1) w2 w1.heap.size A' c' l A1 c1 (List.replicate n z27) := by
  refine ⟨h.kept (Kept.of_grown hg (Kept.refl _ (fun _ => False)) (fun k hk => by cases hk)) (fun _ _ hk => hk), hr, hb, ?_⟩
  obtain ⟨b, hb1⟩ := hown
  have h1 := hr.1 b hb1
  have h2 := Kd.R_lt hr b hb1
  omega
set_option maxHeartbeats 4000000 in
set_option maxRecDepth 100000 in
theorem rows_nil : Calls Try.prog 13 #[.pointer none] w fun e w' => e = .returned (.slice none 0 0) ∧ Below w.heap.size w w' := by
  go_enter Try.func13, Try.ntmps13
  go_wp2
  go_ret
  exact ⟨rfl, by repeat (first | exact Below.refl _ _ | apply below_alloc | apply below_drew1)⟩
set_option maxHeartbeats 8000000 in
set_option maxRecDepth 100000 in
theorem rows_calls {m : Nat} (h : HS w0 P w g 43 [.int .i64 (m : Int)] A c l) (hl : l.length < 1099511627776) :
    Calls Try.prog 13 #[.pointer (some ⟨g, 0, none⟩)] w fun e w' => ∃ A' c', e = .returned (.slice A' (rowsL l).length c') ∧ Kd.R k27 27 w' w.heap.size (fun _ => True) (.slice A' (rowsL l).length c') (rowsL l) ∧ Below w.heap.size w w' := by
  have HLn := Aside0.mk hl
  have hcell := h.cell
  have HC1 := Aside0.mk (copied_calls h.reads h.fits hl)
  have hlb : (l.length : Int) ≤ 1099511627776 := by omega
  clear h hl
  go_enter Try.func13, Try.ntmps13
  go_wp2_with (first
    | (go_at_call 19; refine HC1.out.mono ?_; rintro e w1 ⟨A', c', rfl, ho, hb⟩; have HO := Aside0.mk ho; have HB := Aside0.mk hb; have HH := Aside0.mk (HS.copy ho hb); clear ho hb HC1 hcell)
    | ((with_reducible refine gate_dst (N := 15) rfl ?_); refine Kd.R_make k27 (w0 := w) w.heap.size 27 ?hg (N := 15) ?hd 22 (.tmp 14) (.tmp 14) ?ho (l.length : Int) ?hx ?hy Try.underlying22 (.agg #[(.int .i64 0), (.int .i64 0), (.int .i64 0)]) 24 info27 rfl (by decide) (by omega) z27 (ok := fun k => k = w1.heap.size + 1) (okp := fun _ => False) ?hz (fun _ hk => hk.elim) ?hf (by omega) ?hl ?hB ?hb ?_; (case hg => rfl); (case hd => rfl); (case ho => rfl); (case hx => rfl); (case hy => rfl); (case hz => exact k27_mkM _ _ _ z27); (case hf => simp); (case hl => have := HLn.out; simp; omega); (case hB => exact below_alloc HB.out _); (case hb => exact below_size (below_alloc HB.out _)); intro v1 w2 hr hb2 hg2 hown; obtain ⟨A1, c1, hv⟩ := Kd.R_slice hr; subst hv; rw [Int.toNat_natCast] at hr; have HS0 := Aside0.mk (RS.start HH.out hr hb2 hg2 (hown.elim (fun b hb => ⟨b, by simpa using hb.1⟩))); clear hr hb2 hg2 hown))
  go_loopg [5] (l.length + 1) (fun gk v5 w' => ∃ (j : Nat) (k : Int) (mm o : List S27), v5 = .int .i64 k ∧ Aside0 (k = (j : Int) - 1) ∧ Aside0 (j < gk ∧ j ≤ l.length ∧ mm.length = j) ∧ Aside0 (o.length = l.length) ∧ Aside0 (rowsGo j mm o = rowsL l) ∧ Aside0 (RS w (w1.heap.size + 1) w' w1.heap.size A' c' mm A1 c1 o))
  case atStart =>
    refine ⟨l.length, _, l, List.replicate l.length z27, rfl, ⟨rfl⟩, ⟨by omega, Nat.le_refl _, rfl⟩, ⟨List.length_replicate ..⟩, ⟨rfl⟩, ?_⟩
    exact HS0
  case round =>
    clear HS0
    obtain ⟨j, k, mm, o, rfl, HK, HJ, HO2, HU, HS1⟩ := hrel
    obtain ⟨gk, rfl⟩ : ∃ k, gk = k + 1 := ⟨gk - 1, by have := HJ.out.1; omega⟩
    rcases j with _ | j
    · obtain rfl : k = -1 := by have := HK.out; omega
      have hU : o = rowsL l := HU.out
      have hlen := Aside0.mk HO2.out
      go_wp2
      go_ret
      refine ⟨A1, c1, ?_, ?_, HS1.out.below⟩
      · rw [rowsL_length]; rfl
      · rw [← hU]; exact Kd.R_mono HS1.out.out (fun _ _ => trivial)
    · obtain rfl : k = (j : Int) := by have := HK.out; omega
      have hjb : (j : Int) ≤ 1099511627776 := by have := HJ.out; omega
      have hj0 : (0 : Int) ≤ (j : Int) := by omega
      have hjl : (j : Int) < (l.length : Int) := by have := HJ.out; omega
      have hA1 := HS1.out.front (by have := HJ.out; have := HO2.out; omega)
      subst hA1
      have HC2 := Aside0.mk (hpop_calls HS1.out.hs HS1.out.below (by have := HJ.out; omega) (by have := HJ.out; have := HLn.out; omega))
      have hml := HJ.out.2.2
      have hmj : mm.length - 1 = j := by omega
      generalize hy : rd_T27 (hpopL mm) ((mm.length - 1 : Nat) : Int) = y at HC2
      have HU2 := Aside0.mk (show rowsGo j ((hpopL mm).take (mm.length - 1)) (o.set j y) = rowsL l by rw [← HU.out, ← hy]; rfl)
      clear HU hy HK hml
      unfold enc27 at HC2
      go_wp2_with (go_at_call 20; refine HC2.out.mono ?_; rintro e w3 ⟨rfl, hmv⟩; have HS3 := Aside0.mk (RS.moved HS1.out hmv); clear hmv HC2; obtain ⟨hx0, hx1, hx2, hf0, hf1, hf2⟩ := HS3.out.elem j (by have := HJ.out; have := HO2.out; omega))
      go_roundg gk
      case measure => omega
      case rel =>
        refine ⟨j, _, _, o.set j y, rfl, ⟨rfl⟩, ⟨?_, ?_, ?_⟩, ⟨?_⟩, HU2, ⟨?_⟩⟩
        · have := HJ.out; omega
        · have := HJ.out; omega
        · rw [List.length_take, hpopL_length]; omega
        · rw [List.length_set]; exact HO2.out
        · exact RS.set HS3.out j (by have := HJ.out; have := HO2.out; omega) y
end
end Go.Proofs.Ytgefggokgjneoaa.QT
