/- The contracts of top's New, Len, copied and Add. Conditions as each theorem has them. -/
import Derived.Test.YtgefggokgjneoaaHeap6
namespace Go.Proofs.Ytgefggokgjneoaa.QT
open Go.RowKit Go.Proofs.YtgefggokgjneoaaW.PrintWords Go.Proofs.YtgefggokgjneoaaW.PrintLast Go.Proofs.YtgefggokgjneoaaW.PrintMore
attribute [local go_sem] max2_int min2_int max_two min_two max_three min_three max_four min_four   -- for this text's walks alone
set_option linter.unusedVariables false
set_option linter.unusedSimpArgs false
section
variable {w0 w : World} {P : Nat → Prop} {g : Nat} {T : TypeId} {rest : List Value} {A : Option Addr} {c : Nat} {l : List S27}
theorem HS.cell1 {m : Int} (h : HS w0 P w g 43 [.int .i64 m] A c l) : w.cell? ⟨g, 1, none⟩ = some (.int .i64 m) := by
  rw [blk_cell h.blk 1]; rfl
/-- A row of one's own has a block, if it isn't empty. -/
theorem HS.front (h : HS w0 P w g T rest A c l) (hp : 0 < l.length) : ∃ a, A = some ⟨a, 0, none⟩ ∧ P a ∧ a ≠ g ∧ w0.heap.size ≤ a ∧ a < w.heap.size := by
  obtain ⟨a, cap, hv, hb, hlt, _⟩ := Kd.R_form h.row hp
  have hP := h.row.1 a (by rw [hv]; rfl)
  injection hv with h1 h2 h3
  exact ⟨a, h1, hP.1, hP.2, hb, hlt⟩
theorem HS.elem0 {a : Nat} (h : HS w0 P w g T rest (some ⟨a, 0, none⟩) c l) (hp : 0 < l.length) :
    w.cell? ⟨a, 0, none⟩ = some (.int .i64 (rd_T27 l 0).f0) ∧ w.cell? ⟨a, 1, none⟩ = some (.int .i64 (rd_T27 l 0).f1) ∧ w.cell? ⟨a, 2, none⟩ = some (.int .i64 (rd_T27 l 0).f2) ∧
      w.frozen? ⟨a, 0, none⟩ = false ∧ w.frozen? ⟨a, 1, none⟩ = false ∧ w.frozen? ⟨a, 2, none⟩ = false := by
  obtain ⟨ce, hcl, hM, hcc, hfr⟩ := Kd.R_elem h.row z27 (0 : Int) (by omega) (by omega)
  obtain rfl := k27_openM hM
  simp only [Int.toNat_zero, Nat.zero_mul, Nat.zero_add] at hcc hfr
  exact ⟨hcc 0 _ rfl, hcc 1 _ rfl, hcc 2 _ rfl, hfr 0, hfr 1, hfr 2⟩
theorem HS.set0 {a : Nat} (h : HS w0 P w g T rest (some ⟨a, 0, none⟩) c l) (hp : 0 < l.length) (x : S27) :
    HS w0 P (((w.setCell ⟨a, 0, none⟩ (.int .i64 x.f0)).setCell ⟨a, 1, none⟩ (.int .i64 x.f1)).setCell ⟨a, 2, none⟩ (.int .i64 x.f2)) g T rest (some ⟨a, 0, none⟩) c (l.set 0 x) := by
  obtain ⟨ce, hcl, hM, hcc, hfr⟩ := Kd.R_elem h.row z27 (0 : Int) (by omega) (by omega)
  have hP := (Kd.R_seg h.row (0 : Int) (by omega) (by omega) (seg := [.int .i64 x.f0, .int .i64 x.f1, .int .i64 x.f2]) (j := 0) hcl hcc (show 3 ≤ 3 from by decide) (x' := x) (by obtain rfl := k27_openM hM; exact k27_mkM _ _ _ x) (fun _ hk => hk))
  have hag := (h.row.1 a rfl).2
  refine ⟨h.base, h.mine, ?_, ?_⟩
  · rw [List.length_set]
    have h3 := hP.2.block g h.lt (by intro he; injection he with he; exact hag he.symm)
    exact h3.trans h.blk
  · rw [List.length_set]
    exact hP.1
theorem HS.new (hB : Below w0.heap.size w0 w) (T : TypeId) (rest : List Value) : HS w0 (fun k => w.heap.size ≤ k) (w.alloc (.cells ((Value.slice none 0 0) :: rest).toArray T)) w.heap.size T rest none 0 [] :=
  ⟨hB.size, Nat.le_refl _, blk_new w _, Kd.R_nil _ _ _ _ _⟩
set_option maxHeartbeats 4000000 in
set_option maxRecDepth 100000 in
theorem new_calls (a : Int) (ha : a ≤ 9223372036854775807) (ha2 : -9223372036854775808 ≤ a) (hB : Below w0.heap.size w0 w) :
    Calls Try.prog 9 #[.int .i64 a] w fun e w' => ∃ g, e = .returned (.pointer (some ⟨g, 0, none⟩)) ∧ w.heap.size ≤ g ∧ HS w0 (fun k => w.heap.size ≤ k) w' g 43 [.int .i64 (if 0 < a then a else 0)] none 0 [] ∧ Below w0.heap.size w0 w' ∧ Below w.heap.size w w' := by
  have HBB := Aside0.mk hB
  clear hB
  by_cases h0 : 0 < a
  · rw [if_pos h0]
    go_enter Try.func9, Try.ntmps9
    go_wp2
    try (rename_i h5; exact absurd h5 (by omega))
    all_goals go_ret
    all_goals first
      | exact ⟨_, rfl, Nat.le_refl _, HS.new HBB.out 43 [.int .i64 a], below_alloc HBB.out _, below_alloc (Below.refl _ _) _⟩
      | (exfalso; omega)
  · rw [if_neg h0]
    go_enter Try.func9, Try.ntmps9
    go_wp2
    all_goals go_ret
    all_goals first
      | exact ⟨_, rfl, Nat.le_refl _, HS.new HBB.out 43 [.int .i64 0], below_alloc HBB.out _, below_alloc (Below.refl _ _) _⟩
      | (exfalso; omega)
set_option maxHeartbeats 4000000 in
set_option maxRecDepth 100000 in
theorem tlen_calls {m : Int} (h : HS w0 P w g 43 [.int .i64 m] A c l) : Calls Try.prog 14 #[.pointer (some ⟨g, 0, none⟩)] w fun e w' => e = .returned (.int .i64 (l.length : Int)) ∧ Below w.heap.size w w' := by
  have hcell := h.cell
  clear h
  go_enter Try.func14, Try.ntmps14
  go_wp2
  go_ret
  exact ⟨rfl, by repeat (first | exact Below.refl _ _ | apply below_alloc | apply below_drew1)⟩
set_option maxHeartbeats 4000000 in
set_option maxRecDepth 100000 in
theorem tlen_nil : Calls Try.prog 14 #[.pointer none] w fun e w' => e = .returned (.int .i64 0) ∧ Below w.heap.size w w' := by
  go_enter Try.func14, Try.ntmps14
  go_wp2
  go_ret
  exact ⟨rfl, by repeat (first | exact Below.refl _ _ | apply below_alloc | apply below_drew1)⟩
set_option maxHeartbeats 4000000 in
set_option maxRecDepth 100000 in
theorem copied_calls (hr : Kd.C k27 w A l.length l) (hc : l.length ≤ c) (hl : l.length < 1099511627776) :
    Calls Try.prog 19 #[.slice A l.length c] w fun e w' => ∃ A' c', e = .returned (.slice A' l.length c') ∧ Kd.R k27 27 w' w.heap.size (fun _ => True) (.slice A' l.length c') l ∧ Below w.heap.size w w' := by
  have HR := Aside0.mk hr
  have HLn := Aside0.mk hl
  clear hr
  go_enter Try.func19, Try.ntmps19
  go_wp2_with (first | ((with_reducible refine gate_builtin (b := .append) (xs := #[.const (.slice none 0 0), .tmp 3]) rfl ?_); at_builtin; refine Kd.R_append_rows k27 (w0 := w) w.heap.size rfl (.const (.slice none 0 0)) (.tmp 3) 22 27 (.agg #[(.int .i64 0), (.int .i64 0), (.int .i64 0)]) 24 rfl Try.underlying22 info27 rfl (by decide) (by omega) (.slice none 0 0) [] l _ _ _ (fun _ => True) (fun _ => False) rfl rfl ?aO ?aR (fun _ _ h => h) (fun _ h => h.elim) ?aF ?aB ?aS ?aL ?_; (case aR => exact HR.out); (case aB => exact Below.refl _ _); (case aF => exact (fun _ _ => trivial)); (case aO => exact Kd.R_nil _ _ _ _ _); (case aS => exact Nat.le_refl _); (case aL => have := HLn.out; simp; omega); intro v109 w5 ho hb hg hat; obtain ⟨A', c', hv⟩ := Kd.R_slice ho; subst hv; rw [List.nil_append] at ho; have HO := Aside0.mk ho; have HB := Aside0.mk hb; clear ho hb hg hat))
  go_ret
  exact ⟨A', c', rfl, HO.out, HB.out⟩
/-- What Add makes of the rows, and what it tells. -/
def addL (l : List S27) (m : Nat) (x : S27) : List S27 := if m = 0 then l else if l.length < m then hpushL l x else if aheadB x (rd_T27 l 0) = true then hfixL (l.set 0 x) else l
def addB (l : List S27) (m : Nat) (x : S27) : Bool := if m = 0 then false else if l.length < m then true else aheadB x (rd_T27 l 0)
theorem Moved.widen {w' : World} {P' : Nat → Prop} (h : Moved w0 w P w' g T rest A c l) (hP : ∀ q, P q → P' q) : Moved w0 w P' w' g T rest A c l :=
  ⟨h.hs.mono (fun q hq => hq.elim (fun hq => .inl (hP q hq)) .inr), h.below, Kept.mono h.kept hP⟩
theorem Moved.set0 {w3 : World} {a : Nat} (h : Moved w0 w P w3 g T rest (some ⟨a, 0, none⟩) c l) (hp : 0 < l.length) (x : S27) :
    Moved w0 w P (((w3.setCell ⟨a, 0, none⟩ (.int .i64 x.f0)).setCell ⟨a, 1, none⟩ (.int .i64 x.f1)).setCell ⟨a, 2, none⟩ (.int .i64 x.f2)) g T rest (some ⟨a, 0, none⟩) c (l.set 0 x) := by
  have ha := Kd.R_base h.hs.row a rfl
  have hP := (h.hs.row.1 a rfl).1
  exact ⟨h.hs.set0 hp x, below_set (below_set (below_set h.below ha) ha) ha, Kept.setCell (Kept.setCell (Kept.setCell h.kept hP _) hP _) hP _⟩
theorem Moved.drew {w3 : World} (h : Moved w0 w P w3 g T rest A c l) : Moved w0 w P w3.drew g T rest A c l := ⟨⟨h.hs.base, h.hs.mine, h.hs.blk, Kd.R_drew h.hs.row⟩, below_drew1 h.below, h.kept⟩
theorem Moved.of_below {w1 : World} (h : HS w0 P w g T rest A c l) (hB : Below w0.heap.size w0 w) (hb : Below w.heap.size w w1) : Moved w0 w P w1 g T rest A c l :=
  ⟨(h.below hb).mono (fun _ hq => .inl hq), below_then hB hB.size hb, Kept.of_below hb _⟩
set_option maxHeartbeats 4000000 in
set_option maxRecDepth 100000 in
theorem add_zero (h : HS w0 P w g 43 [.int .i64 0] A c l) (hB : Below w0.heap.size w0 w) (x : S27) :
    Calls Try.prog 11 #[.pointer (some ⟨g, 0, none⟩), enc27 x] w fun e w' => e = .returned (.bool false) ∧ Moved w0 w P w' g 43 [.int .i64 0] A c l := by
  have HT := Aside0.mk h
  have HBB := Aside0.mk hB
  have hcell := h.cell
  have hcell1 := h.cell1
  have hlt := h.lt
  unfold enc27
  clear h hB
  go_enter Try.func11, Try.ntmps11
  go_wp2
  go_ret
  exact ⟨rfl, Moved.of_below HT.out HBB.out (below_alloc (Below.refl _ _) _)⟩
set_option maxHeartbeats 4000000 in
set_option maxRecDepth 100000 in
theorem add_nil (x : S27) :
    Calls Try.prog 11 #[.pointer none, enc27 x] w fun e w' => e = .returned (.bool false) ∧ Below w.heap.size w w' := by
  unfold enc27
  go_enter Try.func11, Try.ntmps11
  go_wp2
  go_ret
  exact ⟨rfl, by repeat (first | exact Below.refl _ _ | apply below_alloc | apply below_drew1)⟩
set_option maxHeartbeats 8000000 in
set_option maxRecDepth 100000 in
theorem add_push {m : Nat} (h : HS w0 P w g 43 [.int .i64 (m : Int)] A c l) (hB : Below w0.heap.size w0 w) (x : S27) (hl : l.length < 1099511627776) (hm : m ≤ 9223372036854775807) (hm0 : m ≠ 0) (hlm : l.length < m) :
    Calls Try.prog 11 #[.pointer (some ⟨g, 0, none⟩), enc27 x] w fun e w' => e = .returned (.bool true) ∧ ∃ A' c', Moved w0 w P w' g 43 [.int .i64 (m : Int)] A' c' (hpushL l x) := by
  have hlm2 : (l.length : Int) < (m : Int) := by omega
  have HLn := Aside0.mk (And.intro hl hm)
  have HT := Aside0.mk h
  have hcell := h.cell
  have hcell1 := h.cell1
  have hlt := h.lt
  have hm2 : ¬ ((m : Int) = 0) := by omega
  have HT1 := Aside0.mk (h.below (below_alloc (Below.refl _ _) (.cells #[.int .i64 x.f0, .int .i64 x.f1, .int .i64 x.f2] 27)))
  have HB1 := Aside0.mk (below_alloc (Below.refl w.heap.size w) (.cells #[.int .i64 x.f0, .int .i64 x.f1, .int .i64 x.f2] 27))
  have HBB := Aside0.mk (below_then hB hB.size HB1.out)
  have HBo := Aside0.mk (blk_new w (.cells #[.int .i64 x.f0, .int .i64 x.f1, .int .i64 x.f2] 27))
  have HB0 := Aside0.mk hB
  unfold enc27
  clear h hB hl
  go_enter Try.func11, Try.ntmps11
  go_wp2
  generalize w.alloc (.cells #[.int .i64 x.f0, .int .i64 x.f1, .int .i64 x.f2] 27) = w1 at HT1 HB1 HBo HBB ⊢
  refine start_ (n := 11) (S := fun w' => w'.cell? ⟨g, 0, none⟩ = some (.slice A l.length c) ∧ w'.cell? ⟨g, 1, none⟩ = some (.int .i64 (m : Int))) (ds := []) #[false, false, false, false, false, false, false, false, false, false, false] (by kernel_rfl) rfl rfl (⟨HT1.out.cell, HT1.out.cell1⟩) (fun hHeld => ?_); refine with_tab (T := rtab .any (opsOf Try.f11 3)) rfl (fun HT_ => ?_)
  refine pure_ (i := 0) (N := (some 16)) (v := ?_) (a' := ?_) #[true, false, false, false, false, false, false, false, false, false, false] rfl rfl (any_of HT_.out (by kernel_rfl)) (fun _ _ _ h => h) (Or.inl ⟨by rfl, ?_⟩) ?_ ?_
  rotate_left
  · intro w'
    go_simp
    with_reducible rfl
  rotate_left
  · simp only [Act.put, List.setIfInBounds_toArray, List.set_cons_zero, List.set_cons_succ, i64_w, i32_w]
    rfl
  refine pure_ (i := 1) (N := (some 17)) (v := ?_) (a' := ?_) #[true, true, false, false, false, false, false, false, false, false, false] rfl rfl (any_of HT_.out (by kernel_rfl)) (fun _ _ _ h => h) (Or.inl ⟨by rfl, ?_⟩) ?_ ?_
  rotate_left
  · intro w'
    go_simp
    with_reducible rfl
  rotate_left
  · simp only [Act.put, List.setIfInBounds_toArray, List.set_cons_zero, List.set_cons_succ, i64_w, i32_w]
    rfl
  refine pure_ (i := 2) (N := (some 18)) (v := ?_) (a' := ?_) #[true, true, true, false, false, false, false, false, false, false, false] rfl rfl (any_of HT_.out (by kernel_rfl)) (fun _ _ _ h => h) (Or.inl ⟨by rfl, ?_⟩) ?_ ?_
  rotate_left
  · intro w'
    go_simp
    with_reducible rfl
  rotate_left
  · simp only [Act.put, List.setIfInBounds_toArray, List.set_cons_zero, List.set_cons_succ, i64_w, i32_w]
    rfl
  refine pure_ (i := 5) (N := (some 21)) (v := ?_) (a' := ?_) #[true, true, true, false, false, true, false, false, false, false, false] rfl rfl (any_of HT_.out (by kernel_rfl)) (fun _ _ _ h => h) (Or.inl ⟨by rfl, ?_⟩) ?_ ?_
  rotate_left
  · intro w'
    go_simp
    with_reducible rfl
  rotate_left
  · simp only [Act.put, List.setIfInBounds_toArray, List.set_cons_zero, List.set_cons_succ, i64_w, i32_w]
    rfl
  refine pure_ (i := 6) (N := (some 22)) (v := ?_) (a' := ?_) #[true, true, true, false, false, true, true, false, false, false, false] rfl rfl (any_of HT_.out (by kernel_rfl)) (fun _ _ _ h => h) (Or.inl ⟨by rfl, ?_⟩) ?_ ?_
  rotate_left
  · intro w'
    go_simp
    with_reducible rfl
  rotate_left
  · simp only [Act.put, List.setIfInBounds_toArray, List.set_cons_zero, List.set_cons_succ, i64_w, i32_w]
    rfl
  refine pure_ (i := 7) (N := (some 23)) (v := ?_) (a' := ?_) #[true, true, true, false, false, true, true, true, false, false, false] rfl rfl (any_of HT_.out (by kernel_rfl)) (fun _ _ _ h => h) (Or.inl ⟨by rfl, ?_⟩) ?_ ?_
  rotate_left
  · intro w'
    go_simp
    with_reducible rfl
  rotate_left
  · simp only [Act.put, List.setIfInBounds_toArray, List.set_cons_zero, List.set_cons_succ, i64_w, i32_w]
    rfl
  refine take_ (i := 3) (N := (some 19)) (v := ?_) (a' := ?_) #[true, true, true, true, false, true, true, true, false, false, false] rfl rfl (take_of HT_.out (by kernel_rfl)) (fun _ _ _ h => h) (Or.inl ⟨by rfl, ?_⟩) hHeld ?_ ?_
  rotate_left
  · rintro w' ⟨s0, s1⟩
    go_simp
    with_reducible rfl
  rotate_left
  · simp only [Act.put, List.setIfInBounds_toArray, List.set_cons_zero, List.set_cons_succ, i64_w, i32_w]
    rfl
  refine take_ (i := 8) (N := (some 24)) (v := ?_) (a' := ?_) #[true, true, true, true, false, true, true, true, true, false, false] rfl rfl (take_of HT_.out (by kernel_rfl)) (fun _ _ _ h => h) (Or.inl ⟨by rfl, ?_⟩) hHeld ?_ ?_
  rotate_left
  · rintro w' ⟨s0, s1⟩
    go_simp
    with_reducible rfl
  rotate_left
  · simp only [Act.put, List.setIfInBounds_toArray, List.set_cons_zero, List.set_cons_succ, i64_w, i32_w]
    rfl
  refine pure_ (i := 4) (N := (some 20)) (v := ?_) (a' := ?_) #[true, true, true, true, true, true, true, true, true, false, false] rfl rfl (any_of HT_.out (by kernel_rfl)) (fun _ _ _ h => h) (Or.inl ⟨by rfl, ?_⟩) ?_ ?_
  rotate_left
  · intro w'
    go_simp
    with_reducible rfl
  rotate_left
  · simp only [Act.put, List.setIfInBounds_toArray, List.set_cons_zero, List.set_cons_succ, i64_w, i32_w]
    rfl
  refine pure_ (i := 9) (N := (some 25)) (v := ?_) (a' := ?_) #[true, true, true, true, true, true, true, true, true, true, false] rfl rfl (any_of HT_.out (by kernel_rfl)) (fun _ _ _ h => h) (Or.inl ⟨by rfl, ?_⟩) ?_ ?_
  rotate_left
  · intro w'
    go_simp
    with_reducible rfl
  rotate_left
  · simp only [Act.put, List.setIfInBounds_toArray, List.set_cons_zero, List.set_cons_succ, i64_w, i32_w]
    rfl
  refine pure_ (i := 10) (N := (some 15)) (v := ?_) (a' := ?_) #[true, true, true, true, true, true, true, true, true, true, true] rfl rfl (any_of HT_.out (by kernel_rfl)) (fun _ _ _ h => h) (Or.inl ⟨by rfl, ?_⟩) ?_ ?_
  rotate_left
  · intro w'
    go_simp
    with_reducible rfl
  rotate_left
  · simp only [Act.put, List.setIfInBounds_toArray, List.set_cons_zero, List.set_cons_succ, i64_w, i32_w]
    rfl
  refine done_ (done_of HT_.out (by kernel_rfl)) ?_
  go_wp2
  refine start_ (n := 7) (S := fun w' => w'.cell? ⟨w.heap.size, 0, none⟩ = some (.int .i64 x.f0) ∧ w'.cell? ⟨w.heap.size, 1, none⟩ = some (.int .i64 x.f1) ∧ w'.cell? ⟨w.heap.size, 2, none⟩ = some (.int .i64 x.f2)) (ds := [6]) #[false, false, false, false, false, false, false] (by kernel_rfl) rfl rfl (⟨(blk_cell HBo.out 0), (blk_cell HBo.out 1), (blk_cell HBo.out 2)⟩) (fun hHeld => ?_); refine with_tab (T := rtab .any (opsOf Try.f11 4)) rfl (fun HT_ => ?_)
  refine pure_ (i := 0) (N := (some 26)) (v := ?_) (a' := ?_) #[true, false, false, false, false, false, false] rfl rfl (any_of HT_.out (by kernel_rfl)) (fun _ _ _ h => h) (Or.inl ⟨by rfl, ?_⟩) ?_ ?_
  rotate_left
  · intro w'
    go_simp
    with_reducible rfl
  rotate_left
  · simp only [Act.put, List.setIfInBounds_toArray, List.set_cons_zero, List.set_cons_succ, i64_w, i32_w]
    rfl
  refine pure_ (i := 1) (N := (some 27)) (v := ?_) (a' := ?_) #[true, true, false, false, false, false, false] rfl rfl (any_of HT_.out (by kernel_rfl)) (fun _ _ _ h => h) (Or.inl ⟨by rfl, ?_⟩) ?_ ?_
  rotate_left
  · intro w'
    go_simp
    with_reducible rfl
  rotate_left
  · simp only [Act.put, List.setIfInBounds_toArray, List.set_cons_zero, List.set_cons_succ, i64_w, i32_w]
    rfl
  refine pure_ (i := 2) (N := (some 28)) (v := ?_) (a' := ?_) #[true, true, true, false, false, false, false] rfl rfl (any_of HT_.out (by kernel_rfl)) (fun _ _ _ h => h) (Or.inl ⟨by rfl, ?_⟩) ?_ ?_
  rotate_left
  · intro w'
    go_simp
    with_reducible rfl
  rotate_left
  · simp only [Act.put, List.setIfInBounds_toArray, List.set_cons_zero, List.set_cons_succ, i64_w, i32_w]
    rfl
  refine pure_ (i := 3) (N := (some 29)) (v := ?_) (a' := ?_) #[true, true, true, true, false, false, false] rfl rfl (any_of HT_.out (by kernel_rfl)) (fun _ _ _ h => h) (Or.inl ⟨by rfl, ?_⟩) ?_ ?_
  rotate_left
  · intro w'
    go_simp
    with_reducible rfl
  rotate_left
  · simp only [Act.put, List.setIfInBounds_toArray, List.set_cons_zero, List.set_cons_succ, i64_w, i32_w]
    rfl
  refine take_ (i := 4) (N := (some 30)) (v := ?_) (a' := ?_) #[true, true, true, true, true, false, false] rfl rfl (take_of HT_.out (by kernel_rfl)) (fun _ _ _ h => h) (Or.inl ⟨by rfl, ?_⟩) hHeld ?_ ?_
  rotate_left
  · rintro w' ⟨s0, s1, s2⟩
    go_simp
    with_reducible rfl
  rotate_left
  · simp only [Act.put, List.setIfInBounds_toArray, List.set_cons_zero, List.set_cons_succ, i64_w, i32_w]
    rfl
  refine pure_ (i := 5) (N := (some 31)) (v := ?_) (a' := ?_) #[true, true, true, true, true, true, false] rfl rfl (any_of HT_.out (by kernel_rfl)) (fun _ _ _ h => h) (Or.inl ⟨by rfl, ?_⟩) ?_ ?_
  rotate_left
  · intro w'
    go_simp
    with_reducible rfl
  rotate_left
  · simp only [Act.put, List.setIfInBounds_toArray, List.set_cons_zero, List.set_cons_succ, i64_w, i32_w]
    rfl
  refine last_ (i := 6) (N := (some 32)) #[true, true, true, true, true, true, true] rfl rfl (one_of HT_.out (by kernel_rfl)) (by decide) (fun K hK => ?_)
  refine goes_ Try.func17 (by kernel_rfl) rfl #[.iface 45 (.pointer (some ⟨g, 0, none⟩)), .iface 27 (.agg #[.int .i64 x.f0, .int .i64 x.f1, .int .i64 x.f2])] (by rfl) rfl rfl (by (try simp only [List.map_toArray, List.map_cons, List.map_nil]); first | done | rfl) ?_
  refine (hpush_calls (w := w1.drew.drew) (HT1.out.below (by repeat (first | exact Below.refl _ _ | apply below_drew1))) (by repeat (first | exact HBB.out | apply below_drew1)) x HLn.out.1).mono ?_
  rintro e w3 ⟨rfl, A', c', hmv⟩
  have HM := Aside0.mk (Moved.then_ (Moved.of_below HT.out HB0.out (below_then HB1.out HB1.out.size (by repeat (first | exact Below.refl _ _ | apply below_drew1)))) (Moved.widen hmv (fun q hq => .inl hq)))
  clear hmv
  refine ⟨_, rfl, ?_⟩
  refine hK.out _ _ ?_
  clear hK K
  refine norm_ (a' := ?_) ?_ ?_
  rotate_left
  · show Act.put _ (some 32) _ = _
    simp only [Act.put, List.setIfInBounds_toArray, List.set_cons_zero, List.set_cons_succ, i64_w, i32_w]
    rfl
  refine done_ (done_of HT_.out (by kernel_rfl)) ?_
  try go_wp2
  go_ret
  exact ⟨rfl, A', c', HM.out⟩
set_option maxHeartbeats 8000000 in
set_option maxRecDepth 100000 in
theorem add_keep {m : Nat} (h : HS w0 P w g 43 [.int .i64 (m : Int)] A c l) (hB : Below w0.heap.size w0 w) (x : S27) (hl : l.length < 1099511627776) (hm : m ≤ 9223372036854775807) (hm0 : m ≠ 0) (hlm : ¬ l.length < m) (hah : aheadB x (rd_T27 l 0) = false) :
    Calls Try.prog 11 #[.pointer (some ⟨g, 0, none⟩), enc27 x] w fun e w' => e = .returned (.bool false) ∧ Moved w0 w P w' g 43 [.int .i64 (m : Int)] A c l := by
  have hlm2 : ¬ ((l.length : Int) < (m : Int)) := by omega
  have hpos : 0 < l.length := by omega
  obtain ⟨a, rfl, hPa, hag, hab, halt⟩ := h.front hpos
  have HLn := Aside0.mk (And.intro hl hm)
  have HT := Aside0.mk h
  have hcell := h.cell
  have hcell1 := h.cell1
  have hlt := h.lt
  have hm2 : ¬ ((m : Int) = 0) := by omega
  have HT1 := Aside0.mk (h.below (below_alloc (Below.refl _ _) (.cells #[.int .i64 x.f0, .int .i64 x.f1, .int .i64 x.f2] 27)))
  have HB1 := Aside0.mk (below_alloc (Below.refl w.heap.size w) (.cells #[.int .i64 x.f0, .int .i64 x.f1, .int .i64 x.f2] 27))
  have HBB := Aside0.mk (below_then hB hB.size HB1.out)
  have HBo := Aside0.mk (blk_new w (.cells #[.int .i64 x.f0, .int .i64 x.f1, .int .i64 x.f2] 27))
  have HB0 := Aside0.mk hB
  unfold enc27
  clear h hB hl
  go_enter Try.func11, Try.ntmps11
  go_wp2
  generalize w.alloc (.cells #[.int .i64 x.f0, .int .i64 x.f1, .int .i64 x.f2] 27) = w1 at HT1 HB1 HBo HBB ⊢
  refine start_ (n := 11) (S := fun w' => w'.cell? ⟨g, 0, none⟩ = some (.slice (some ⟨a, 0, none⟩) l.length c) ∧ w'.cell? ⟨g, 1, none⟩ = some (.int .i64 (m : Int))) (ds := []) #[false, false, false, false, false, false, false, false, false, false, false] (by kernel_rfl) rfl rfl (⟨HT1.out.cell, HT1.out.cell1⟩) (fun hHeld => ?_); refine with_tab (T := rtab .any (opsOf Try.f11 3)) rfl (fun HT_ => ?_)
  refine pure_ (i := 0) (N := (some 16)) (v := ?_) (a' := ?_) #[true, false, false, false, false, false, false, false, false, false, false] rfl rfl (any_of HT_.out (by kernel_rfl)) (fun _ _ _ h => h) (Or.inl ⟨by rfl, ?_⟩) ?_ ?_
  rotate_left
  · intro w'
    go_simp
    with_reducible rfl
  rotate_left
  · simp only [Act.put, List.setIfInBounds_toArray, List.set_cons_zero, List.set_cons_succ, i64_w, i32_w]
    rfl
  refine pure_ (i := 1) (N := (some 17)) (v := ?_) (a' := ?_) #[true, true, false, false, false, false, false, false, false, false, false] rfl rfl (any_of HT_.out (by kernel_rfl)) (fun _ _ _ h => h) (Or.inl ⟨by rfl, ?_⟩) ?_ ?_
  rotate_left
  · intro w'
    go_simp
    with_reducible rfl
  rotate_left
  · simp only [Act.put, List.setIfInBounds_toArray, List.set_cons_zero, List.set_cons_succ, i64_w, i32_w]
    rfl
  refine pure_ (i := 2) (N := (some 18)) (v := ?_) (a' := ?_) #[true, true, true, false, false, false, false, false, false, false, false] rfl rfl (any_of HT_.out (by kernel_rfl)) (fun _ _ _ h => h) (Or.inl ⟨by rfl, ?_⟩) ?_ ?_
  rotate_left
  · intro w'
    go_simp
    with_reducible rfl
  rotate_left
  · simp only [Act.put, List.setIfInBounds_toArray, List.set_cons_zero, List.set_cons_succ, i64_w, i32_w]
    rfl
  refine pure_ (i := 5) (N := (some 21)) (v := ?_) (a' := ?_) #[true, true, true, false, false, true, false, false, false, false, false] rfl rfl (any_of HT_.out (by kernel_rfl)) (fun _ _ _ h => h) (Or.inl ⟨by rfl, ?_⟩) ?_ ?_
  rotate_left
  · intro w'
    go_simp
    with_reducible rfl
  rotate_left
  · simp only [Act.put, List.setIfInBounds_toArray, List.set_cons_zero, List.set_cons_succ, i64_w, i32_w]
    rfl
  refine pure_ (i := 6) (N := (some 22)) (v := ?_) (a' := ?_) #[true, true, true, false, false, true, true, false, false, false, false] rfl rfl (any_of HT_.out (by kernel_rfl)) (fun _ _ _ h => h) (Or.inl ⟨by rfl, ?_⟩) ?_ ?_
  rotate_left
  · intro w'
    go_simp
    with_reducible rfl
  rotate_left
  · simp only [Act.put, List.setIfInBounds_toArray, List.set_cons_zero, List.set_cons_succ, i64_w, i32_w]
    rfl
  refine pure_ (i := 7) (N := (some 23)) (v := ?_) (a' := ?_) #[true, true, true, false, false, true, true, true, false, false, false] rfl rfl (any_of HT_.out (by kernel_rfl)) (fun _ _ _ h => h) (Or.inl ⟨by rfl, ?_⟩) ?_ ?_
  rotate_left
  · intro w'
    go_simp
    with_reducible rfl
  rotate_left
  · simp only [Act.put, List.setIfInBounds_toArray, List.set_cons_zero, List.set_cons_succ, i64_w, i32_w]
    rfl
  refine take_ (i := 3) (N := (some 19)) (v := ?_) (a' := ?_) #[true, true, true, true, false, true, true, true, false, false, false] rfl rfl (take_of HT_.out (by kernel_rfl)) (fun _ _ _ h => h) (Or.inl ⟨by rfl, ?_⟩) hHeld ?_ ?_
  rotate_left
  · rintro w' ⟨s0, s1⟩
    go_simp
    with_reducible rfl
  rotate_left
  · simp only [Act.put, List.setIfInBounds_toArray, List.set_cons_zero, List.set_cons_succ, i64_w, i32_w]
    rfl
  refine take_ (i := 8) (N := (some 24)) (v := ?_) (a' := ?_) #[true, true, true, true, false, true, true, true, true, false, false] rfl rfl (take_of HT_.out (by kernel_rfl)) (fun _ _ _ h => h) (Or.inl ⟨by rfl, ?_⟩) hHeld ?_ ?_
  rotate_left
  · rintro w' ⟨s0, s1⟩
    go_simp
    with_reducible rfl
  rotate_left
  · simp only [Act.put, List.setIfInBounds_toArray, List.set_cons_zero, List.set_cons_succ, i64_w, i32_w]
    rfl
  refine pure_ (i := 4) (N := (some 20)) (v := ?_) (a' := ?_) #[true, true, true, true, true, true, true, true, true, false, false] rfl rfl (any_of HT_.out (by kernel_rfl)) (fun _ _ _ h => h) (Or.inl ⟨by rfl, ?_⟩) ?_ ?_
  rotate_left
  · intro w'
    go_simp
    with_reducible rfl
  rotate_left
  · simp only [Act.put, List.setIfInBounds_toArray, List.set_cons_zero, List.set_cons_succ, i64_w, i32_w]
    rfl
  refine pure_ (i := 9) (N := (some 25)) (v := ?_) (a' := ?_) #[true, true, true, true, true, true, true, true, true, true, false] rfl rfl (any_of HT_.out (by kernel_rfl)) (fun _ _ _ h => h) (Or.inl ⟨by rfl, ?_⟩) ?_ ?_
  rotate_left
  · intro w'
    go_simp
    with_reducible rfl
  rotate_left
  · simp only [Act.put, List.setIfInBounds_toArray, List.set_cons_zero, List.set_cons_succ, i64_w, i32_w]
    rfl
  refine pure_ (i := 10) (N := (some 15)) (v := ?_) (a' := ?_) #[true, true, true, true, true, true, true, true, true, true, true] rfl rfl (any_of HT_.out (by kernel_rfl)) (fun _ _ _ h => h) (Or.inl ⟨by rfl, ?_⟩) ?_ ?_
  rotate_left
  · intro w'
    go_simp
    with_reducible rfl
  rotate_left
  · simp only [Act.put, List.setIfInBounds_toArray, List.set_cons_zero, List.set_cons_succ, i64_w, i32_w]
    rfl
  refine done_ (done_of HT_.out (by kernel_rfl)) ?_
  go_wp2
  refine start_ (n := 10) (S := fun w' => w'.cell? ⟨g, 0, none⟩ = some (.slice (some ⟨a, 0, none⟩) l.length c) ∧ w'.cell? ⟨w.heap.size, 0, none⟩ = some (.int .i64 x.f0) ∧ w'.cell? ⟨w.heap.size, 1, none⟩ = some (.int .i64 x.f1) ∧ w'.cell? ⟨w.heap.size, 2, none⟩ = some (.int .i64 x.f2) ∧ w'.cell? ⟨a, 0, none⟩ = some (.int .i64 (rd_T27 l 0).f0) ∧ w'.cell? ⟨a, 1, none⟩ = some (.int .i64 (rd_T27 l 0).f1) ∧ w'.cell? ⟨a, 2, none⟩ = some (.int .i64 (rd_T27 l 0).f2)) (ds := []) #[false, false, false, false, false, false, false, false, false, false] (by kernel_rfl) rfl rfl (⟨HT1.out.cell, (blk_cell HBo.out 0), (blk_cell HBo.out 1), (blk_cell HBo.out 2), (HT1.out.elem0 hpos).1, (HT1.out.elem0 hpos).2.1, (HT1.out.elem0 hpos).2.2.1⟩) (fun hHeld => ?_); refine with_tab (T := rtab .any (opsOf Try.f11 6)) rfl (fun HT_ => ?_)
  refine pure_ (i := 1) (N := (some 35)) (v := ?_) (a' := ?_) #[false, true, false, false, false, false, false, false, false, false] rfl rfl (any_of HT_.out (by kernel_rfl)) (fun _ _ _ h => h) (Or.inl ⟨by rfl, ?_⟩) ?_ ?_
  rotate_left
  · intro w'
    go_simp
    with_reducible rfl
  rotate_left
  · simp only [Act.put, List.setIfInBounds_toArray, List.set_cons_zero, List.set_cons_succ, i64_w, i32_w]
    rfl
  refine pure_ (i := 2) (N := (some 36)) (v := ?_) (a' := ?_) #[false, true, true, false, false, false, false, false, false, false] rfl rfl (any_of HT_.out (by kernel_rfl)) (fun _ _ _ h => h) (Or.inl ⟨by rfl, ?_⟩) ?_ ?_
  rotate_left
  · intro w'
    go_simp
    with_reducible rfl
  rotate_left
  · simp only [Act.put, List.setIfInBounds_toArray, List.set_cons_zero, List.set_cons_succ, i64_w, i32_w]
    rfl
  refine pure_ (i := 3) (N := (some 37)) (v := ?_) (a' := ?_) #[false, true, true, true, false, false, false, false, false, false] rfl rfl (any_of HT_.out (by kernel_rfl)) (fun _ _ _ h => h) (Or.inl ⟨by rfl, ?_⟩) ?_ ?_
  rotate_left
  · intro w'
    go_simp
    with_reducible rfl
  rotate_left
  · simp only [Act.put, List.setIfInBounds_toArray, List.set_cons_zero, List.set_cons_succ, i64_w, i32_w]
    rfl
  refine take_ (i := 0) (N := (some 34)) (v := ?_) (a' := ?_) #[true, true, true, true, false, false, false, false, false, false] rfl rfl (take_of HT_.out (by kernel_rfl)) (fun _ _ _ h => h) (Or.inl ⟨by rfl, ?_⟩) hHeld ?_ ?_
  rotate_left
  · rintro w' ⟨s0, s1, s2, s3, s4, s5, s6⟩
    go_simp
    with_reducible rfl
  rotate_left
  · simp only [Act.put, List.setIfInBounds_toArray, List.set_cons_zero, List.set_cons_succ, i64_w, i32_w]
    rfl
  refine take_ (i := 4) (N := (some 38)) (v := ?_) (a' := ?_) #[true, true, true, true, true, false, false, false, false, false] rfl rfl (take_of HT_.out (by kernel_rfl)) (fun _ _ _ h => h) (Or.inl ⟨by rfl, ?_⟩) hHeld ?_ ?_
  rotate_left
  · rintro w' ⟨s0, s1, s2, s3, s4, s5, s6⟩
    go_simp
    with_reducible rfl
  rotate_left
  · simp only [Act.put, List.setIfInBounds_toArray, List.set_cons_zero, List.set_cons_succ, i64_w, i32_w]
    rfl
  refine pure_ (i := 5) (N := (some 39)) (v := ?_) (a' := ?_) #[true, true, true, true, true, true, false, false, false, false] rfl rfl (any_of HT_.out (by kernel_rfl)) (fun _ _ _ h => h) (Or.inl ⟨by rfl, ?_⟩) ?_ ?_
  rotate_left
  · intro w'
    go_simp
    with_reducible rfl
  rotate_left
  · simp only [Act.put, List.setIfInBounds_toArray, List.set_cons_zero, List.set_cons_succ, i64_w, i32_w]
    rfl
  refine take_ (i := 6) (N := (some 40)) (v := ?_) (a' := ?_) #[true, true, true, true, true, true, true, false, false, false] rfl rfl (take_of HT_.out (by kernel_rfl)) (fun _ _ _ h => h) (Or.inl ⟨by rfl, ?_⟩) hHeld ?_ ?_
  rotate_left
  · rintro w' ⟨s0, s1, s2, s3, s4, s5, s6⟩
    go_simp
    with_reducible rfl
  rotate_left
  · simp only [Act.put, List.setIfInBounds_toArray, List.set_cons_zero, List.set_cons_succ, i64_w, i32_w]
    rfl
  refine one_ (i := 7) (N := (some 41)) #[true, true, true, true, true, true, true, true, false, false] rfl rfl (one_of HT_.out (by kernel_rfl)) (by decide) (fun K hK => ?_)
  refine goes_ Try.func15 (by kernel_rfl) rfl #[.agg #[.int .i64 x.f0, .int .i64 x.f1, .int .i64 x.f2], .agg #[.int .i64 (rd_T27 l 0).f0, .int .i64 (rd_T27 l 0).f1, .int .i64 (rd_T27 l 0).f2]] (by rfl) rfl rfl (by (try simp only [List.map_toArray, List.map_cons, List.map_nil]); first | done | rfl) ?_
  refine (top_Row_Ahead.calls x.f0 x.f1 x.f2 (rd_T27 l 0).f0 (rd_T27 l 0).f1 (rd_T27 l 0).f2 false _ (by rw [Ahead_f, hah])).mono ?_
  rintro e w3 ⟨rfl, hbz⟩
  have hbw := below_then (below_drew1 (below_drew1 (Below.refl w1.heap.size w1))) (Nat.le_refl _) (show Below _ _ _ from by first | exact hbz | exact hbz.below)
  have HT3 := Aside0.mk (HT1.out.below hbw)
  have HBo3 := Aside0.mk (blk_below HBo.out hbw)
  have HB3 := Aside0.mk (below_then HB1.out HB1.out.size hbw)
  clear hbz hbw
  refine ⟨_, rfl, ?_⟩
  refine hK.out _ _ ⟨HT3.out.cell, (blk_cell HBo3.out 0), (blk_cell HBo3.out 1), (blk_cell HBo3.out 2), (HT3.out.elem0 hpos).1, (HT3.out.elem0 hpos).2.1, (HT3.out.elem0 hpos).2.2.1⟩ (fun hHeld => ?_)
  clear hK K
  refine norm_ (a' := ?_) ?_ ?_
  rotate_left
  · show Act.put _ (some 41) _ = _
    simp only [Act.put, List.setIfInBounds_toArray, List.set_cons_zero, List.set_cons_succ, i64_w, i32_w]
    rfl
  refine pure_ (i := 8) (N := (some 42)) (v := ?_) (a' := ?_) #[true, true, true, true, true, true, true, true, true, false] rfl rfl (any_of HT_.out (by kernel_rfl)) (fun _ _ _ h => h) (Or.inl ⟨by rfl, ?_⟩) ?_ ?_
  rotate_left
  · intro w'
    go_simp
    with_reducible rfl
  rotate_left
  · simp only [Act.put, List.setIfInBounds_toArray, List.set_cons_zero, List.set_cons_succ, i64_w, i32_w]
    rfl
  refine pure_ (i := 9) (N := (some 33)) (v := ?_) (a' := ?_) #[true, true, true, true, true, true, true, true, true, true] rfl rfl (any_of HT_.out (by kernel_rfl)) (fun _ _ _ h => h) (Or.inl ⟨by rfl, ?_⟩) ?_ ?_
  rotate_left
  · intro w'
    go_simp
    with_reducible rfl
  rotate_left
  · simp only [Act.put, List.setIfInBounds_toArray, List.set_cons_zero, List.set_cons_succ, i64_w, i32_w]
    rfl
  refine done_ (done_of HT_.out (by kernel_rfl)) ?_
  try go_wp2
  go_ret
  exact ⟨rfl, Moved.of_below HT.out HB0.out HB3.out⟩
set_option maxHeartbeats 8000000 in
set_option maxRecDepth 100000 in
theorem add_put {m : Nat} (h : HS w0 P w g 43 [.int .i64 (m : Int)] A c l) (hB : Below w0.heap.size w0 w) (x : S27) (hl : l.length < 1099511627776) (hm : m ≤ 9223372036854775807) (hm0 : m ≠ 0) (hlm : ¬ l.length < m) (hah : aheadB x (rd_T27 l 0) = true) :
    Calls Try.prog 11 #[.pointer (some ⟨g, 0, none⟩), enc27 x] w fun e w' => e = .returned (.bool true) ∧ Moved w0 w P w' g 43 [.int .i64 (m : Int)] A c (hfixL (l.set 0 x)) := by
  have hlm2 : ¬ ((l.length : Int) < (m : Int)) := by omega
  have hpos : 0 < l.length := by omega
  obtain ⟨a, rfl, hPa, hag, hab, halt⟩ := h.front hpos
  have HLn := Aside0.mk (And.intro hl hm)
  have HT := Aside0.mk h
  have hcell := h.cell
  have hcell1 := h.cell1
  have hlt := h.lt
  have hm2 : ¬ ((m : Int) = 0) := by omega
  have HT1 := Aside0.mk (h.below (below_alloc (Below.refl _ _) (.cells #[.int .i64 x.f0, .int .i64 x.f1, .int .i64 x.f2] 27)))
  have HB1 := Aside0.mk (below_alloc (Below.refl w.heap.size w) (.cells #[.int .i64 x.f0, .int .i64 x.f1, .int .i64 x.f2] 27))
  have HBB := Aside0.mk (below_then hB hB.size HB1.out)
  have HBo := Aside0.mk (blk_new w (.cells #[.int .i64 x.f0, .int .i64 x.f1, .int .i64 x.f2] 27))
  have HB0 := Aside0.mk hB
  unfold enc27
  clear h hB hl
  go_enter Try.func11, Try.ntmps11
  go_wp2
  generalize w.alloc (.cells #[.int .i64 x.f0, .int .i64 x.f1, .int .i64 x.f2] 27) = w1 at HT1 HB1 HBo HBB ⊢
  refine start_ (n := 11) (S := fun w' => w'.cell? ⟨g, 0, none⟩ = some (.slice (some ⟨a, 0, none⟩) l.length c) ∧ w'.cell? ⟨g, 1, none⟩ = some (.int .i64 (m : Int))) (ds := []) #[false, false, false, false, false, false, false, false, false, false, false] (by kernel_rfl) rfl rfl (⟨HT1.out.cell, HT1.out.cell1⟩) (fun hHeld => ?_); refine with_tab (T := rtab .any (opsOf Try.f11 3)) rfl (fun HT_ => ?_)
  refine pure_ (i := 0) (N := (some 16)) (v := ?_) (a' := ?_) #[true, false, false, false, false, false, false, false, false, false, false] rfl rfl (any_of HT_.out (by kernel_rfl)) (fun _ _ _ h => h) (Or.inl ⟨by rfl, ?_⟩) ?_ ?_
  rotate_left
  · intro w'
    go_simp
    with_reducible rfl
  rotate_left
  · simp only [Act.put, List.setIfInBounds_toArray, List.set_cons_zero, List.set_cons_succ, i64_w, i32_w]
    rfl
  refine pure_ (i := 1) (N := (some 17)) (v := ?_) (a' := ?_) #[true, true, false, false, false, false, false, false, false, false, false] rfl rfl (any_of HT_.out (by kernel_rfl)) (fun _ _ _ h => h) (Or.inl ⟨by rfl, ?_⟩) ?_ ?_
  rotate_left
  · intro w'
    go_simp
    with_reducible rfl
  rotate_left
  · simp only [Act.put, List.setIfInBounds_toArray, List.set_cons_zero, List.set_cons_succ, i64_w, i32_w]
    rfl
  refine pure_ (i := 2) (N := (some 18)) (v := ?_) (a' := ?_) #[true, true, true, false, false, false, false, false, false, false, false] rfl rfl (any_of HT_.out (by kernel_rfl)) (fun _ _ _ h => h) (Or.inl ⟨by rfl, ?_⟩) ?_ ?_
  rotate_left
  · intro w'
    go_simp
    with_reducible rfl
  rotate_left
  · simp only [Act.put, List.setIfInBounds_toArray, List.set_cons_zero, List.set_cons_succ, i64_w, i32_w]
    rfl
  refine pure_ (i := 5) (N := (some 21)) (v := ?_) (a' := ?_) #[true, true, true, false, false, true, false, false, false, false, false] rfl rfl (any_of HT_.out (by kernel_rfl)) (fun _ _ _ h => h) (Or.inl ⟨by rfl, ?_⟩) ?_ ?_
  rotate_left
  · intro w'
    go_simp
    with_reducible rfl
  rotate_left
  · simp only [Act.put, List.setIfInBounds_toArray, List.set_cons_zero, List.set_cons_succ, i64_w, i32_w]
    rfl
  refine pure_ (i := 6) (N := (some 22)) (v := ?_) (a' := ?_) #[true, true, true, false, false, true, true, false, false, false, false] rfl rfl (any_of HT_.out (by kernel_rfl)) (fun _ _ _ h => h) (Or.inl ⟨by rfl, ?_⟩) ?_ ?_
  rotate_left
  · intro w'
    go_simp
    with_reducible rfl
  rotate_left
  · simp only [Act.put, List.setIfInBounds_toArray, List.set_cons_zero, List.set_cons_succ, i64_w, i32_w]
    rfl
  refine pure_ (i := 7) (N := (some 23)) (v := ?_) (a' := ?_) #[true, true, true, false, false, true, true, true, false, false, false] rfl rfl (any_of HT_.out (by kernel_rfl)) (fun _ _ _ h => h) (Or.inl ⟨by rfl, ?_⟩) ?_ ?_
  rotate_left
  · intro w'
    go_simp
    with_reducible rfl
  rotate_left
  · simp only [Act.put, List.setIfInBounds_toArray, List.set_cons_zero, List.set_cons_succ, i64_w, i32_w]
    rfl
  refine take_ (i := 3) (N := (some 19)) (v := ?_) (a' := ?_) #[true, true, true, true, false, true, true, true, false, false, false] rfl rfl (take_of HT_.out (by kernel_rfl)) (fun _ _ _ h => h) (Or.inl ⟨by rfl, ?_⟩) hHeld ?_ ?_
  rotate_left
  · rintro w' ⟨s0, s1⟩
    go_simp
    with_reducible rfl
  rotate_left
  · simp only [Act.put, List.setIfInBounds_toArray, List.set_cons_zero, List.set_cons_succ, i64_w, i32_w]
    rfl
  refine take_ (i := 8) (N := (some 24)) (v := ?_) (a' := ?_) #[true, true, true, true, false, true, true, true, true, false, false] rfl rfl (take_of HT_.out (by kernel_rfl)) (fun _ _ _ h => h) (Or.inl ⟨by rfl, ?_⟩) hHeld ?_ ?_
  rotate_left
  · rintro w' ⟨s0, s1⟩
    go_simp
    with_reducible rfl
  rotate_left
  · simp only [Act.put, List.setIfInBounds_toArray, List.set_cons_zero, List.set_cons_succ, i64_w, i32_w]
    rfl
  refine pure_ (i := 4) (N := (some 20)) (v := ?_) (a' := ?_) #[true, true, true, true, true, true, true, true, true, false, false] rfl rfl (any_of HT_.out (by kernel_rfl)) (fun _ _ _ h => h) (Or.inl ⟨by rfl, ?_⟩) ?_ ?_
  rotate_left
  · intro w'
    go_simp
    with_reducible rfl
  rotate_left
  · simp only [Act.put, List.setIfInBounds_toArray, List.set_cons_zero, List.set_cons_succ, i64_w, i32_w]
    rfl
  refine pure_ (i := 9) (N := (some 25)) (v := ?_) (a' := ?_) #[true, true, true, true, true, true, true, true, true, true, false] rfl rfl (any_of HT_.out (by kernel_rfl)) (fun _ _ _ h => h) (Or.inl ⟨by rfl, ?_⟩) ?_ ?_
  rotate_left
  · intro w'
    go_simp
    with_reducible rfl
  rotate_left
  · simp only [Act.put, List.setIfInBounds_toArray, List.set_cons_zero, List.set_cons_succ, i64_w, i32_w]
    rfl
  refine pure_ (i := 10) (N := (some 15)) (v := ?_) (a' := ?_) #[true, true, true, true, true, true, true, true, true, true, true] rfl rfl (any_of HT_.out (by kernel_rfl)) (fun _ _ _ h => h) (Or.inl ⟨by rfl, ?_⟩) ?_ ?_
  rotate_left
  · intro w'
    go_simp
    with_reducible rfl
  rotate_left
  · simp only [Act.put, List.setIfInBounds_toArray, List.set_cons_zero, List.set_cons_succ, i64_w, i32_w]
    rfl
  refine done_ (done_of HT_.out (by kernel_rfl)) ?_
  go_wp2
  refine start_ (n := 10) (S := fun w' => w'.cell? ⟨g, 0, none⟩ = some (.slice (some ⟨a, 0, none⟩) l.length c) ∧ w'.cell? ⟨w.heap.size, 0, none⟩ = some (.int .i64 x.f0) ∧ w'.cell? ⟨w.heap.size, 1, none⟩ = some (.int .i64 x.f1) ∧ w'.cell? ⟨w.heap.size, 2, none⟩ = some (.int .i64 x.f2) ∧ w'.cell? ⟨a, 0, none⟩ = some (.int .i64 (rd_T27 l 0).f0) ∧ w'.cell? ⟨a, 1, none⟩ = some (.int .i64 (rd_T27 l 0).f1) ∧ w'.cell? ⟨a, 2, none⟩ = some (.int .i64 (rd_T27 l 0).f2)) (ds := []) #[false, false, false, false, false, false, false, false, false, false] (by kernel_rfl) rfl rfl (⟨HT1.out.cell, (blk_cell HBo.out 0), (blk_cell HBo.out 1), (blk_cell HBo.out 2), (HT1.out.elem0 hpos).1, (HT1.out.elem0 hpos).2.1, (HT1.out.elem0 hpos).2.2.1⟩) (fun hHeld => ?_); refine with_tab (T := rtab .any (opsOf Try.f11 6)) rfl (fun HT_ => ?_)
  refine pure_ (i := 1) (N := (some 35)) (v := ?_) (a' := ?_) #[false, true, false, false, false, false, false, false, false, false] rfl rfl (any_of HT_.out (by kernel_rfl)) (fun _ _ _ h => h) (Or.inl ⟨by rfl, ?_⟩) ?_ ?_
  rotate_left
  · intro w'
    go_simp
    with_reducible rfl
  rotate_left
  · simp only [Act.put, List.setIfInBounds_toArray, List.set_cons_zero, List.set_cons_succ, i64_w, i32_w]
    rfl
  refine pure_ (i := 2) (N := (some 36)) (v := ?_) (a' := ?_) #[false, true, true, false, false, false, false, false, false, false] rfl rfl (any_of HT_.out (by kernel_rfl)) (fun _ _ _ h => h) (Or.inl ⟨by rfl, ?_⟩) ?_ ?_
  rotate_left
  · intro w'
    go_simp
    with_reducible rfl
  rotate_left
  · simp only [Act.put, List.setIfInBounds_toArray, List.set_cons_zero, List.set_cons_succ, i64_w, i32_w]
    rfl
  refine pure_ (i := 3) (N := (some 37)) (v := ?_) (a' := ?_) #[false, true, true, true, false, false, false, false, false, false] rfl rfl (any_of HT_.out (by kernel_rfl)) (fun _ _ _ h => h) (Or.inl ⟨by rfl, ?_⟩) ?_ ?_
  rotate_left
  · intro w'
    go_simp
    with_reducible rfl
  rotate_left
  · simp only [Act.put, List.setIfInBounds_toArray, List.set_cons_zero, List.set_cons_succ, i64_w, i32_w]
    rfl
  refine take_ (i := 0) (N := (some 34)) (v := ?_) (a' := ?_) #[true, true, true, true, false, false, false, false, false, false] rfl rfl (take_of HT_.out (by kernel_rfl)) (fun _ _ _ h => h) (Or.inl ⟨by rfl, ?_⟩) hHeld ?_ ?_
  rotate_left
  · rintro w' ⟨s0, s1, s2, s3, s4, s5, s6⟩
    go_simp
    with_reducible rfl
  rotate_left
  · simp only [Act.put, List.setIfInBounds_toArray, List.set_cons_zero, List.set_cons_succ, i64_w, i32_w]
    rfl
  refine take_ (i := 4) (N := (some 38)) (v := ?_) (a' := ?_) #[true, true, true, true, true, false, false, false, false, false] rfl rfl (take_of HT_.out (by kernel_rfl)) (fun _ _ _ h => h) (Or.inl ⟨by rfl, ?_⟩) hHeld ?_ ?_
  rotate_left
  · rintro w' ⟨s0, s1, s2, s3, s4, s5, s6⟩
    go_simp
    with_reducible rfl
  rotate_left
  · simp only [Act.put, List.setIfInBounds_toArray, List.set_cons_zero, List.set_cons_succ, i64_w, i32_w]
    rfl
  refine pure_ (i := 5) (N := (some 39)) (v := ?_) (a' := ?_) #[true, true, true, true, true, true, false, false, false, false] rfl rfl (any_of HT_.out (by kernel_rfl)) (fun _ _ _ h => h) (Or.inl ⟨by rfl, ?_⟩) ?_ ?_
  rotate_left
  · intro w'
    go_simp
    with_reducible rfl
  rotate_left
  · simp only [Act.put, List.setIfInBounds_toArray, List.set_cons_zero, List.set_cons_succ, i64_w, i32_w]
    rfl
  refine take_ (i := 6) (N := (some 40)) (v := ?_) (a' := ?_) #[true, true, true, true, true, true, true, false, false, false] rfl rfl (take_of HT_.out (by kernel_rfl)) (fun _ _ _ h => h) (Or.inl ⟨by rfl, ?_⟩) hHeld ?_ ?_
  rotate_left
  · rintro w' ⟨s0, s1, s2, s3, s4, s5, s6⟩
    go_simp
    with_reducible rfl
  rotate_left
  · simp only [Act.put, List.setIfInBounds_toArray, List.set_cons_zero, List.set_cons_succ, i64_w, i32_w]
    rfl
  refine one_ (i := 7) (N := (some 41)) #[true, true, true, true, true, true, true, true, false, false] rfl rfl (one_of HT_.out (by kernel_rfl)) (by decide) (fun K hK => ?_)
  refine goes_ Try.func15 (by kernel_rfl) rfl #[.agg #[.int .i64 x.f0, .int .i64 x.f1, .int .i64 x.f2], .agg #[.int .i64 (rd_T27 l 0).f0, .int .i64 (rd_T27 l 0).f1, .int .i64 (rd_T27 l 0).f2]] (by rfl) rfl rfl (by (try simp only [List.map_toArray, List.map_cons, List.map_nil]); first | done | rfl) ?_
  refine (top_Row_Ahead.calls x.f0 x.f1 x.f2 (rd_T27 l 0).f0 (rd_T27 l 0).f1 (rd_T27 l 0).f2 true _ (by rw [Ahead_f, hah])).mono ?_
  rintro e w3 ⟨rfl, hbz⟩
  have hbw := below_then (below_drew1 (below_drew1 (Below.refl w1.heap.size w1))) (Nat.le_refl _) (show Below _ _ _ from by first | exact hbz | exact hbz.below)
  have HT3 := Aside0.mk (HT1.out.below hbw)
  have HBo3 := Aside0.mk (blk_below HBo.out hbw)
  have HB3 := Aside0.mk (below_then HB1.out HB1.out.size hbw)
  clear hbz hbw
  refine ⟨_, rfl, ?_⟩
  refine hK.out _ _ ⟨HT3.out.cell, (blk_cell HBo3.out 0), (blk_cell HBo3.out 1), (blk_cell HBo3.out 2), (HT3.out.elem0 hpos).1, (HT3.out.elem0 hpos).2.1, (HT3.out.elem0 hpos).2.2.1⟩ (fun hHeld => ?_)
  clear hK K
  refine norm_ (a' := ?_) ?_ ?_
  rotate_left
  · show Act.put _ (some 41) _ = _
    simp only [Act.put, List.setIfInBounds_toArray, List.set_cons_zero, List.set_cons_succ, i64_w, i32_w]
    rfl
  refine pure_ (i := 8) (N := (some 42)) (v := ?_) (a' := ?_) #[true, true, true, true, true, true, true, true, true, false] rfl rfl (any_of HT_.out (by kernel_rfl)) (fun _ _ _ h => h) (Or.inl ⟨by rfl, ?_⟩) ?_ ?_
  rotate_left
  · intro w'
    go_simp
    with_reducible rfl
  rotate_left
  · simp only [Act.put, List.setIfInBounds_toArray, List.set_cons_zero, List.set_cons_succ, i64_w, i32_w]
    rfl
  refine pure_ (i := 9) (N := (some 33)) (v := ?_) (a' := ?_) #[true, true, true, true, true, true, true, true, true, true] rfl rfl (any_of HT_.out (by kernel_rfl)) (fun _ _ _ h => h) (Or.inl ⟨by rfl, ?_⟩) ?_ ?_
  rotate_left
  · intro w'
    go_simp
    with_reducible rfl
  rotate_left
  · simp only [Act.put, List.setIfInBounds_toArray, List.set_cons_zero, List.set_cons_succ, i64_w, i32_w]
    rfl
  refine done_ (done_of HT_.out (by kernel_rfl)) ?_
  go_wp2
  obtain ⟨hx0, hx1, hx2, hf0, hf1, hf2⟩ := HT3.out.elem0 hpos
  have HMS := Aside0.mk (Moved.set0 (Moved.drew (Moved.of_below HT.out HB0.out HB3.out)) hpos x)
  refine start_ (n := 7) (S := fun w' => w'.cell? ⟨g, 0, none⟩ = some (.slice (some ⟨a, 0, none⟩) l.length c) ∧ w'.cell? ⟨w.heap.size, 0, none⟩ = some (.int .i64 x.f0) ∧ w'.cell? ⟨w.heap.size, 1, none⟩ = some (.int .i64 x.f1) ∧ w'.cell? ⟨w.heap.size, 2, none⟩ = some (.int .i64 x.f2)) (ds := [6]) #[false, false, false, false, false, false, false] (by kernel_rfl) rfl rfl (⟨HT3.out.cell, (blk_cell HBo3.out 0), (blk_cell HBo3.out 1), (blk_cell HBo3.out 2)⟩) (fun hHeld => ?_); refine with_tab (T := rtab .any (opsOf Try.f11 8)) rfl (fun HT_ => ?_)
  refine pure_ (i := 0) (N := (some 43)) (v := ?_) (a' := ?_) #[true, false, false, false, false, false, false] rfl rfl (any_of HT_.out (by kernel_rfl)) (fun _ _ _ h => h) (Or.inl ⟨by rfl, ?_⟩) ?_ ?_
  rotate_left
  · intro w'
    go_simp
    with_reducible rfl
  rotate_left
  · simp only [Act.put, List.setIfInBounds_toArray, List.set_cons_zero, List.set_cons_succ, i64_w, i32_w]
    rfl
  refine pure_ (i := 1) (N := (some 44)) (v := ?_) (a' := ?_) #[true, true, false, false, false, false, false] rfl rfl (any_of HT_.out (by kernel_rfl)) (fun _ _ _ h => h) (Or.inl ⟨by rfl, ?_⟩) ?_ ?_
  rotate_left
  · intro w'
    go_simp
    with_reducible rfl
  rotate_left
  · simp only [Act.put, List.setIfInBounds_toArray, List.set_cons_zero, List.set_cons_succ, i64_w, i32_w]
    rfl
  refine pure_ (i := 2) (N := (some 45)) (v := ?_) (a' := ?_) #[true, true, true, false, false, false, false] rfl rfl (any_of HT_.out (by kernel_rfl)) (fun _ _ _ h => h) (Or.inl ⟨by rfl, ?_⟩) ?_ ?_
  rotate_left
  · intro w'
    go_simp
    with_reducible rfl
  rotate_left
  · simp only [Act.put, List.setIfInBounds_toArray, List.set_cons_zero, List.set_cons_succ, i64_w, i32_w]
    rfl
  refine take_ (i := 3) (N := (some 46)) (v := ?_) (a' := ?_) #[true, true, true, true, false, false, false] rfl rfl (take_of HT_.out (by kernel_rfl)) (fun _ _ _ h => h) (Or.inl ⟨by rfl, ?_⟩) hHeld ?_ ?_
  rotate_left
  · rintro w' ⟨s0, s1, s2, s3⟩
    go_simp
    with_reducible rfl
  rotate_left
  · simp only [Act.put, List.setIfInBounds_toArray, List.set_cons_zero, List.set_cons_succ, i64_w, i32_w]
    rfl
  refine take_ (i := 4) (N := (some 47)) (v := ?_) (a' := ?_) #[true, true, true, true, true, false, false] rfl rfl (take_of HT_.out (by kernel_rfl)) (fun _ _ _ h => h) (Or.inl ⟨by rfl, ?_⟩) hHeld ?_ ?_
  rotate_left
  · rintro w' ⟨s0, s1, s2, s3⟩
    go_simp
    with_reducible rfl
  rotate_left
  · simp only [Act.put, List.setIfInBounds_toArray, List.set_cons_zero, List.set_cons_succ, i64_w, i32_w]
    rfl
  refine pure_ (i := 5) (N := (some 48)) (v := ?_) (a' := ?_) #[true, true, true, true, true, true, false] rfl rfl (any_of HT_.out (by kernel_rfl)) (fun _ _ _ h => h) (Or.inl ⟨by rfl, ?_⟩) ?_ ?_
  rotate_left
  · intro w'
    go_simp
    with_reducible rfl
  rotate_left
  · simp only [Act.put, List.setIfInBounds_toArray, List.set_cons_zero, List.set_cons_succ, i64_w, i32_w]
    rfl
  refine last_ (i := 6) (N := none) #[true, true, true, true, true, true, true] rfl rfl (one_of HT_.out (by kernel_rfl)) (by decide) (fun K hK => ?_)
  refine skip_ (w1 := ((w3.drew.setCell ⟨a, 0, none⟩ (.int .i64 x.f0)).setCell ⟨a, 1, none⟩ (.int .i64 x.f1)).setCell ⟨a, 2, none⟩ (.int .i64 x.f2)) (by rfl) rfl ?_ ?_
  · go_simp
  refine hK.out _ _ ?_
  clear hK K hx0 hx1 hx2 hf0 hf1 hf2
  refine done_ (done_of HT_.out (by kernel_rfl)) ?_
  generalize ((w3.drew.setCell ⟨a, 0, none⟩ (.int .i64 x.f0)).setCell ⟨a, 1, none⟩ (.int .i64 x.f1)).setCell ⟨a, 2, none⟩ (.int .i64 x.f2) = w4 at HMS ⊢
  have HC5 := Aside0.mk (hfix_calls HMS.out.hs HMS.out.below (by rw [List.length_set]; exact hpos) (by rw [List.length_set]; exact HLn.out.1))
  go_wp2_with (go_at_call 18; refine HC5.out.mono ?_; rintro e w5 ⟨rfl, hmv⟩; have HM5 := Aside0.mk (Moved.then_ HMS.out hmv); clear hmv HC5)
  go_ret
  exact ⟨rfl, HM5.out⟩
theorem add_calls {m : Nat} (h : HS w0 P w g 43 [.int .i64 (m : Int)] A c l) (hB : Below w0.heap.size w0 w) (x : S27) (hl : l.length < 1099511627776) (hm : m ≤ 9223372036854775807) :
    Calls Try.prog 11 #[.pointer (some ⟨g, 0, none⟩), enc27 x] w fun e w' => e = .returned (.bool (addB l m x)) ∧ ∃ A' c', Moved w0 w P w' g 43 [.int .i64 (m : Int)] A' c' (addL l m x) := by
  unfold addB addL
  by_cases hm0 : m = 0
  · subst hm0
    rw [if_pos rfl, if_pos rfl]
    refine (add_zero h hB x).mono ?_
    rintro e w' ⟨he, hm⟩
    exact ⟨he, A, c, hm⟩
  · rw [if_neg hm0, if_neg hm0]
    by_cases hlm : l.length < m
    · rw [if_pos hlm, if_pos hlm]
      exact add_push h hB x hl hm hm0 hlm
    · rw [if_neg hlm, if_neg hlm]
      cases hah : aheadB x (rd_T27 l 0)
      · rw [if_neg (by simp)]
        refine (add_keep h hB x hl hm hm0 hlm hah).mono ?_
        rintro e w' ⟨he, hm⟩
        exact ⟨he, A, c, hm⟩
      · rw [if_pos rfl]
        refine (add_put h hB x hl hm hm0 hlm hah).mono ?_
        rintro e w' ⟨he, hm⟩
        exact ⟨he, A, c, hm⟩
end
end Go.Proofs.Ytgefggokgjneoaa.QT
