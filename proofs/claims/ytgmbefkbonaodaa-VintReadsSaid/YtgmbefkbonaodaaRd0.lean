/- Contracts of vint's Reader: Read, Err, Left, and their forms for a pointer to nothing. Conditions as each theorem has them. -/
import Derived.Test.YtgmbefkbonaodaaQVx4
import Derived.Test.YtgmbefkbonaodaaVDig
namespace Go.Proofs.Ytgmbefkbonaodaa.QV
open Go.RowKit Go.Proofs.YtgmbefkbonaodaaW.PrintWords Go.Proofs.YtgmbefkbonaodaaW.PrintLast Go.Proofs.YtgmbefkbonaodaaW.PrintMore Go.Proofs.Ytgmbefkbonaodaa.VSum Go.Proofs.Ytgmbefkbonaodaa.VDig
attribute [local go_sem] max2_int min2_int max_two min_two max_three min_three max_four min_four   -- for this text's walks alone
set_option linter.unusedVariables false
set_option linter.unusedSimpArgs false
/-- A reader in memory, at block g: of bytes l, at place p, with error e. -/
structure RD (W : World) (g : Nat) (l : List Int) (p : Nat) (e : Int) (A : Option Addr) (c : Nat) : Prop where
  blk : W.heap[g]? = some (.cells #[.slice A l.length c, .int .i64 (p : Int), .int .i64 e] 53 (0, 0))
  fits : l.length ≤ c
  row : Kd.C (Kd.int .u8) W A l.length l
  away : ∀ ad, A = some ad → 0 < l.length → ad.block ≠ g
namespace RD
variable {W W1 : World} {g : Nat} {l : List Int} {p : Nat} {e : Int} {A : Option Addr} {c : Nat}
theorem cell0 (h : RD W g l p e A c) : W.cell? ⟨g, 0, none⟩ = some (.slice A l.length c) := by rw [blk_cell h.blk 0]; rfl
theorem cell1 (h : RD W g l p e A c) : W.cell? ⟨g, 1, none⟩ = some (.int .i64 (p : Int)) := by rw [blk_cell h.blk 1]; rfl
theorem cell2 (h : RD W g l p e A c) : W.cell? ⟨g, 2, none⟩ = some (.int .i64 e) := by rw [blk_cell h.blk 2]; rfl
theorem froz (h : RD W g l p e A c) (i : Nat) : W.frozen? ⟨g, i, none⟩ = false := blk_frozen h.blk i
theorem lt (h : RD W g l p e A c) : g < W.heap.size := blk_lt h.blk
theorem below (h : RD W g l p e A c) (hb : Below W.heap.size W W1) : RD W1 g l p e A c := ⟨blk_below h.blk hb, h.fits, Kd.C_below h.row hb, h.away⟩
theorem kept_set (i : Nat) (u : Value) : Kept W (W.setCell ⟨g, i, none⟩ u) (fun k => k = g) := Kept.setCell (S := fun k => k = g) (p := ⟨g, i, none⟩) (Kept.refl _ _) (.inl rfl) u
theorem row_set (h : RD W g l p e A c) (i : Nat) (u : Value) : Kd.C (Kd.int .u8) (W.setCell ⟨g, i, none⟩ u) A l.length l :=
  Kd.C_foot_neS (S := fun k => k = g) (fun hK => hK) h.row (fun ad ha hl => h.away ad ha hl) _ (kept_set i u)
theorem set1 (h : RD W g l p e A c) (q : Nat) : RD (W.setCell ⟨g, 1, none⟩ (.int .i64 (q : Int))) g l q e A c := by
  refine ⟨?_, h.fits, h.row_set 1 _, h.away⟩
  have := blk_set h.blk 1 (.int .i64 (q : Int))
  exact this
theorem set2 (h : RD W g l p e A c) (q : Int) : RD (W.setCell ⟨g, 2, none⟩ (.int .i64 q)) g l p q A c := by
  refine ⟨?_, h.fits, h.row_set 2 _, h.away⟩
  have := blk_set h.blk 2 (.int .i64 q)
  exact this
end RD
section
variable {w0 w : World} {g : Nat} {l : List Int} {p : Nat} {e : Int} {A : Option Addr} {c : Nat}
set_option maxHeartbeats 4000000 in
set_option maxRecDepth 100000 in
theorem err_calls (h : RD w g l p e A c) : Calls Try.prog 18 #[.pointer (some ⟨g, 0, none⟩)] w fun e' w' => e' = .returned (.int .i64 e) ∧ Below w.heap.size w w' := by
  have hc2 := h.cell2
  clear h
  go_enter Try.func18, Try.ntmps18
  go_wp2
  go_ret
  exact ⟨rfl, by repeat (first | exact Below.refl _ _ | apply below_alloc | apply below_drew1)⟩
set_option maxHeartbeats 4000000 in
set_option maxRecDepth 100000 in
theorem err_nil : Calls Try.prog 18 #[.pointer none] w fun e' w' => e' = .returned (.int .i64 2) ∧ Below w.heap.size w w' := by
  go_enter Try.func18, Try.ntmps18
  go_wp2
  go_ret
  exact ⟨rfl, by repeat (first | exact Below.refl _ _ | apply below_alloc | apply below_drew1)⟩
set_option maxHeartbeats 4000000 in
set_option maxRecDepth 100000 in
theorem left_nil : Calls Try.prog 20 #[.pointer none] w fun e' w' => e' = .returned (.int .i64 0) ∧ Below w.heap.size w w' := by
  go_enter Try.func20, Try.ntmps20
  go_wp2
  go_ret
  exact ⟨rfl, by repeat (first | exact Below.refl _ _ | apply below_alloc | apply below_drew1)⟩
set_option maxHeartbeats 4000000 in
set_option maxRecDepth 100000 in
theorem left_calls (h : RD w g l p e A c) (hp : p ≤ l.length) (hl : l.length < 1099511627776) : Calls Try.prog 20 #[.pointer (some ⟨g, 0, none⟩)] w fun e' w' => e' = .returned (.int .i64 ((l.length : Int) - (p : Int))) ∧ Below w.heap.size w w' := by
  have hc0 := h.cell0
  have hc1 := h.cell1
  have hp2 : (p : Int) ≤ (l.length : Int) := by omega
  have hl2 : (l.length : Int) < 1099511627776 := by omega
  clear h
  go_enter Try.func20, Try.ntmps20
  go_wp2
  refine start_ (n := 11) (S := fun w' => w'.cell? ⟨g, 0, none⟩ = some (.slice A l.length c) ∧ w'.cell? ⟨g, 1, none⟩ = some (.int .i64 (p : Int))) (ds := []) #[false, false, false, false, false, false, false, false, false, false, false] (by kernel_rfl) rfl rfl (⟨hc0, hc1⟩) (fun hHeld => ?_); refine with_tab (T := rtab .any (opsOf Try.f20 3)) rfl (fun HT_ => ?_)
  refine pure_ (i := 0) (N := (some 5)) (v := ?_) (a' := ?_) #[true, false, false, false, false, false, false, false, false, false, false] rfl rfl (any_of HT_.out (by kernel_rfl)) (fun _ _ _ h => h) (Or.inl ⟨by rfl, ?_⟩) ?_ ?_
  rotate_left
  · intro w'
    go_simp
    with_reducible rfl
  rotate_left
  · simp only [Act.put, List.setIfInBounds_toArray, List.set_cons_zero, List.set_cons_succ, i64_w, i32_w]
    rfl
  refine pure_ (i := 1) (N := (some 6)) (v := ?_) (a' := ?_) #[true, true, false, false, false, false, false, false, false, false, false] rfl rfl (any_of HT_.out (by kernel_rfl)) (fun _ _ _ h => h) (Or.inl ⟨by rfl, ?_⟩) ?_ ?_
  rotate_left
  · intro w'
    go_simp
    with_reducible rfl
  rotate_left
  · simp only [Act.put, List.setIfInBounds_toArray, List.set_cons_zero, List.set_cons_succ, i64_w, i32_w]
    rfl
  refine pure_ (i := 2) (N := (some 7)) (v := ?_) (a' := ?_) #[true, true, true, false, false, false, false, false, false, false, false] rfl rfl (any_of HT_.out (by kernel_rfl)) (fun _ _ _ h => h) (Or.inl ⟨by rfl, ?_⟩) ?_ ?_
  rotate_left
  · intro w'
    go_simp
    with_reducible rfl
  rotate_left
  · simp only [Act.put, List.setIfInBounds_toArray, List.set_cons_zero, List.set_cons_succ, i64_w, i32_w]
    rfl
  refine pure_ (i := 5) (N := (some 10)) (v := ?_) (a' := ?_) #[true, true, true, false, false, true, false, false, false, false, false] rfl rfl (any_of HT_.out (by kernel_rfl)) (fun _ _ _ h => h) (Or.inl ⟨by rfl, ?_⟩) ?_ ?_
  rotate_left
  · intro w'
    go_simp
    with_reducible rfl
  rotate_left
  · simp only [Act.put, List.setIfInBounds_toArray, List.set_cons_zero, List.set_cons_succ, i64_w, i32_w]
    rfl
  refine pure_ (i := 6) (N := (some 11)) (v := ?_) (a' := ?_) #[true, true, true, false, false, true, true, false, false, false, false] rfl rfl (any_of HT_.out (by kernel_rfl)) (fun _ _ _ h => h) (Or.inl ⟨by rfl, ?_⟩) ?_ ?_
  rotate_left
  · intro w'
    go_simp
    with_reducible rfl
  rotate_left
  · simp only [Act.put, List.setIfInBounds_toArray, List.set_cons_zero, List.set_cons_succ, i64_w, i32_w]
    rfl
  refine pure_ (i := 7) (N := (some 12)) (v := ?_) (a' := ?_) #[true, true, true, false, false, true, true, true, false, false, false] rfl rfl (any_of HT_.out (by kernel_rfl)) (fun _ _ _ h => h) (Or.inl ⟨by rfl, ?_⟩) ?_ ?_
  rotate_left
  · intro w'
    go_simp
    with_reducible rfl
  rotate_left
  · simp only [Act.put, List.setIfInBounds_toArray, List.set_cons_zero, List.set_cons_succ, i64_w, i32_w]
    rfl
  refine take_ (i := 3) (N := (some 8)) (v := ?_) (a' := ?_) #[true, true, true, true, false, true, true, true, false, false, false] rfl rfl (take_of HT_.out (by kernel_rfl)) (fun _ _ _ h => h) (Or.inl ⟨by rfl, ?_⟩) hHeld ?_ ?_
  rotate_left
  · rintro w' ⟨s0, s1⟩
    go_simp
    with_reducible rfl
  rotate_left
  · simp only [Act.put, List.setIfInBounds_toArray, List.set_cons_zero, List.set_cons_succ, i64_w, i32_w]
    rfl
  refine take_ (i := 8) (N := (some 13)) (v := ?_) (a' := ?_) #[true, true, true, true, false, true, true, true, true, false, false] rfl rfl (take_of HT_.out (by kernel_rfl)) (fun _ _ _ h => h) (Or.inl ⟨by rfl, ?_⟩) hHeld ?_ ?_
  rotate_left
  · rintro w' ⟨s0, s1⟩
    go_simp
    with_reducible rfl
  rotate_left
  · simp only [Act.put, List.setIfInBounds_toArray, List.set_cons_zero, List.set_cons_succ, i64_w, i32_w]
    rfl
  refine pure_ (i := 4) (N := (some 9)) (v := ?_) (a' := ?_) #[true, true, true, true, true, true, true, true, true, false, false] rfl rfl (any_of HT_.out (by kernel_rfl)) (fun _ _ _ h => h) (Or.inl ⟨by rfl, ?_⟩) ?_ ?_
  rotate_left
  · intro w'
    go_simp
    with_reducible rfl
  rotate_left
  · simp only [Act.put, List.setIfInBounds_toArray, List.set_cons_zero, List.set_cons_succ, i64_w, i32_w]
    rfl
  refine pure_ (i := 9) (N := (some 14)) (v := ?_) (a' := ?_) #[true, true, true, true, true, true, true, true, true, true, false] rfl rfl (any_of HT_.out (by kernel_rfl)) (fun _ _ _ h => h) (Or.inl ⟨by rfl, ?_⟩) ?_ ?_
  rotate_left
  · intro w'
    go_simp
    with_reducible rfl
  rotate_left
  · simp only [Act.put, List.setIfInBounds_toArray, List.set_cons_zero, List.set_cons_succ, i64_w, i32_w]
    rfl
  refine pure_ (i := 10) (N := (some 2)) (v := ?_) (a' := ?_) #[true, true, true, true, true, true, true, true, true, true, true] rfl rfl (any_of HT_.out (by kernel_rfl)) (fun _ _ _ h => h) (Or.inl ⟨by rfl, ?_⟩) ?_ ?_
  rotate_left
  · intro w'
    go_simp
    with_reducible rfl
  rotate_left
  · simp only [Act.put, List.setIfInBounds_toArray, List.set_cons_zero, List.set_cons_succ, i64_w, i32_w]
    rfl
  refine done_ (done_of HT_.out (by kernel_rfl)) ?_
  go_wp2
  go_ret
  exact ⟨congrArg (fun z => Ending.returned (.int .i64 z)) (show wrap64 ((l.length : Int) - (p : Int)) = (l.length : Int) - (p : Int) by unfold wrap64; omega), by repeat (first | exact Below.refl _ _ | apply below_alloc | apply below_drew1)⟩
set_option maxHeartbeats 4000000 in
set_option maxRecDepth 100000 in
theorem read_calls (hr : Kd.C (Kd.int .u8) w A l.length l) (hc : l.length ≤ c) (hl : l.length < 1099511627776) :
    Calls Try.prog 15 #[.slice A l.length c] w fun e' w' => ∃ g A' c', e' = .returned (.pointer (some ⟨g, 0, none⟩)) ∧ w.heap.size ≤ g ∧ RD w' g l 0 0 A' c' ∧ Below w.heap.size w w' := by
  have HR := Aside0.mk hr
  have HLn := Aside0.mk hl
  clear hr
  go_enter Try.func15, Try.ntmps15
  go_wp2_with (first | ((with_reducible refine gate_builtin (b := .append) (xs := #[.const (.slice none 0 0), .tmp 3]) rfl ?_); at_builtin; refine Kd.R_append_rows (Kd.int .u8) (w0 := w) w.heap.size rfl (.const (.slice none 0 0)) (.tmp 3) 22 5 (.int .u8 0) 1 rfl Try.underlying22 info5 rfl (by decide) (by omega) (.slice none 0 0) [] l _ _ _ (fun _ => True) (fun _ => False) rfl rfl ?aO ?aR (fun _ _ h => h) (fun _ h => h.elim) ?aF ?aB ?aS ?aL ?_; (case aR => exact HR.out); (case aB => exact Below.refl _ _); (case aF => exact (fun _ _ => trivial)); (case aO => exact Kd.R_nil _ _ _ _ _); (case aS => exact Nat.le_refl _); (case aL => have := HLn.out; simp; omega); intro v109 w5 ho hb hg hat; obtain ⟨A', c', hv⟩ := Kd.R_slice ho; subst hv; rw [List.nil_append] at ho; have HO := Aside0.mk ho; have HB := Aside0.mk hb; clear ho hb hg hat))
  go_ret
  have hO := Kd.R_reads' HO.out
  have hB2 := below_alloc (Below.refl w5.heap.size w5) (.cells #[.slice A' l.length c', .int .i64 0, .int .i64 0] 53)
  refine ⟨w5.heap.size, A', c', rfl, HB.out.size, ⟨blk_new _ _, hO.2.1, Kd.C_below hO.2.2 hB2, ?_⟩, below_then HB.out HB.out.size hB2⟩
  rintro ad rfl hl0
  have := Kd.C_lt hO.2.2 hl0 (by decide)
  omega
end
end Go.Proofs.Ytgmbefkbonaodaa.QV
