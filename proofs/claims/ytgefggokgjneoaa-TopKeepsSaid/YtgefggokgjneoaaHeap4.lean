/- The contracts of rows.Push and rows.Pop over a heap of rows in memory. Conditions as each theorem has them. -/
import Derived.Test.YtgefggokgjneoaaHeap3
namespace Go.Proofs.Ytgefggokgjneoaa.QT
open Go.RowKit Go.Proofs.YtgefggokgjneoaaW.PrintWords Go.Proofs.YtgefggokgjneoaaW.PrintLast Go.Proofs.YtgefggokgjneoaaW.PrintMore
attribute [local go_sem] max2_int min2_int max_two min_two max_three min_three max_four min_four   -- for this text's walks alone
set_option linter.unusedVariables false
set_option linter.unusedSimpArgs false
theorem ta27 (v : Value) (W : World) : (Instr.typeAssert (.iface 27 v) 20 27 false).run Try.prog W = .ok v W := by
  unfold Instr.typeAssert
  simp [run_underlying Try.underlying27]
attribute [local go_sem] ta27
theorem HS.row_fresh {w0 W : World} {P : Nat → Prop} {g : Nat} {T : TypeId} {rest : List Value} {A : Option Addr} {c : Nat} {l : List S27} (h : HS w0 P W g T rest A c l) (k : Nat) (hk : W.heap.size ≤ k) : (P k ∨ W.heap.size ≤ k) ∧ k ≠ g := ⟨.inr hk, fun he => by have := h.lt; omega⟩
/-- The variable holds another row in its place: rows and all. -/
theorem HS.stored {w0 W W1 : World} {P P' : Nat → Prop} {g : Nat} {T : TypeId} {rest : List Value} {A A' : Option Addr} {c c' : Nat} {l l' : List S27} (h : HS w0 P W g T rest A c l)
    (hb1 : W1.heap[g]? = W.heap[g]?) (hP : ∀ k, P k → P' k) (hr : Kd.R k27 27 W1 w0.heap.size (fun k => P' k ∧ k ≠ g) (.slice A' l'.length c') l') :
    HS w0 P' (W1.setCell ⟨g, 0, none⟩ (.slice A' l'.length c')) g T rest A' c' l' := by
  have hblk := hb1.trans h.blk
  refine ⟨h.base, hP g h.mine, ?_, Kd.R_far hr (fun k hk => hk.2) _⟩
  first
    | (rw [blk_set hblk 0]; rfl)
    | (simpa using blk_set hblk 0 (.slice A' l'.length c'))
theorem HS.grown {w0 W W1 : World} {P : Nat → Prop} {g : Nat} {T : TypeId} {rest : List Value} {A : Option Addr} {c : Nat} {l : List S27} (h : HS w0 P W g T rest A c l) (hg : W.grownBy W1 (Value.slice A l.length c).ownBlock) :
    W1.heap[g]? = some (.cells ((Value.slice A l.length c) :: rest).toArray T (0, 0)) := blk_grown h.blk hg (fun he => h.ne g he rfl)
/-- What an act leaves that may put another row into the variable. -/
structure Moved (w0 w : World) (P : Nat → Prop) (w' : World) (g : Nat) (T : TypeId) (rest : List Value) (A : Option Addr) (c : Nat) (l : List S27) : Prop where
  hs : HS w0 (fun q => P q ∨ w.heap.size ≤ q) w' g T rest A c l
  below : Below w0.heap.size w0 w'
  kept : Kept w w' P
theorem Left.moved {w0 w w' : World} {P : Nat → Prop} {g : Nat} {T : TypeId} {rest : List Value} {A : Option Addr} {c : Nat} {l : List S27} (h : Left w0 w P w' g T rest A c l) : Moved w0 w P w' g T rest A c l := ⟨h.hs, h.below, Kept.mono h.kept (fun _ hk => hk.1)⟩
/-- One act behind the other. -/
theorem Moved.then_ {w0 w w1 w2 : World} {P : Nat → Prop} {g : Nat} {T : TypeId} {rest : List Value} {A A' : Option Addr} {c c' : Nat} {l l' : List S27} (h : Moved w0 w P w1 g T rest A c l) (k : Moved w0 w1 (fun q => P q ∨ w.heap.size ≤ q) w2 g T rest A' c' l') : Moved w0 w P w2 g T rest A' c' l' :=
  ⟨k.hs.mono (fun q hq => hq.elim id (fun hq => .inr (Nat.le_trans h.kept.1 hq))), k.below, Kept.then_ h.kept k.kept (fun _ hq => hq)⟩
theorem HS.pushed {w0 W W1 : World} {P : Nat → Prop} {g : Nat} {T : TypeId} {rest : List Value} {A A' : Option Addr} {c c' : Nat} {l l' : List S27} (h : HS w0 P W g T rest A c l)
    (hr : Kd.R k27 27 W1 w0.heap.size (fun k => (P k ∨ W.heap.size ≤ k) ∧ k ≠ g) (.slice A' l'.length c') l') (hb : Below w0.heap.size w0 W1) (hg : W.grownBy W1 (Value.slice A l.length c).ownBlock) (hB : Below w0.heap.size w0 W) :
    Moved w0 W P (W1.setCell ⟨g, 0, none⟩ (.slice A' l'.length c')) g T rest A' c' l' := by
  refine ⟨HS.stored (W1 := W1) h ?_ (fun k hk => .inl hk) hr, below_set hb h.base, Kept.setCell (Kept.of_grown hg (Kept.refl W P) (fun k hk => .inl (h.row.1 k hk).1)) (.inl h.mine) _⟩
  exact (h.grown hg).trans h.blk.symm
set_option maxHeartbeats 4000000 in
set_option maxRecDepth 100000 in
theorem push_calls {w0 w : World} {P : Nat → Prop} {g : Nat} {T : TypeId} {rest : List Value} {A : Option Addr} {c : Nat} {l : List S27} (h : HS w0 P w g T rest A c l) (hB : Below w0.heap.size w0 w) (x : S27) (hl : l.length ≤ 1099511627776) :
    Calls Try.prog 43 #[.pointer (some ⟨g, 0, none⟩), .iface 27 (.agg #[.int .i64 x.f0, .int .i64 x.f1, .int .i64 x.f2])] w fun e w' => e = .returned (.tuple #[]) ∧ ∃ A' c', Moved w0 w P w' g T rest A' c' (l ++ [x]) := by
  have HLn := Aside0.mk hl
  have HT := Aside0.mk h
  have HBB := Aside0.mk hB
  have hcell := h.cell
  have hunf := h.unfrozen
  have hlt := h.lt
  clear h hB hl
  go_enter Try.func43, Try.ntmps43
  go_wp2
  refine start_ (n := 10) (S := fun w' => w'.cell? ⟨g, 0, none⟩ = some (.slice A l.length c)) (ds := [9]) #[false, false, false, false, false, false, false, false, false, false] (by kernel_rfl) rfl rfl (hcell) (fun hHeld => ?_); refine with_tab (T := rtab .any (opsOf Try.f43 0)) rfl (fun HT_ => ?_)
  refine pure_ (i := 0) (N := (some 4)) (v := ?_) (a' := ?_) #[true, false, false, false, false, false, false, false, false, false] rfl rfl (any_of HT_.out (by kernel_rfl)) (fun _ _ _ h => h) (Or.inl ⟨by rfl, ?_⟩) ?_ ?_
  rotate_left
  · intro w'
    go_simp
    with_reducible rfl
  rotate_left
  · simp only [Act.put, List.setIfInBounds_toArray, List.set_cons_zero, List.set_cons_succ, i64_w, i32_w]
    rfl
  refine pure_ (i := 1) (N := (some 5)) (v := ?_) (a' := ?_) #[true, true, false, false, false, false, false, false, false, false] rfl rfl (any_of HT_.out (by kernel_rfl)) (fun _ _ _ h => h) (Or.inl ⟨by rfl, ?_⟩) ?_ ?_
  rotate_left
  · intro w'
    go_simp
    with_reducible rfl
  rotate_left
  · simp only [Act.put, List.setIfInBounds_toArray, List.set_cons_zero, List.set_cons_succ, i64_w, i32_w]
    rfl
  refine pure_ (i := 2) (N := (some 6)) (v := ?_) (a' := ?_) #[true, true, true, false, false, false, false, false, false, false] rfl rfl (any_of HT_.out (by kernel_rfl)) (fun _ _ _ h => h) (Or.inl ⟨by rfl, ?_⟩) ?_ ?_
  rotate_left
  · intro w'
    go_simp
    with_reducible rfl
  rotate_left
  · simp only [Act.put, List.setIfInBounds_toArray, List.set_cons_zero, List.set_cons_succ, i64_w, i32_w]
    rfl
  refine pure_ (i := 4) (N := (some 8)) (v := ?_) (a' := ?_) #[true, true, true, false, true, false, false, false, false, false] rfl rfl (any_of HT_.out (by kernel_rfl)) (fun _ _ _ h => h) (Or.inl ⟨by rfl, ?_⟩) ?_ ?_
  rotate_left
  · intro w'
    go_simp
    with_reducible rfl
  rotate_left
  · simp only [Act.put, List.setIfInBounds_toArray, List.set_cons_zero, List.set_cons_succ, i64_w, i32_w]
    rfl
  refine pure_ (i := 5) (N := (some 9)) (v := ?_) (a' := ?_) #[true, true, true, false, true, true, false, false, false, false] rfl rfl (any_of HT_.out (by kernel_rfl)) (fun _ _ _ h => h) (Or.inl ⟨by rfl, ?_⟩) ?_ ?_
  rotate_left
  · intro w'
    go_simp
    with_reducible rfl
  rotate_left
  · simp only [Act.put, List.setIfInBounds_toArray, List.set_cons_zero, List.set_cons_succ, i64_w, i32_w]
    rfl
  refine take_ (i := 3) (N := (some 7)) (v := ?_) (a' := ?_) #[true, true, true, true, true, true, false, false, false, false] rfl rfl (take_of HT_.out (by kernel_rfl)) (fun _ _ _ h => h) (Or.inl ⟨by rfl, ?_⟩) hHeld ?_ ?_
  rotate_left
  · rintro w' s0
    go_simp
    with_reducible rfl
  rotate_left
  · simp only [Act.put, List.setIfInBounds_toArray, List.set_cons_zero, List.set_cons_succ, i64_w, i32_w]
    rfl
  refine one_ (i := 6) (N := (some 10)) #[true, true, true, true, true, true, true, false, false, false] rfl rfl (one_of HT_.out (by kernel_rfl)) (by decide) (fun K hK => ?_)
  refine value_ (v := .slice (some ⟨w.heap.size, 0, none⟩) 1 1) (w1 := w.drew.alloc (.cells #[.int .i64 x.f0, .int .i64 x.f1, .int .i64 x.f2] 27)) (by rfl) rfl ?_ ?_
  · go_simp
    first | rfl | done
  refine hK.out _ _ ((Below.cell (below_alloc (Below.refl _ _) _) hlt).trans hcell) (fun hHeld => ?_)
  clear hK K
  refine norm_ (a' := ?_) ?_ ?_
  rotate_left
  · show Act.put _ (some 10) _ = _
    simp only [Act.put, List.setIfInBounds_toArray, List.set_cons_zero, List.set_cons_succ, i64_w, i32_w]
    rfl
  refine one_ (i := 7) (N := (some 11)) #[true, true, true, true, true, true, true, true, false, false] rfl rfl (one_of HT_.out (by kernel_rfl)) (by decide) (fun K hK => ?_)
  refine Kd.R_append_step k27 (w0 := w0) (W := w.drew) w0.heap.size (by rfl) (.tmp 7) (.tmp 10) 41 27 (.agg #[(.int .i64 0), (.int .i64 0), (.int .i64 0)]) 24 rfl Try.underlying41 info27 rfl (by decide) (by omega) (.slice A l.length c) l x [.int .i64 x.f0, .int .i64 x.f1, .int .i64 x.f2] (fun k => (P k ∨ w.heap.size ≤ k) ∧ k ≠ g) (fun _ => False) rfl rfl ?aP (fun _ hk => hk.elim) ?aF ?aO ?aB ?aS ?aL ?_
  case aP => exact k27_mkM _ _ _ x
  case aF => exact HT.out.row_fresh
  case aO => exact Kd.R_mono HT.out.row (fun k hk => ⟨.inl hk.1, hk.2⟩)
  case aB => exact below_drew1 HBB.out
  case aS => exact HBB.out.size
  case aL => have := HLn.out; omega
  intro v1 w1 ho hb hg hat
  obtain ⟨A', c', rfl⟩ := Kd.R_slice ho
  replace hg := World.grownBy.trans (grown_of_below (w := w) (w1 := w.drew) (below_drew1 (Below.refl _ _)) (Value.slice A l.length c).ownBlock) hg
  have hgk := HT.out.grown hg
  have hc1 : w1.cell? ⟨g, 0, none⟩ = some (.slice A l.length c) := by rw [blk_cell hgk 0]; rfl
  have hf1 : w1.frozen? ⟨g, 0, none⟩ = false := blk_frozen hgk 0
  have HF := Aside0.mk (HT.out.pushed ho hb hg HBB.out)
  refine hK.out _ _ hc1 (fun hHeld => ?_)
  clear hK K ho hb hg hat
  refine norm_ (a' := ?_) ?_ ?_
  rotate_left
  · show Act.put _ (some 11) _ = _
    simp only [Act.put, List.setIfInBounds_toArray, List.set_cons_zero, List.set_cons_succ, i64_w, i32_w]
    rfl
  refine pure_ (i := 8) (N := (some 12)) (v := ?_) (a' := ?_) #[true, true, true, true, true, true, true, true, true, false] rfl rfl (any_of HT_.out (by kernel_rfl)) (fun _ _ _ h => h) (Or.inl ⟨by rfl, ?_⟩) ?_ ?_
  rotate_left
  · intro w'
    go_simp
    with_reducible rfl
  rotate_left
  · simp only [Act.put, List.setIfInBounds_toArray, List.set_cons_zero, List.set_cons_succ, i64_w, i32_w]
    rfl
  refine last_ (i := 9) (N := none) #[true, true, true, true, true, true, true, true, true, true] rfl rfl (one_of HT_.out (by kernel_rfl)) (by decide) (fun K hK => ?_)
  refine skip_ (w1 := w1.setCell ⟨g, 0, none⟩ (.slice A' (l ++ [x]).length c')) (by rfl) rfl ?_ ?_
  · go_simp
  refine hK.out _ _ ?_
  clear hK K
  refine done_ (done_of HT_.out (by kernel_rfl)) ?_
  try go_wp2
  go_end0
  exact ⟨rfl, A', c', HF.out⟩
end Go.Proofs.Ytgefggokgjneoaa.QT
