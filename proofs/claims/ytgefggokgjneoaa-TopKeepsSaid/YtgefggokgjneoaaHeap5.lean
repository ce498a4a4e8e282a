/- The contract of rows.Pop over a heap of rows in memory. Conditions as each theorem has them. -/
import Derived.Test.YtgefggokgjneoaaHeap4
namespace Go.Proofs.Ytgefggokgjneoaa.QT
open Go.RowKit Go.Proofs.YtgefggokgjneoaaW.PrintWords Go.Proofs.YtgefggokgjneoaaW.PrintLast Go.Proofs.YtgefggokgjneoaaW.PrintMore
attribute [local go_sem] max2_int min2_int max_two min_two max_three min_three max_four min_four   -- for this text's walks alone
set_option linter.unusedVariables false
set_option linter.unusedSimpArgs false
def enc27 (x : S27) : Value := .agg #[.int .i64 x.f0, .int .i64 x.f1, .int .i64 x.f2]
theorem Moved.made {w0 w w1 w2 : World} {P : Nat → Prop} {g : Nat} {T : TypeId} {rest : List Value} {A : Option Addr} {c : Nat} {l : List S27} (h : Moved w0 w P w1 g T rest A c l) (hb : Below w1.heap.size w1 w2) : Moved w0 w P w2 g T rest A c l :=
  ⟨h.hs.below hb, below_then h.below h.below.size hb, Kept.below h.kept hb⟩
theorem HS.popped {w0 W : World} {P : Nat → Prop} {g : Nat} {T : TypeId} {rest : List Value} {A : Option Addr} {c n : Nat} {l : List S27} (h : HS w0 P W g T rest A c l) (hB : Below w0.heap.size w0 W) (hn : n ≤ l.length) :
    Moved w0 W P (W.setCell ⟨g, 0, none⟩ (.slice A n c)) g T rest A c (l.take n) := by
  have hl : (l.take n).length = n := by rw [List.length_take]; omega
  have hr := Kd.R_take h.row hn
  have hs := HS.stored (W1 := W) (P' := fun q => P q ∨ W.heap.size ≤ q) (A' := A) (c' := c) (l' := l.take n) h rfl (fun k hk => .inl hk) (by rw [hl]; exact Kd.R_mono hr (fun k hk => ⟨.inl hk.1, hk.2⟩))
  rw [hl] at hs
  exact ⟨hs, below_set hB h.base, Kept.setCell (Kept.refl W P) (.inl h.mine) _⟩
set_option maxHeartbeats 4000000 in
set_option maxRecDepth 100000 in
theorem popr_calls {w0 w : World} {P : Nat → Prop} {g : Nat} {T : TypeId} {rest : List Value} {A : Option Addr} {c : Nat} {l : List S27} (h : HS w0 P w g T rest A c l) (hB : Below w0.heap.size w0 w) (n : Nat) (hn : l.length = n + 1) (hl : l.length ≤ 1099511627776) :
    Calls Try.prog 42 #[.pointer (some ⟨g, 0, none⟩)] w fun e w' => e = .returned (.iface 27 (enc27 (rd_T27 l (n : Int)))) ∧ Moved w0 w P w' g T rest A c (l.take n) := by
  have HLn := Aside0.mk hl
  have HT := Aside0.mk h
  have HBB := Aside0.mk hB
  have hcell := h.cell
  have hunf := h.unfrozen
  have hlt := h.lt
  have hlen : ((l.length : Nat) : Int) - 1 = (n : Int) := by omega
  obtain ⟨ad, e, hx0, hx1, hx2⟩ := at_T27 h.reads (n : Int) (by omega) (by omega)
  have hnl : n < l.length := by omega
  have hnc : n ≤ c := by have := h.fits; omega
  subst e
  rw [Int.toNat_natCast] at hx0 hx1 hx2
  generalize hy : rd_T27 l (n : Int) = y at hx0 hx1 hx2 ⊢
  have hnb : (n : Int) ≤ 1099511627776 := by omega
  have hge : (0 : Int) ≤ (n : Int) := by omega
  have hnw : wrap64 (n : Int) = (n : Int) := by first | (simp; done) | (unfold wrap64; omega)
  clear h hB hl
  go_enter Try.func42, Try.ntmps42
  go_wp2
  go_ret
  exact ⟨rfl, Moved.made (HT.out.popped HBB.out (by omega)) (below_alloc (Below.refl _ _) _)⟩
end Go.Proofs.Ytgefggokgjneoaa.QT
