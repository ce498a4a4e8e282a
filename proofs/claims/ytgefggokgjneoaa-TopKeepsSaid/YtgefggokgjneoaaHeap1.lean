/- A heap of rows in memory (HS), and what Less and Swap do to it. Conditions as each theorem has them. -/
import Derived.Test.YtgefggokgjneoaaHeap0
namespace Go.Proofs.Ytgefggokgjneoaa.QT
open Go.RowKit Go.Proofs.YtgefggokgjneoaaW.PrintWords Go.Proofs.YtgefggokgjneoaaW.PrintLast Go.Proofs.YtgefggokgjneoaaW.PrintMore
attribute [local go_sem] max2_int min2_int max_two min_two max_three min_three max_four min_four   -- for this text's walks alone
set_option linter.unusedVariables false
set_option linter.unusedSimpArgs false

/-- Does a stand ahead of b? -/
def aheadB (a b : S27) : Bool := if a.f2 = b.f2 then (if a.f0 = b.f0 then decide (a.f1 < b.f1) else decide (a.f0 < b.f0)) else decide (a.f2 > b.f2)
theorem Ahead_f (a b : S27) : top_Row_Ahead.f a.f0 a.f1 a.f2 b.f0 b.f1 b.f2 = some (aheadB a b) := by
  unfold top_Row_Ahead.f aheadB
  split
  · split <;> rfl
  · rfl

/-- A variable that holds rows, at place 0 of block g (of type T, the rest behind it), in world W; P: which blocks are its own. -/
structure HS (w0 : World) (P : Nat → Prop) (W : World) (g : Nat) (T : TypeId) (rest : List Value) (A : Option Addr) (c : Nat) (l : List S27) : Prop where
  base : w0.heap.size ≤ g
  mine : P g
  blk : W.heap[g]? = some (.cells ((Value.slice A l.length c) :: rest).toArray T (0, 0))
  row : Kd.R k27 27 W w0.heap.size (fun k => P k ∧ k ≠ g) (.slice A l.length c) l

namespace HS
variable {w0 W W1 : World} {P P' : Nat → Prop} {g : Nat} {T : TypeId} {rest : List Value} {A : Option Addr} {c : Nat} {l : List S27}
theorem cell (h : HS w0 P W g T rest A c l) : W.cell? ⟨g, 0, none⟩ = some (.slice A l.length c) := by
  rw [blk_cell h.blk 0]; rfl
theorem unfrozen (h : HS w0 P W g T rest A c l) : W.frozen? ⟨g, 0, none⟩ = false := blk_frozen h.blk 0
theorem lt (h : HS w0 P W g T rest A c l) : g < W.heap.size := blk_lt h.blk
theorem reads (h : HS w0 P W g T rest A c l) : Kd.C k27 W A l.length l := (Kd.R_reads' h.row).2.2
theorem fits (h : HS w0 P W g T rest A c l) : l.length ≤ c := (Kd.R_reads' h.row).2.1
theorem below (h : HS w0 P W g T rest A c l) (hb : Below W.heap.size W W1) : HS w0 P W1 g T rest A c l := ⟨h.base, h.mine, blk_below h.blk hb, Kd.R_below h.row hb⟩
theorem kept {S : Nat → Prop} (h : HS w0 P W g T rest A c l) (hk : Kept W W1 S) (hn : ∀ k, P k → ¬ S k) : HS w0 P W1 g T rest A c l :=
  ⟨h.base, h.mine, (hk.2 g h.lt (hn g h.mine)).trans h.blk, Kd.R_kept h.row hk (fun k hk2 => hn k hk2.1)⟩
theorem mono (h : HS w0 P W g T rest A c l) (hp : ∀ k, P k → P' k) : HS w0 P' W g T rest A c l := ⟨h.base, hp g h.mine, h.blk, Kd.R_mono h.row (fun k hk => ⟨hp k hk.1, hk.2⟩)⟩
theorem bound (h : HS w0 P W g T rest A c l) : HS w0 (fun k => P k ∧ k < W.heap.size) W g T rest A c l := ⟨h.base, ⟨h.mine, h.lt⟩, h.blk, Kd.R_mono (Kd.R_bound h.row) (fun k hk => ⟨⟨hk.1.1, hk.2.2.1⟩, hk.1.2⟩)⟩
theorem ne (h : HS w0 P W g T rest A c l) : ∀ k, some k = (Value.slice A l.length c).ownBlock → k ≠ g := fun k hk => (h.row.1 k hk.symm).2
end HS

/-- Does row i lie below row k in the heap, as Less tells it? -/
def lessB (l : List S27) (i k : Nat) : Bool := aheadB (rd_T27 l (k : Int)) (rd_T27 l (i : Int))
def swapL (l : List S27) (i k : Nat) : List S27 := (l.set i (rd_T27 l (k : Int))).set k (rd_T27 l (i : Int))
theorem swapL_length (l : List S27) (i k : Nat) : (swapL l i k).length = l.length := by simp [swapL]

section
variable {w0 W : World} {P : Nat → Prop} {g : Nat} {T : TypeId} {rest : List Value} {A : Option Addr} {c : Nat} {l : List S27}
theorem less_calls (h : HS w0 P W g T rest A c l) (i k : Nat) (hi : i < l.length) (hk : k < l.length) :
    Calls Try.prog 40 #[.slice A l.length c, .int .i64 (i : Int), .int .i64 (k : Int)] W fun e w' => e = .returned (.bool (lessB l i k)) ∧ Below W.heap.size W w' :=
  top_rows_Less.calls A c l (i : Int) (k : Int) (lessB l i k) W h.reads h.fits (by
    unfold top_rows_Less.f
    rw [if_pos (by omega), if_pos (by omega), if_pos (by omega), if_pos (by omega), Ahead_f]
    rfl)
theorem swap_calls (h : HS w0 P W g T rest A c l) (hB : Below w0.heap.size w0 W) (i k : Nat) (hi : i < l.length) (hk : k < l.length) :
    Calls Try.prog 41 #[.slice A l.length c, .int .i64 (i : Int), .int .i64 (k : Int)] W fun e w' => e = .returned (.tuple #[]) ∧ HS w0 (fun q => P q ∨ W.heap.size ≤ q) w' g T rest A c (swapL l i k) ∧ Below w0.heap.size w0 w' ∧ Kept W w' (fun q => P q ∧ q ≠ g) := by
  have hR := Kd.R_mono (ok' := fun q => (P q ∧ q ≠ g) ∧ q < W.heap.size) (Kd.R_bound h.row) (fun q hq => ⟨hq.1, hq.2.2.1⟩)
  refine (top_rows_Swap.calls (fun q => (P q ∧ q ≠ g) ∧ q < W.heap.size) (.slice A l.length c) l (i : Int) (k : Int) (swapL l i k) w0 W hB hR (by
    unfold top_rows_Swap.f swapL
    rw [if_pos (by omega), if_pos (by omega), if_pos (by omega), if_pos (by omega), Int.toNat_natCast, Int.toNat_natCast])).mono ?_
  rintro e w' ⟨he, hr, hb, hkp⟩
  have hkp2 : Kept W w' (fun q => P q ∧ q ≠ g) := Kept.mono hkp (fun q hq => hq.1)
  refine ⟨he, ⟨h.base, .inl h.mine, ?_, ?_⟩, hb, hkp2⟩
  · rw [swapL_length]
    exact blk_kept h.blk hkp2 (fun hq => hq.2 rfl)
  · rw [swapL_length]
    refine Kd.R_mono hr (fun q hq => ?_)
    rcases hq with hq | hq
    · exact ⟨.inl hq.1.1, hq.1.2⟩
    · exact ⟨.inr hq, fun he => by have := h.lt; omega⟩
end
end Go.Proofs.Ytgefggokgjneoaa.QT
