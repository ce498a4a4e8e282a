/- Rows that came in: three whole numbers each, a list of rows; read as data, laid as rows that are read. Condition: the reading of the argument. -/
import Derived.Test.YtgefggokgjneoaaOpn
import Derived.Test.YtgefggokgjneoaaQTx0
namespace Go.Proofs.Ytgefggokgjneoaa.TOpn
open Go.RowKit Go.Proofs.Ytgefggokgjneoaa.QT Go.Proofs.Ytgefggokgjneoaa.Opn Go.Proofs.YtgefggokgjneoaaW.PrintWords
section
variable {H : Type} {enc : TypeId × Value → H} {w : World} {base : Nat} {spare : Nat → Bool} {held : Bool}
theorem row3_of (n : Nat) (cs : List Value) (y : DataW H × List MemPlace) (h : DataW.trod enc Try.prog w base spare held n 27 cs = some y) : ∃ n0 n1 n2 : Int, cs = [.int .i64 n0, .int .i64 n1, .int .i64 n2] := by
  obtain ⟨xs, m, _, _, hl, hxl, hf⟩ := DataW.trod_struct Try.underlying27 h
  have h4 : Try.prog.cellsOf 27 = 3 := by kernel_rfl
  have h1 : Try.prog.cellsOf 3 = 1 := by kernel_rfl
  rw [h4] at hl
  obtain ⟨c0, c1, c2, rfl⟩ := list3 hl
  obtain ⟨x0, x1, x2, rfl⟩ : ∃ x0 x1 x2, xs = [x0, x1, x2] := by
    match xs, hxl with
    | [a, b, c], _ => exact ⟨a, b, c, rfl⟩
  have f0 : DataW.trod enc Try.prog w base spare held m 3 (([c0, c1, c2].drop 0).take (Try.prog.cellsOf 3)) = some x0 := hf 0 _ rfl
  have f1 : DataW.trod enc Try.prog w base spare held m 3 (([c0, c1, c2].drop 1).take (Try.prog.cellsOf 3)) = some x1 := hf 1 _ rfl
  have f2 : DataW.trod enc Try.prog w base spare held m 3 (([c0, c1, c2].drop 2).take (Try.prog.cellsOf 3)) = some x2 := hf 2 _ rfl
  rw [h1] at f0 f1 f2
  obtain ⟨n0, e0, _⟩ := cells_one Try.underlying3 f0
  obtain ⟨n1, e1, _⟩ := cells_one Try.underlying3 f1
  obtain ⟨n2, e2, _⟩ := cells_one Try.underlying3 f2
  simp at e0 e1 e2
  subst e0 e1 e2
  exact ⟨n0, n1, n2, rfl⟩
theorem row_of (n : Nat) (cs : List Value) (y : DataW H × List MemPlace) (h : DataW.trod enc Try.prog w base spare held n 27 cs = some y) : ∃ a, k27.K w a cs ∧ True := by
  obtain ⟨n0, n1, n2, rfl⟩ := row3_of n cs y h
  exact ⟨⟨n0, n1, n2⟩, k27_mk w _, trivial⟩
theorem list_of {n : Nat} {cs : List Value} {y : DataW H × List MemPlace} (h : DataW.trod enc Try.prog w base spare held n 22 cs = some y) :
    ∃ (A : Option Addr) (c : Nat) (xs : List S27), cs = [.slice A xs.length c] ∧ xs.length ≤ c ∧ c ≤ maxLen ∧ k27.C w A xs.length xs ∧ ∀ a ∈ xs, True :=
  rows_of k27 (fun _ => True) Try.underlying22 (by kernel_rfl) row_of h
end
end Go.Proofs.Ytgefggokgjneoaa.TOpn
