/- Arguments that came in: texts, numbers, parts; read as data, laid as rows that are read. Condition: the reading of the argument. -/
import Derived.Test.YtgmbefkbonaodaaOpn
import Derived.Test.YtgmbefkbonaodaaQVx0
namespace Go.Proofs.Ytgmbefkbonaodaa.VOpn
open Go.RowKit Go.Proofs.Ytgmbefkbonaodaa.QV Go.Proofs.Ytgmbefkbonaodaa.Opn Go.Proofs.YtgmbefkbonaodaaW.PrintWords
section
variable {H : Type} {enc : TypeId × Value → H} {w : World} {base : Nat} {spare : Nat → Bool} {held : Bool}
theorem str_of (n : Nat) (cs : List Value) (y : DataW H × List MemPlace) (h : DataW.trod enc Try.prog w base spare held n 9 cs = some y) : ∃ a, Kd.string.K w a cs ∧ True := by
  obtain ⟨s, rfl, _⟩ := DataW.trod_string Try.underlying9 h
  exact ⟨s, rfl, trivial⟩
theorem strs_of {n : Nat} {cs : List Value} {y : DataW H × List MemPlace} (h : DataW.trod enc Try.prog w base spare held n 49 cs = some y) :
    ∃ (A : Option Addr) (c : Nat) (xs : List ByteArray), cs = [.slice A xs.length c] ∧ xs.length ≤ c ∧ c ≤ maxLen ∧ Kd.string.C w A xs.length xs ∧ ∀ a ∈ xs, True :=
  rows_of Kd.string (fun _ => True) Try.underlying49 (by kernel_rfl) str_of h
theorem int_of (n : Nat) (cs : List Value) (y : DataW H × List MemPlace) (h : DataW.trod enc Try.prog w base spare held n 3 cs = some y) : ∃ a, (Kd.int .i64).K w a cs ∧ (Lit.int .i64 a).wf = true := by
  obtain ⟨m, rfl, hm⟩ := cells_one Try.underlying3 h
  exact ⟨m, rfl, hm⟩
theorem ints_of {n : Nat} {cs : List Value} {y : DataW H × List MemPlace} (h : DataW.trod enc Try.prog w base spare held n 37 cs = some y) :
    ∃ (A : Option Addr) (c : Nat) (xs : List Int), cs = [.slice A xs.length c] ∧ xs.length ≤ c ∧ c ≤ maxLen ∧ (Kd.int .i64).C w A xs.length xs ∧ ∀ a ∈ xs, (Lit.int .i64 a).wf = true :=
  rows_of (Kd.int .i64) (fun a => (Lit.int .i64 a).wf = true) Try.underlying37 (by kernel_rfl) int_of h
theorem part_of (n : Nat) (cs : List Value) (y : DataW H × List MemPlace) (h : DataW.trod enc Try.prog w base spare held n 39 cs = some y) : ∃ a, k39.K w a cs ∧ True := by
  obtain ⟨xs, m, _, _, hl, hxl, hf⟩ := DataW.trod_struct Try.underlying39 h
  have h4 : Try.prog.cellsOf 39 = 3 := by kernel_rfl
  have h1 : Try.prog.cellsOf 4 = 1 := by kernel_rfl
  have h2 : Try.prog.cellsOf 3 = 1 := by kernel_rfl
  have h3 : Try.prog.cellsOf 9 = 1 := by kernel_rfl
  rw [h4] at hl
  obtain ⟨c0, c1, c2, rfl⟩ := list3 hl
  obtain ⟨x0, x1, x2, rfl⟩ : ∃ x0 x1 x2, xs = [x0, x1, x2] := by
    match xs, hxl with
    | [a, b, c], _ => exact ⟨a, b, c, rfl⟩
  have f0 : DataW.trod enc Try.prog w base spare held m 4 (([c0, c1, c2].drop 0).take (Try.prog.cellsOf 4)) = some x0 := hf 0 _ rfl
  have f1 : DataW.trod enc Try.prog w base spare held m 3 (([c0, c1, c2].drop 1).take (Try.prog.cellsOf 3)) = some x1 := hf 1 _ rfl
  have f2 : DataW.trod enc Try.prog w base spare held m 9 (([c0, c1, c2].drop 2).take (Try.prog.cellsOf 9)) = some x2 := hf 2 _ rfl
  rw [h1] at f0
  rw [h2] at f1
  rw [h3] at f2
  obtain ⟨n0, e0, _⟩ := DataW.trod_bool Try.underlying4 f0
  obtain ⟨n1, e1, _⟩ := cells_one Try.underlying3 f1
  obtain ⟨n2, e2, _⟩ := DataW.trod_string Try.underlying9 f2
  simp at e0 e1 e2
  subst e0 e1 e2
  exact ⟨⟨n0, n1, n2⟩, k39_mk w _, trivial⟩
theorem parts_of {n : Nat} {cs : List Value} {y : DataW H × List MemPlace} (h : DataW.trod enc Try.prog w base spare held n 36 cs = some y) :
    ∃ (A : Option Addr) (c : Nat) (xs : List S39), cs = [.slice A xs.length c] ∧ xs.length ≤ c ∧ c ≤ maxLen ∧ k39.C w A xs.length xs ∧ ∀ a ∈ xs, True :=
  rows_of k39 (fun _ => True) Try.underlying36 (by kernel_rfl) part_of h
end
end Go.Proofs.Ytgmbefkbonaodaa.VOpn
