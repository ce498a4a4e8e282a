/- Matches that came in: spans as four whole numbers each, a match as two slices of spans, a list of matches; all read as rows. Condition: the reading of the argument. -/
import Derived.Test.YthbjofpaegboiaaOpn
import Derived.Test.YthbjofpaegboiaaSMath
namespace Go.Proofs.Ythbjofpaegboiaa.SOpn
open Go.RowKit Go.Proofs.Ythbjofpaegboiaa.QS Go.Proofs.Ythbjofpaegboiaa.SMath Go.Proofs.Ythbjofpaegboiaa.Opn Go.Proofs.YthbjofpaegboiaaW.PrintWords
section
variable {H : Type} {enc : TypeId × Value → H} {w : World} {base : Nat} {spare : Nat → Bool} {held : Bool}

def Wf31 (s : S31) : Prop := s.f3 ≤ 9223372036854775807
def Wf25 (m : S25) : Prop := (∀ s ∈ m.f0, Wf31 s) ∧ m.f0.length ≤ 9223372036854775807 ∧ m.f1.length ≤ 9223372036854775807

theorem span_of (n : Nat) (cs : List Value) (y : DataW H × List MemPlace) (h : DataW.trod enc Try.prog w base spare held n 31 cs = some y) : ∃ a, k31.K w a cs ∧ Wf31 a := by
  obtain ⟨xs, m, _, _, hl, hxl, hf⟩ := DataW.trod_struct Try.underlying31 h
  have h4 : Try.prog.cellsOf 31 = 4 := by kernel_rfl
  have h1 : Try.prog.cellsOf 3 = 1 := by kernel_rfl
  rw [h4] at hl
  obtain ⟨c0, c1, c2, c3, rfl⟩ := list4 hl
  obtain ⟨x0, x1, x2, x3, rfl⟩ : ∃ x0 x1 x2 x3, xs = [x0, x1, x2, x3] := by
    match xs, hxl with
    | [a, b, c, d], _ => exact ⟨a, b, c, d, rfl⟩
  have f0 : DataW.trod enc Try.prog w base spare held m 3 (([c0, c1, c2, c3].drop 0).take (Try.prog.cellsOf 3)) = some x0 := hf 0 _ rfl
  have f1 : DataW.trod enc Try.prog w base spare held m 3 (([c0, c1, c2, c3].drop 1).take (Try.prog.cellsOf 3)) = some x1 := hf 1 _ rfl
  have f2 : DataW.trod enc Try.prog w base spare held m 3 (([c0, c1, c2, c3].drop 2).take (Try.prog.cellsOf 3)) = some x2 := hf 2 _ rfl
  have f3 : DataW.trod enc Try.prog w base spare held m 3 (([c0, c1, c2, c3].drop 3).take (Try.prog.cellsOf 3)) = some x3 := hf 3 _ rfl
  rw [h1] at f0 f1 f2 f3
  obtain ⟨n0, e0, _⟩ := cells_one Try.underlying3 f0
  obtain ⟨n1, e1, _⟩ := cells_one Try.underlying3 f1
  obtain ⟨n2, e2, _⟩ := cells_one Try.underlying3 f2
  obtain ⟨n3, e3, g3⟩ := cells_one Try.underlying3 f3
  simp at e0 e1 e2 e3
  subst e0 e1 e2 e3
  refine ⟨⟨n0, n1, n2, n3⟩, k31_mk w _, ?_⟩
  simp [Lit.wf, IntKind.min, IntKind.max, IntKind.signed, IntKind.bits] at g3
  show n3 ≤ 9223372036854775807
  omega

theorem spans_of {n : Nat} {cs : List Value} {y : DataW H × List MemPlace} (h : DataW.trod enc Try.prog w base spare held n 23 cs = some y) :
    ∃ (A : Option Addr) (c : Nat) (xs : List S31), cs = [.slice A xs.length c] ∧ xs.length ≤ c ∧ c ≤ maxLen ∧ k31.C w A xs.length xs ∧ ∀ a ∈ xs, Wf31 a :=
  rows_of k31 Wf31 Try.underlying23 (by kernel_rfl) span_of h

theorem match_of (n : Nat) (cs : List Value) (y : DataW H × List MemPlace) (h : DataW.trod enc Try.prog w base spare held n 25 cs = some y) : ∃ a, k25.K w a cs ∧ Wf25 a := by
  obtain ⟨xs, m, _, _, hl, hxl, hf⟩ := DataW.trod_struct Try.underlying25 h
  have h2 : Try.prog.cellsOf 25 = 2 := by kernel_rfl
  have h1 : Try.prog.cellsOf 23 = 1 := by kernel_rfl
  rw [h2] at hl
  obtain ⟨c0, c1, rfl⟩ := list2 hl
  obtain ⟨x0, x1, rfl⟩ : ∃ x0 x1, xs = [x0, x1] := by
    match xs, hxl with
    | [a, b], _ => exact ⟨a, b, rfl⟩
  have f0 : DataW.trod enc Try.prog w base spare held m 23 (([c0, c1].drop 0).take (Try.prog.cellsOf 23)) = some x0 := hf 0 _ rfl
  have f1 : DataW.trod enc Try.prog w base spare held m 23 (([c0, c1].drop 1).take (Try.prog.cellsOf 23)) = some x1 := hf 1 _ rfl
  rw [h1] at f0 f1
  obtain ⟨A0, d0, l0, e0, b0, m0, r0, g0⟩ := spans_of f0
  obtain ⟨A1, d1, l1, e1, b1, m1, r1, _⟩ := spans_of f1
  simp at e0 e1
  subst e0 e1
  have hm : maxLen = 9223372036854775807 := rfl
  exact ⟨⟨l0, l1⟩, k25_mk w ⟨l0, l1⟩ b0 r0 b1 r1, g0, by show l0.length ≤ _; omega, by show l1.length ≤ _; omega⟩

theorem matches_of {n : Nat} {cs : List Value} {y : DataW H × List MemPlace} (h : DataW.trod enc Try.prog w base spare held n 22 cs = some y) :
    ∃ (A : Option Addr) (c : Nat) (xs : List S25), cs = [.slice A xs.length c] ∧ xs.length ≤ c ∧ c ≤ maxLen ∧ k25.C w A xs.length xs ∧ ∀ a ∈ xs, Wf25 a :=
  rows_of k25 Wf25 Try.underlying22 (by kernel_rfl) match_of h
end
end Go.Proofs.Ythbjofpaegboiaa.SOpn
