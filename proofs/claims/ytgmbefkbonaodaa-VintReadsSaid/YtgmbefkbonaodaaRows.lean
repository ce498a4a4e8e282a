/-
  No cell of these rows narrows 'for every input' (looked for: loops, veiled, ifaces, maps, wideKeys, modest, calm, conditions, laid).
  DERIVED. THE GIVEN ROWS OF THIS SEAT. 6 by the template 'for every input the law returns true; each argument reads behind the call as it read before'; 0 by the template 'total and deterministic' (their statements: YtgmbefkbonaodaaTotals.lean).
  GIVEN WITH THE SEED: the statements are not yours to turn. If you find one false, say at which input.
  Laid BY PROGRAM, IN A SANDBOX (cutbox-rows.mjs): the forced cells as the released guide's own fill.sh prints them over the translation 83f134ef3c95564b… (all of the seat's roots in one cut). By AI agents, Wed Nov 11 2026. No macro, syntax, notation, axiom, sorry.
-/
import Derived.Test.YtgmbefkbonaodaaChecked
import GoSem.Claim
import GoSem.ClaimJoined
import GoSem.ClaimMapViews
import Derived.JoinedTies
import Derived.KernelRfl
namespace Go.Proofs.Ytgmbefkbonaodaa
/- THE CELL 'sum', in the pinned program and in every row, IS THE sha256 OF THE DUMP (.gsa) THAT YtgmbefkbonaodaaProg.lean LOADS. Nothing in Lean hashes anything: it is a label: what it is worth is what the hold of that sum in a sandbox is worth. -/
noncomputable def Try.pinned : Pinned := { name := "ytgmbefkbonaodaa", sum := "83f134ef3c95564bafe2e80e2f7fa0a21dc34826f5f75d07d51f4ab2ae28b255", checked := Try.checked }
namespace Rows
def none {H : Type} : Left H := { results := [], args := [] }

/-- 'catchwordlaw01.VintSums': WHATEVER THE INPUT: true; the input reads as it did. -/
def vintSumsSpec : ChangeSpec := { name := "vintSums", fn := fun _ => fun
  | [d1, d2, d3] => { results := [.lit (.bool true)], args := [d1, d2, d3] }
  | _ => none }
def vintSumsRow : OpenClaim := { program := "ytgmbefkbonaodaa", sum := "83f134ef3c95564bafe2e80e2f7fa0a21dc34826f5f75d07d51f4ab2ae28b255", func := "catchword/catchwordlaw01.VintSums", spec := "vintSums", apart := false }
def VintSumsSaid : Prop := vintSumsRow.holds Try.pinned (OpenSpec.ofChange vintSumsSpec)

/-- ITS FALSE NEIGHBOUR: 'it returns false'. Refute it at one input. -/
def vintSumsWrong : ChangeSpec := { name := "vintSums", fn := fun _ => fun
  | [d1, d2, d3] => { results := [.lit (.bool false)], args := [d1, d2, d3] }
  | _ => none }
def VintSumsWrongFalsely : Prop := vintSumsRow.holds Try.pinned (OpenSpec.ofChange vintSumsWrong)

/-- 'catchwordlaw01.VintAdds': WHATEVER THE INPUT: true; the input reads as it did. -/
def vintAddsSpec : ChangeSpec := { name := "vintAdds", fn := fun _ => fun
  | [d1, d2] => { results := [.lit (.bool true)], args := [d1, d2] }
  | _ => none }
def vintAddsRow : OpenClaim := { program := "ytgmbefkbonaodaa", sum := "83f134ef3c95564bafe2e80e2f7fa0a21dc34826f5f75d07d51f4ab2ae28b255", func := "catchword/catchwordlaw01.VintAdds", spec := "vintAdds", apart := false }
def VintAddsSaid : Prop := vintAddsRow.holds Try.pinned (OpenSpec.ofChange vintAddsSpec)

/-- ITS FALSE NEIGHBOUR: 'it returns false'. Refute it at one input. -/
def vintAddsWrong : ChangeSpec := { name := "vintAdds", fn := fun _ => fun
  | [d1, d2] => { results := [.lit (.bool false)], args := [d1, d2] }
  | _ => none }
def VintAddsWrongFalsely : Prop := vintAddsRow.holds Try.pinned (OpenSpec.ofChange vintAddsWrong)

/-- 'catchwordlaw01.VintPuts': WHATEVER THE INPUT: true; the input reads as it did. -/
def vintPutsSpec : ChangeSpec := { name := "vintPuts", fn := fun _ => fun
  | [d1, d2, d3] => { results := [.lit (.bool true)], args := [d1, d2, d3] }
  | _ => none }
def vintPutsRow : OpenClaim := { program := "ytgmbefkbonaodaa", sum := "83f134ef3c95564bafe2e80e2f7fa0a21dc34826f5f75d07d51f4ab2ae28b255", func := "catchword/catchwordlaw01.VintPuts", spec := "vintPuts", apart := false }
def VintPutsSaid : Prop := vintPutsRow.holds Try.pinned (OpenSpec.ofChange vintPutsSpec)

/-- ITS FALSE NEIGHBOUR: 'it returns false'. Refute it at one input. -/
def vintPutsWrong : ChangeSpec := { name := "vintPuts", fn := fun _ => fun
  | [d1, d2, d3] => { results := [.lit (.bool false)], args := [d1, d2, d3] }
  | _ => none }
def VintPutsWrongFalsely : Prop := vintPutsRow.holds Try.pinned (OpenSpec.ofChange vintPutsWrong)

/-- 'catchwordlaw01.VintGets': WHATEVER THE INPUT: true; the input reads as it did. -/
def vintGetsSpec : ChangeSpec := { name := "vintGets", fn := fun _ => fun
  | [d] => { results := [.lit (.bool true)], args := [d] }
  | _ => none }
def vintGetsRow : OpenClaim := { program := "ytgmbefkbonaodaa", sum := "83f134ef3c95564bafe2e80e2f7fa0a21dc34826f5f75d07d51f4ab2ae28b255", func := "catchword/catchwordlaw01.VintGets", spec := "vintGets", apart := false }
def VintGetsSaid : Prop := vintGetsRow.holds Try.pinned (OpenSpec.ofChange vintGetsSpec)

/-- ITS FALSE NEIGHBOUR: 'it returns false'. Refute it at one input. -/
def vintGetsWrong : ChangeSpec := { name := "vintGets", fn := fun _ => fun
  | [d] => { results := [.lit (.bool false)], args := [d] }
  | _ => none }
def VintGetsWrongFalsely : Prop := vintGetsRow.holds Try.pinned (OpenSpec.ofChange vintGetsWrong)

/-- 'catchwordlaw01.VintReads': WHATEVER THE INPUT: true; the input reads as it did. -/
def vintReadsSpec : ChangeSpec := { name := "vintReads", fn := fun _ => fun
  | [d1, d2, d3] => { results := [.lit (.bool true)], args := [d1, d2, d3] }
  | _ => none }
def vintReadsRow : OpenClaim := { program := "ytgmbefkbonaodaa", sum := "83f134ef3c95564bafe2e80e2f7fa0a21dc34826f5f75d07d51f4ab2ae28b255", func := "catchword/catchwordlaw01.VintReads", spec := "vintReads", apart := false }
def VintReadsSaid : Prop := vintReadsRow.holds Try.pinned (OpenSpec.ofChange vintReadsSpec)

/-- ITS FALSE NEIGHBOUR: 'it returns false'. Refute it at one input. -/
def vintReadsWrong : ChangeSpec := { name := "vintReads", fn := fun _ => fun
  | [d1, d2, d3] => { results := [.lit (.bool false)], args := [d1, d2, d3] }
  | _ => none }
def VintReadsWrongFalsely : Prop := vintReadsRow.holds Try.pinned (OpenSpec.ofChange vintReadsWrong)

/-- 'catchwordlaw01.VintSizes': WHATEVER THE INPUT: true; the input reads as it did. -/
def vintSizesSpec : ChangeSpec := { name := "vintSizes", fn := fun _ => fun
  | [d1, d2, d3] => { results := [.lit (.bool true)], args := [d1, d2, d3] }
  | _ => none }
def vintSizesRow : OpenClaim := { program := "ytgmbefkbonaodaa", sum := "83f134ef3c95564bafe2e80e2f7fa0a21dc34826f5f75d07d51f4ab2ae28b255", func := "catchword/catchwordlaw01.VintSizes", spec := "vintSizes", apart := false }
def VintSizesSaid : Prop := vintSizesRow.holds Try.pinned (OpenSpec.ofChange vintSizesSpec)

/-- ITS FALSE NEIGHBOUR: 'it returns false'. Refute it at one input. -/
def vintSizesWrong : ChangeSpec := { name := "vintSizes", fn := fun _ => fun
  | [d1, d2, d3] => { results := [.lit (.bool false)], args := [d1, d2, d3] }
  | _ => none }
def VintSizesWrongFalsely : Prop := vintSizesRow.holds Try.pinned (OpenSpec.ofChange vintSizesWrong)

/- THE SECOND FORM. 'bulk': how many values and letters a reading holds, each counted each time it is reached (what is shared counts as often as it is met; a slice's spare places count too). A statement '..UptoSaid' is the law's where the arguments, and the package variables that the reading takes, are together of bulk at most 1048576: NARROWER than '..Said'. Prove '..Said' where nothing that the law and all that it calls make is longer than what came in: it says more and counts as full. Else prove '..UptoSaid'. A law counts once. -/
mutual
def uptoBulk {H : Type} : DataW H → Nat
  | .lit (.string bytes) => bytes.length + 1
  | .lit _ => 1
  | .nil => 1
  | .ptr d => uptoBulk d + 1
  | .slice elems spare => uptoBulkAll elems + uptoBulkAll spare + 1
  | .agg parts => uptoBulkAll parts + 1
  | .iface _ d => uptoBulk d + 1
  | .map entries => uptoBulkEntries entries + 1
  | .held _ => 1
def uptoBulkAll {H : Type} : List (DataW H) → Nat
  | [] => 0
  | d :: r => uptoBulk d + uptoBulkAll r
def uptoBulkEntries {H : Type} : List (Lit × DataW H) → Nat
  | [] => 0
  | x :: r => uptoBulkEntry x + uptoBulkEntries r
def uptoBulkEntry {H : Type} : Lit × DataW H → Nat
  | (.string bytes, d) => bytes.length + uptoBulk d + 1
  | (_, d) => uptoBulk d + 1
 end
def uptoSmall : (H : Type) → List (DataW H) → Bool := fun _ ds => decide (uptoBulkAll ds ≤ 1048576)
def OpenSpec.upto (s : _root_.Go.ChangeSpec) : _root_.Go.OpenSpec := { _root_.Go.OpenSpec.ofChange s with cond := some uptoSmall }

/-- 'catchwordlaw01.VintSums', WHERE WHAT IT READS IS OF BULK AT MOST 1048576: true; the input reads as it did. -/
def vintSumsUptoRow : OpenClaim := { program := "ytgmbefkbonaodaa", sum := "83f134ef3c95564bafe2e80e2f7fa0a21dc34826f5f75d07d51f4ab2ae28b255", func := "catchword/catchwordlaw01.VintSums", spec := "vintSums", apart := false, narrowed := true }
def VintSumsUptoSaid : Prop := vintSumsUptoRow.holds Try.pinned (OpenSpec.upto vintSumsSpec)

/-- 'catchwordlaw01.VintAdds', WHERE WHAT IT READS IS OF BULK AT MOST 1048576: true; the input reads as it did. -/
def vintAddsUptoRow : OpenClaim := { program := "ytgmbefkbonaodaa", sum := "83f134ef3c95564bafe2e80e2f7fa0a21dc34826f5f75d07d51f4ab2ae28b255", func := "catchword/catchwordlaw01.VintAdds", spec := "vintAdds", apart := false, narrowed := true }
def VintAddsUptoSaid : Prop := vintAddsUptoRow.holds Try.pinned (OpenSpec.upto vintAddsSpec)

/-- 'catchwordlaw01.VintPuts', WHERE WHAT IT READS IS OF BULK AT MOST 1048576: true; the input reads as it did. -/
def vintPutsUptoRow : OpenClaim := { program := "ytgmbefkbonaodaa", sum := "83f134ef3c95564bafe2e80e2f7fa0a21dc34826f5f75d07d51f4ab2ae28b255", func := "catchword/catchwordlaw01.VintPuts", spec := "vintPuts", apart := false, narrowed := true }
def VintPutsUptoSaid : Prop := vintPutsUptoRow.holds Try.pinned (OpenSpec.upto vintPutsSpec)

/-- 'catchwordlaw01.VintGets', WHERE WHAT IT READS IS OF BULK AT MOST 1048576: true; the input reads as it did. -/
def vintGetsUptoRow : OpenClaim := { program := "ytgmbefkbonaodaa", sum := "83f134ef3c95564bafe2e80e2f7fa0a21dc34826f5f75d07d51f4ab2ae28b255", func := "catchword/catchwordlaw01.VintGets", spec := "vintGets", apart := false, narrowed := true }
def VintGetsUptoSaid : Prop := vintGetsUptoRow.holds Try.pinned (OpenSpec.upto vintGetsSpec)

/-- 'catchwordlaw01.VintReads', WHERE WHAT IT READS IS OF BULK AT MOST 1048576: true; the input reads as it did. -/
def vintReadsUptoRow : OpenClaim := { program := "ytgmbefkbonaodaa", sum := "83f134ef3c95564bafe2e80e2f7fa0a21dc34826f5f75d07d51f4ab2ae28b255", func := "catchword/catchwordlaw01.VintReads", spec := "vintReads", apart := false, narrowed := true }
def VintReadsUptoSaid : Prop := vintReadsUptoRow.holds Try.pinned (OpenSpec.upto vintReadsSpec)

/-- 'catchwordlaw01.VintSizes', WHERE WHAT IT READS IS OF BULK AT MOST 1048576: true; the input reads as it did. -/
def vintSizesUptoRow : OpenClaim := { program := "ytgmbefkbonaodaa", sum := "83f134ef3c95564bafe2e80e2f7fa0a21dc34826f5f75d07d51f4ab2ae28b255", func := "catchword/catchwordlaw01.VintSizes", spec := "vintSizes", apart := false, narrowed := true }
def VintSizesUptoSaid : Prop := vintSizesUptoRow.holds Try.pinned (OpenSpec.upto vintSizesSpec)

end Rows
end Go.Proofs.Ytgmbefkbonaodaa
