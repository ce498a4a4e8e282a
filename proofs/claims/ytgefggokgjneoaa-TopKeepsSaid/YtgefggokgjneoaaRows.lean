/-
  No cell of these rows narrows 'for every input' (looked for: loops, veiled, ifaces, maps, wideKeys, modest, calm, conditions, laid).
  DERIVED. THE GIVEN ROWS OF THIS SEAT. 5 by the template 'for every input the law returns true; each argument reads behind the call as it read before'; 0 by the template 'total and deterministic' (their statements: YtgefggokgjneoaaTotals.lean).
  GIVEN WITH THE SEED: the statements are not yours to turn. If you find one false, say at which input.
  Laid BY PROGRAM, IN A SANDBOX (cutbox-rows.mjs): the forced cells as the released guide's own fill.sh prints them over the translation 52738499b4f96f09… (all of the seat's roots in one cut). By AI agents, Wed Nov 11 2026. No macro, syntax, notation, axiom, sorry.
-/
import Derived.Test.YtgefggokgjneoaaChecked
import GoSem.Claim
import GoSem.ClaimJoined
import GoSem.ClaimMapViews
import Derived.JoinedTies
import Derived.KernelRfl
namespace Go.Proofs.Ytgefggokgjneoaa
/- THE CELL 'sum', in the pinned program and in every row, IS THE sha256 OF THE DUMP (.gsa) THAT YtgefggokgjneoaaProg.lean LOADS. Nothing in Lean hashes anything: it is a label: what it is worth is what the hold of that sum in a sandbox is worth. -/
noncomputable def Try.pinned : Pinned := { name := "ytgefggokgjneoaa", sum := "52738499b4f96f09b356ef57f9ae39ff346d970a5e25a28ac696c9262f7075ab", checked := Try.checked }
namespace Rows
def none {H : Type} : Left H := { results := [], args := [] }

/-- 'catchwordlaw18.TopKeeps': WHATEVER THE INPUT: true; the input reads as it did. -/
def topKeepsSpec : ChangeSpec := { name := "topKeeps", fn := fun _ => fun
  | [d1, d2] => { results := [.lit (.bool true)], args := [d1, d2] }
  | _ => none }
def topKeepsRow : OpenClaim := { program := "ytgefggokgjneoaa", sum := "52738499b4f96f09b356ef57f9ae39ff346d970a5e25a28ac696c9262f7075ab", func := "catchword/catchwordlaw18.TopKeeps", spec := "topKeeps", unfollowed := true, recurses := true, apart := false }
def TopKeepsSaid : Prop := topKeepsRow.holds Try.pinned (OpenSpec.ofChange topKeepsSpec)

/-- ITS FALSE NEIGHBOUR: 'it returns false'. Refute it at one input. -/
def topKeepsWrong : ChangeSpec := { name := "topKeeps", fn := fun _ => fun
  | [d1, d2] => { results := [.lit (.bool false)], args := [d1, d2] }
  | _ => none }
def TopKeepsWrongFalsely : Prop := topKeepsRow.holds Try.pinned (OpenSpec.ofChange topKeepsWrong)

/-- 'catchwordlaw18.TopAhead': WHATEVER THE INPUT: true; the input reads as it did. -/
def topAheadSpec : ChangeSpec := { name := "topAhead", fn := fun _ => fun
  | [d1, d2, d3] => { results := [.lit (.bool true)], args := [d1, d2, d3] }
  | _ => none }
def topAheadRow : OpenClaim := { program := "ytgefggokgjneoaa", sum := "52738499b4f96f09b356ef57f9ae39ff346d970a5e25a28ac696c9262f7075ab", func := "catchword/catchwordlaw18.TopAhead", spec := "topAhead", unfollowed := true, recurses := true, apart := false }
def TopAheadSaid : Prop := topAheadRow.holds Try.pinned (OpenSpec.ofChange topAheadSpec)

/-- ITS FALSE NEIGHBOUR: 'it returns false'. Refute it at one input. -/
def topAheadWrong : ChangeSpec := { name := "topAhead", fn := fun _ => fun
  | [d1, d2, d3] => { results := [.lit (.bool false)], args := [d1, d2, d3] }
  | _ => none }
def TopAheadWrongFalsely : Prop := topAheadRow.holds Try.pinned (OpenSpec.ofChange topAheadWrong)

/-- 'catchwordlaw18.TopOrders': WHATEVER THE INPUT: true; the input reads as it did. -/
def topOrdersSpec : ChangeSpec := { name := "topOrders", fn := fun _ => fun
  | [d1, d2, d3] => { results := [.lit (.bool true)], args := [d1, d2, d3] }
  | _ => none }
def topOrdersRow : OpenClaim := { program := "ytgefggokgjneoaa", sum := "52738499b4f96f09b356ef57f9ae39ff346d970a5e25a28ac696c9262f7075ab", func := "catchword/catchwordlaw18.TopOrders", spec := "topOrders", unfollowed := true, recurses := true, apart := false }
def TopOrdersSaid : Prop := topOrdersRow.holds Try.pinned (OpenSpec.ofChange topOrdersSpec)

/-- ITS FALSE NEIGHBOUR: 'it returns false'. Refute it at one input. -/
def topOrdersWrong : ChangeSpec := { name := "topOrders", fn := fun _ => fun
  | [d1, d2, d3] => { results := [.lit (.bool false)], args := [d1, d2, d3] }
  | _ => none }
def TopOrdersWrongFalsely : Prop := topOrdersRow.holds Try.pinned (OpenSpec.ofChange topOrdersWrong)

/-- 'catchwordlaw18.TopParts': WHATEVER THE INPUT: true; the input reads as it did. -/
def topPartsSpec : ChangeSpec := { name := "topParts", fn := fun _ => fun
  | [d1, d2, d3] => { results := [.lit (.bool true)], args := [d1, d2, d3] }
  | _ => none }
def topPartsRow : OpenClaim := { program := "ytgefggokgjneoaa", sum := "52738499b4f96f09b356ef57f9ae39ff346d970a5e25a28ac696c9262f7075ab", func := "catchword/catchwordlaw18.TopParts", spec := "topParts", unfollowed := true, recurses := true, apart := false }
def TopPartsSaid : Prop := topPartsRow.holds Try.pinned (OpenSpec.ofChange topPartsSpec)

/-- ITS FALSE NEIGHBOUR: 'it returns false'. Refute it at one input. -/
def topPartsWrong : ChangeSpec := { name := "topParts", fn := fun _ => fun
  | [d1, d2, d3] => { results := [.lit (.bool false)], args := [d1, d2, d3] }
  | _ => none }
def TopPartsWrongFalsely : Prop := topPartsRow.holds Try.pinned (OpenSpec.ofChange topPartsWrong)

/-- 'catchwordlaw18.TopGreat': WHATEVER THE INPUT: true; the input reads as it did. -/
def topGreatSpec : ChangeSpec := { name := "topGreat", fn := fun _ => fun
  | [d1, d2, d3] => { results := [.lit (.bool true)], args := [d1, d2, d3] }
  | _ => none }
def topGreatRow : OpenClaim := { program := "ytgefggokgjneoaa", sum := "52738499b4f96f09b356ef57f9ae39ff346d970a5e25a28ac696c9262f7075ab", func := "catchword/catchwordlaw18.TopGreat", spec := "topGreat", unfollowed := true, recurses := true, apart := false }
def TopGreatSaid : Prop := topGreatRow.holds Try.pinned (OpenSpec.ofChange topGreatSpec)

/-- ITS FALSE NEIGHBOUR: 'it returns false'. Refute it at one input. -/
def topGreatWrong : ChangeSpec := { name := "topGreat", fn := fun _ => fun
  | [d1, d2, d3] => { results := [.lit (.bool false)], args := [d1, d2, d3] }
  | _ => none }
def TopGreatWrongFalsely : Prop := topGreatRow.holds Try.pinned (OpenSpec.ofChange topGreatWrong)

/- THE SECOND FORM. 'bulk': how many values and letters a reading holds, each counted each time it is reached (what is shared counts as often as it is met; a slice's spare places count too). A statement '..UptoSaid' is the law's where the arguments, and the package variables that the reading takes, are together of bulk at most 1048576: NARROWER than '..Said'. Prove '..Said' where nothing that the law and all that it calls make is longer than what came in: it says more and counts as full. Else prove '..UptoSaid'. A law counts once. -/
mutual
def uptoBulk {H : Type} : DataW H → Nat
  | .lit (.string bytes) => bytes.length + 1
  | .lit _ => 1
  | .nil => 1
  | .ptr d => uptoBulk d + 1
  | .slice elems spare => uptoBulkAll elems + uptoBulkAll spare + 1
  | .agg parts => uptoBulkAll parts + 1
  | .iface _ d => uptoBulk d + 1
  | .map entries => uptoBulkEntries entries + 1
  | .held _ => 1
def uptoBulkAll {H : Type} : List (DataW H) → Nat
  | [] => 0
  | d :: r => uptoBulk d + uptoBulkAll r
def uptoBulkEntries {H : Type} : List (Lit × DataW H) → Nat
  | [] => 0
  | x :: r => uptoBulkEntry x + uptoBulkEntries r
def uptoBulkEntry {H : Type} : Lit × DataW H → Nat
  | (.string bytes, d) => bytes.length + uptoBulk d + 1
  | (_, d) => uptoBulk d + 1
 end
def uptoSmall : (H : Type) → List (DataW H) → Bool := fun _ ds => decide (uptoBulkAll ds ≤ 1048576)
def OpenSpec.upto (s : _root_.Go.ChangeSpec) : _root_.Go.OpenSpec := { _root_.Go.OpenSpec.ofChange s with cond := some uptoSmall }

/-- 'catchwordlaw18.TopKeeps', WHERE WHAT IT READS IS OF BULK AT MOST 1048576: true; the input reads as it did. -/
def topKeepsUptoRow : OpenClaim := { program := "ytgefggokgjneoaa", sum := "52738499b4f96f09b356ef57f9ae39ff346d970a5e25a28ac696c9262f7075ab", func := "catchword/catchwordlaw18.TopKeeps", spec := "topKeeps", unfollowed := true, recurses := true, apart := false, narrowed := true }
def TopKeepsUptoSaid : Prop := topKeepsUptoRow.holds Try.pinned (OpenSpec.upto topKeepsSpec)

/-- 'catchwordlaw18.TopAhead', WHERE WHAT IT READS IS OF BULK AT MOST 1048576: true; the input reads as it did. -/
def topAheadUptoRow : OpenClaim := { program := "ytgefggokgjneoaa", sum := "52738499b4f96f09b356ef57f9ae39ff346d970a5e25a28ac696c9262f7075ab", func := "catchword/catchwordlaw18.TopAhead", spec := "topAhead", unfollowed := true, recurses := true, apart := false, narrowed := true }
def TopAheadUptoSaid : Prop := topAheadUptoRow.holds Try.pinned (OpenSpec.upto topAheadSpec)

/-- 'catchwordlaw18.TopOrders', WHERE WHAT IT READS IS OF BULK AT MOST 1048576: true; the input reads as it did. -/
def topOrdersUptoRow : OpenClaim := { program := "ytgefggokgjneoaa", sum := "52738499b4f96f09b356ef57f9ae39ff346d970a5e25a28ac696c9262f7075ab", func := "catchword/catchwordlaw18.TopOrders", spec := "topOrders", unfollowed := true, recurses := true, apart := false, narrowed := true }
def TopOrdersUptoSaid : Prop := topOrdersUptoRow.holds Try.pinned (OpenSpec.upto topOrdersSpec)

/-- 'catchwordlaw18.TopParts', WHERE WHAT IT READS IS OF BULK AT MOST 1048576: true; the input reads as it did. -/
def topPartsUptoRow : OpenClaim := { program := "ytgefggokgjneoaa", sum := "52738499b4f96f09b356ef57f9ae39ff346d970a5e25a28ac696c9262f7075ab", func := "catchword/catchwordlaw18.TopParts", spec := "topParts", unfollowed := true, recurses := true, apart := false, narrowed := true }
def TopPartsUptoSaid : Prop := topPartsUptoRow.holds Try.pinned (OpenSpec.upto topPartsSpec)

/-- 'catchwordlaw18.TopGreat', WHERE WHAT IT READS IS OF BULK AT MOST 1048576: true; the input reads as it did. -/
def topGreatUptoRow : OpenClaim := { program := "ytgefggokgjneoaa", sum := "52738499b4f96f09b356ef57f9ae39ff346d970a5e25a28ac696c9262f7075ab", func := "catchword/catchwordlaw18.TopGreat", spec := "topGreat", unfollowed := true, recurses := true, apart := false, narrowed := true }
def TopGreatUptoSaid : Prop := topGreatUptoRow.holds Try.pinned (OpenSpec.upto topGreatSpec)

end Rows
end Go.Proofs.Ytgefggokgjneoaa
