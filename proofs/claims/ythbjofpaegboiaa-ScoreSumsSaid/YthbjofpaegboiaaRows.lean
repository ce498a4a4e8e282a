/-
  No cell of these rows narrows 'for every input' (looked for: loops, veiled, ifaces, maps, wideKeys, modest, calm, conditions, laid).
  DERIVED. THE GIVEN ROWS OF THIS SEAT. 4 by the template 'for every input the law returns true; each argument reads behind the call as it read before'; 0 by the template 'total and deterministic' (their statements: YthbjofpaegboiaaTotals.lean).
  GIVEN WITH THE SEED: the statements are not yours to turn. If you find one false, say at which input.
  Laid BY PROGRAM, IN A SANDBOX (cutbox-rows.mjs): the forced cells as the released guide's own fill.sh prints them over the translation 511fcf5e2033a5ef… (all of the seat's roots in one cut). By AI agents, Wed Nov 11 2026. No macro, syntax, notation, axiom, sorry.
-/
import Derived.Test.YthbjofpaegboiaaChecked
import GoSem.Claim
import GoSem.ClaimJoined
import GoSem.ClaimMapViews
import Derived.JoinedTies
import Derived.KernelRfl
namespace Go.Proofs.Ythbjofpaegboiaa
/- THE CELL 'sum', in the pinned program and in every row, IS THE sha256 OF THE DUMP (.gsa) THAT YthbjofpaegboiaaProg.lean LOADS. Nothing in Lean hashes anything: it is a label: what it is worth is what the hold of that sum in a sandbox is worth. -/
noncomputable def Try.pinned : Pinned := { name := "ythbjofpaegboiaa", sum := "511fcf5e2033a5efe20ab9d02715cc189ac7480342c374d188d8e93e44023a65", checked := Try.checked }
namespace Rows
def none {H : Type} : Left H := { results := [], args := [] }

/-- 'catchwordlaw17.ScoreMore': WHATEVER THE INPUT: true; the input reads as it did. -/
def scoreMoreSpec : ChangeSpec := { name := "scoreMore", fn := fun _ => fun
  | [d1, d2] => { results := [.lit (.bool true)], args := [d1, d2] }
  | _ => none }
def scoreMoreRow : OpenClaim := { program := "ythbjofpaegboiaa", sum := "511fcf5e2033a5efe20ab9d02715cc189ac7480342c374d188d8e93e44023a65", func := "catchword/catchwordlaw17.ScoreMore", spec := "scoreMore", apart := false }
def ScoreMoreSaid : Prop := scoreMoreRow.holds Try.pinned (OpenSpec.ofChange scoreMoreSpec)

/-- ITS FALSE NEIGHBOUR: 'it returns false'. Refute it at one input. -/
def scoreMoreWrong : ChangeSpec := { name := "scoreMore", fn := fun _ => fun
  | [d1, d2] => { results := [.lit (.bool false)], args := [d1, d2] }
  | _ => none }
def ScoreMoreWrongFalsely : Prop := scoreMoreRow.holds Try.pinned (OpenSpec.ofChange scoreMoreWrong)

/-- 'catchwordlaw17.ScoreGreat': WHATEVER THE INPUT: true; the input reads as it did. -/
def scoreGreatSpec : ChangeSpec := { name := "scoreGreat", fn := fun _ => fun
  | [d1, d2] => { results := [.lit (.bool true)], args := [d1, d2] }
  | _ => none }
def scoreGreatRow : OpenClaim := { program := "ythbjofpaegboiaa", sum := "511fcf5e2033a5efe20ab9d02715cc189ac7480342c374d188d8e93e44023a65", func := "catchword/catchwordlaw17.ScoreGreat", spec := "scoreGreat", apart := false }
def ScoreGreatSaid : Prop := scoreGreatRow.holds Try.pinned (OpenSpec.ofChange scoreGreatSpec)

/-- ITS FALSE NEIGHBOUR: 'it returns false'. Refute it at one input. -/
def scoreGreatWrong : ChangeSpec := { name := "scoreGreat", fn := fun _ => fun
  | [d1, d2] => { results := [.lit (.bool false)], args := [d1, d2] }
  | _ => none }
def ScoreGreatWrongFalsely : Prop := scoreGreatRow.holds Try.pinned (OpenSpec.ofChange scoreGreatWrong)

/-- 'catchwordlaw17.ScoreParts': WHATEVER THE INPUT: true; the input reads as it did. -/
def scorePartsSpec : ChangeSpec := { name := "scoreParts", fn := fun _ => fun
  | [d1, d2] => { results := [.lit (.bool true)], args := [d1, d2] }
  | _ => none }
def scorePartsRow : OpenClaim := { program := "ythbjofpaegboiaa", sum := "511fcf5e2033a5efe20ab9d02715cc189ac7480342c374d188d8e93e44023a65", func := "catchword/catchwordlaw17.ScoreParts", spec := "scoreParts", apart := false }
def ScorePartsSaid : Prop := scorePartsRow.holds Try.pinned (OpenSpec.ofChange scorePartsSpec)

/-- ITS FALSE NEIGHBOUR: 'it returns false'. Refute it at one input. -/
def scorePartsWrong : ChangeSpec := { name := "scoreParts", fn := fun _ => fun
  | [d1, d2] => { results := [.lit (.bool false)], args := [d1, d2] }
  | _ => none }
def ScorePartsWrongFalsely : Prop := scorePartsRow.holds Try.pinned (OpenSpec.ofChange scorePartsWrong)

/-- 'catchwordlaw17.ScoreSums': WHATEVER THE INPUT: true; the input reads as it did. -/
def scoreSumsSpec : ChangeSpec := { name := "scoreSums", fn := fun _ => fun
  | [d] => { results := [.lit (.bool true)], args := [d] }
  | _ => none }
def scoreSumsRow : OpenClaim := { program := "ythbjofpaegboiaa", sum := "511fcf5e2033a5efe20ab9d02715cc189ac7480342c374d188d8e93e44023a65", func := "catchword/catchwordlaw17.ScoreSums", spec := "scoreSums", unfollowed := true, recurses := true, apart := false }
def ScoreSumsSaid : Prop := scoreSumsRow.holds Try.pinned (OpenSpec.ofChange scoreSumsSpec)

/-- ITS FALSE NEIGHBOUR: 'it returns false'. Refute it at one input. -/
def scoreSumsWrong : ChangeSpec := { name := "scoreSums", fn := fun _ => fun
  | [d] => { results := [.lit (.bool false)], args := [d] }
  | _ => none }
def ScoreSumsWrongFalsely : Prop := scoreSumsRow.holds Try.pinned (OpenSpec.ofChange scoreSumsWrong)

/- THE SECOND FORM. 'bulk': how many values and letters a reading holds, each counted each time it is reached (what is shared counts as often as it is met; a slice's spare places count too). A statement '..UptoSaid' is the law's where the arguments, and the package variables that the reading takes, are together of bulk at most 1048576: NARROWER than '..Said'. Prove '..Said' where nothing that the law and all that it calls make is longer than what came in: it says more and counts as full. Else prove '..UptoSaid'. A law counts once. -/
mutual
def uptoBulk {H : Type} : DataW H → Nat
  | .lit (.string bytes) => bytes.length + 1
  | .lit _ => 1
  | .nil => 1
  | .ptr d => uptoBulk d + 1
  | .slice elems spare => uptoBulkAll elems + uptoBulkAll spare + 1
  | .agg parts => uptoBulkAll parts + 1
  | .iface _ d => uptoBulk d + 1
  | .map entries => uptoBulkEntries entries + 1
  | .held _ => 1
def uptoBulkAll {H : Type} : List (DataW H) → Nat
  | [] => 0
  | d :: r => uptoBulk d + uptoBulkAll r
def uptoBulkEntries {H : Type} : List (Lit × DataW H) → Nat
  | [] => 0
  | x :: r => uptoBulkEntry x + uptoBulkEntries r
def uptoBulkEntry {H : Type} : Lit × DataW H → Nat
  | (.string bytes, d) => bytes.length + uptoBulk d + 1
  | (_, d) => uptoBulk d + 1
 end
def uptoSmall : (H : Type) → List (DataW H) → Bool := fun _ ds => decide (uptoBulkAll ds ≤ 1048576)
def OpenSpec.upto (s : _root_.Go.ChangeSpec) : _root_.Go.OpenSpec := { _root_.Go.OpenSpec.ofChange s with cond := some uptoSmall }

/-- 'catchwordlaw17.ScoreMore', WHERE WHAT IT READS IS OF BULK AT MOST 1048576: true; the input reads as it did. -/
def scoreMoreUptoRow : OpenClaim := { program := "ythbjofpaegboiaa", sum := "511fcf5e2033a5efe20ab9d02715cc189ac7480342c374d188d8e93e44023a65", func := "catchword/catchwordlaw17.ScoreMore", spec := "scoreMore", apart := false, narrowed := true }
def ScoreMoreUptoSaid : Prop := scoreMoreUptoRow.holds Try.pinned (OpenSpec.upto scoreMoreSpec)

/-- 'catchwordlaw17.ScoreGreat', WHERE WHAT IT READS IS OF BULK AT MOST 1048576: true; the input reads as it did. -/
def scoreGreatUptoRow : OpenClaim := { program := "ythbjofpaegboiaa", sum := "511fcf5e2033a5efe20ab9d02715cc189ac7480342c374d188d8e93e44023a65", func := "catchword/catchwordlaw17.ScoreGreat", spec := "scoreGreat", apart := false, narrowed := true }
def ScoreGreatUptoSaid : Prop := scoreGreatUptoRow.holds Try.pinned (OpenSpec.upto scoreGreatSpec)

/-- 'catchwordlaw17.ScoreParts', WHERE WHAT IT READS IS OF BULK AT MOST 1048576: true; the input reads as it did. -/
def scorePartsUptoRow : OpenClaim := { program := "ythbjofpaegboiaa", sum := "511fcf5e2033a5efe20ab9d02715cc189ac7480342c374d188d8e93e44023a65", func := "catchword/catchwordlaw17.ScoreParts", spec := "scoreParts", apart := false, narrowed := true }
def ScorePartsUptoSaid : Prop := scorePartsUptoRow.holds Try.pinned (OpenSpec.upto scorePartsSpec)

/-- 'catchwordlaw17.ScoreSums', WHERE WHAT IT READS IS OF BULK AT MOST 1048576: true; the input reads as it did. -/
def scoreSumsUptoRow : OpenClaim := { program := "ythbjofpaegboiaa", sum := "511fcf5e2033a5efe20ab9d02715cc189ac7480342c374d188d8e93e44023a65", func := "catchword/catchwordlaw17.ScoreSums", spec := "scoreSums", unfollowed := true, recurses := true, apart := false, narrowed := true }
def ScoreSumsUptoSaid : Prop := scoreSumsUptoRow.holds Try.pinned (OpenSpec.upto scoreSumsSpec)

end Rows
end Go.Proofs.Ythbjofpaegboiaa
