/-
  No cell of these rows narrows 'for every input' (looked for: loops, veiled, ifaces, maps, wideKeys, modest, calm, conditions, laid).
  DERIVED. THE GIVEN ROWS OF THIS SEAT. 5 by the template 'for every input the law returns true; each argument reads behind the call as it read before'; 0 by the template 'total and deterministic' (their statements: YtajdhlcnfmlkiaaTotals.lean).
  GIVEN WITH THE SEED: the statements are not yours to turn. If you find one false, say at which input.
  Laid BY PROGRAM, IN A SANDBOX (cutbox-rows.mjs): the forced cells as the released guide's own fill.sh prints them over the translation 9bd0c3929557734a… (all of the seat's roots in one cut). By AI agents, Wed Nov 11 2026. No macro, syntax, notation, axiom, sorry.
-/
import Derived.Test.YtajdhlcnfmlkiaaChecked
import GoSem.Claim
import GoSem.ClaimJoined
import GoSem.ClaimMapViews
import Derived.JoinedTies
import Derived.KernelRfl
namespace Go.Proofs.Ytajdhlcnfmlkiaa
/- THE CELL 'sum', in the pinned program and in every row, IS THE sha256 OF THE DUMP (.gsa) THAT YtajdhlcnfmlkiaaProg.lean LOADS. Nothing in Lean hashes anything: it is a label: what it is worth is what the hold of that sum in a sandbox is worth. -/
noncomputable def Try.pinned : Pinned := { name := "ytajdhlcnfmlkiaa", sum := "9bd0c3929557734ad3a15901a1aed7827186d4ca1669f3805d9602119364d076", checked := Try.checked }
namespace Rows
def none {H : Type} : Left H := { results := [], args := [] }

/-- 'tidewaterlaw11.PactBoth': WHATEVER THE INPUT: true; the input reads as it did. -/
def pactBothSpec : ChangeSpec := { name := "pactBoth", fn := fun _ => fun
  | [d1, d2, d3] => { results := [.lit (.bool true)], args := [d1, d2, d3] }
  | _ => none }
def pactBothRow : OpenClaim := { program := "ytajdhlcnfmlkiaa", sum := "9bd0c3929557734ad3a15901a1aed7827186d4ca1669f3805d9602119364d076", func := "tidewater/tidewaterlaw11.PactBoth", spec := "pactBoth", apart := false }
def PactBothSaid : Prop := pactBothRow.holds Try.pinned (OpenSpec.ofChange pactBothSpec)

/-- ITS FALSE NEIGHBOUR: 'it returns false'. Refute it at one input. -/
def pactBothWrong : ChangeSpec := { name := "pactBoth", fn := fun _ => fun
  | [d1, d2, d3] => { results := [.lit (.bool false)], args := [d1, d2, d3] }
  | _ => none }
def PactBothWrongFalsely : Prop := pactBothRow.holds Try.pinned (OpenSpec.ofChange pactBothWrong)

/-- 'tidewaterlaw11.PactFits': WHATEVER THE INPUT: true; the input reads as it did. -/
def pactFitsSpec : ChangeSpec := { name := "pactFits", fn := fun _ => fun
  | [d1, d2] => { results := [.lit (.bool true)], args := [d1, d2] }
  | _ => none }
def pactFitsRow : OpenClaim := { program := "ytajdhlcnfmlkiaa", sum := "9bd0c3929557734ad3a15901a1aed7827186d4ca1669f3805d9602119364d076", func := "tidewater/tidewaterlaw11.PactFits", spec := "pactFits", apart := false }
def PactFitsSaid : Prop := pactFitsRow.holds Try.pinned (OpenSpec.ofChange pactFitsSpec)

/-- ITS FALSE NEIGHBOUR: 'it returns false'. Refute it at one input. -/
def pactFitsWrong : ChangeSpec := { name := "pactFits", fn := fun _ => fun
  | [d1, d2] => { results := [.lit (.bool false)], args := [d1, d2] }
  | _ => none }
def PactFitsWrongFalsely : Prop := pactFitsRow.holds Try.pinned (OpenSpec.ofChange pactFitsWrong)

/-- 'tidewaterlaw11.PactUndo': WHATEVER THE INPUT: true; the input reads as it did. -/
def pactUndoSpec : ChangeSpec := { name := "pactUndo", fn := fun _ => fun
  | [d1, d2] => { results := [.lit (.bool true)], args := [d1, d2] }
  | _ => none }
def pactUndoRow : OpenClaim := { program := "ytajdhlcnfmlkiaa", sum := "9bd0c3929557734ad3a15901a1aed7827186d4ca1669f3805d9602119364d076", func := "tidewater/tidewaterlaw11.PactUndo", spec := "pactUndo", apart := false }
def PactUndoSaid : Prop := pactUndoRow.holds Try.pinned (OpenSpec.ofChange pactUndoSpec)

/-- ITS FALSE NEIGHBOUR: 'it returns false'. Refute it at one input. -/
def pactUndoWrong : ChangeSpec := { name := "pactUndo", fn := fun _ => fun
  | [d1, d2] => { results := [.lit (.bool false)], args := [d1, d2] }
  | _ => none }
def PactUndoWrongFalsely : Prop := pactUndoRow.holds Try.pinned (OpenSpec.ofChange pactUndoWrong)

/-- 'tidewaterlaw11.PactNames': WHATEVER THE INPUT: true; the input reads as it did. -/
def pactNamesSpec : ChangeSpec := { name := "pactNames", fn := fun _ => fun
  | [d1, d2] => { results := [.lit (.bool true)], args := [d1, d2] }
  | _ => none }
def pactNamesRow : OpenClaim := { program := "ytajdhlcnfmlkiaa", sum := "9bd0c3929557734ad3a15901a1aed7827186d4ca1669f3805d9602119364d076", func := "tidewater/tidewaterlaw11.PactNames", spec := "pactNames", apart := false }
def PactNamesSaid : Prop := pactNamesRow.holds Try.pinned (OpenSpec.ofChange pactNamesSpec)

/-- ITS FALSE NEIGHBOUR: 'it returns false'. Refute it at one input. -/
def pactNamesWrong : ChangeSpec := { name := "pactNames", fn := fun _ => fun
  | [d1, d2] => { results := [.lit (.bool false)], args := [d1, d2] }
  | _ => none }
def PactNamesWrongFalsely : Prop := pactNamesRow.holds Try.pinned (OpenSpec.ofChange pactNamesWrong)

/-- 'tidewaterlaw11.PactStill': WHATEVER THE INPUT: true; the input reads as it did. -/
def pactStillSpec : ChangeSpec := { name := "pactStill", fn := fun _ => fun
  | [d1, d2] => { results := [.lit (.bool true)], args := [d1, d2] }
  | _ => none }
def pactStillRow : OpenClaim := { program := "ytajdhlcnfmlkiaa", sum := "9bd0c3929557734ad3a15901a1aed7827186d4ca1669f3805d9602119364d076", func := "tidewater/tidewaterlaw11.PactStill", spec := "pactStill", apart := false }
def PactStillSaid : Prop := pactStillRow.holds Try.pinned (OpenSpec.ofChange pactStillSpec)

/-- ITS FALSE NEIGHBOUR: 'it returns false'. Refute it at one input. -/
def pactStillWrong : ChangeSpec := { name := "pactStill", fn := fun _ => fun
  | [d1, d2] => { results := [.lit (.bool false)], args := [d1, d2] }
  | _ => none }
def PactStillWrongFalsely : Prop := pactStillRow.holds Try.pinned (OpenSpec.ofChange pactStillWrong)

/- THE SECOND FORM. 'bulk': how many values and letters a reading holds, each counted each time it is reached (what is shared counts as often as it is met; a slice's spare places count too). A statement '..UptoSaid' is the law's where the arguments, and the package variables that the reading takes, are together of bulk at most 1048576: NARROWER than '..Said'. Prove '..Said' where nothing that the law and all that it calls make is longer than what came in: it says more and counts as full. Else prove '..UptoSaid'. A law counts once. -/
mutual
def uptoBulk {H : Type} : DataW H → Nat
  | .lit (.string bytes) => bytes.length + 1
  | .lit _ => 1
  | .nil => 1
  | .ptr d => uptoBulk d + 1
  | .slice elems spare => uptoBulkAll elems + uptoBulkAll spare + 1
  | .agg parts => uptoBulkAll parts + 1
  | .iface _ d => uptoBulk d + 1
  | .map entries => uptoBulkEntries entries + 1
  | .held _ => 1
def uptoBulkAll {H : Type} : List (DataW H) → Nat
  | [] => 0
  | d :: r => uptoBulk d + uptoBulkAll r
def uptoBulkEntries {H : Type} : List (Lit × DataW H) → Nat
  | [] => 0
  | x :: r => uptoBulkEntry x + uptoBulkEntries r
def uptoBulkEntry {H : Type} : Lit × DataW H → Nat
  | (.string bytes, d) => bytes.length + uptoBulk d + 1
  | (_, d) => uptoBulk d + 1
 end
def uptoSmall : (H : Type) → List (DataW H) → Bool := fun _ ds => decide (uptoBulkAll ds ≤ 1048576)
def OpenSpec.upto (s : _root_.Go.ChangeSpec) : _root_.Go.OpenSpec := { _root_.Go.OpenSpec.ofChange s with cond := some uptoSmall }

/-- 'tidewaterlaw11.PactBoth', WHERE WHAT IT READS IS OF BULK AT MOST 1048576: true; the input reads as it did. -/
def pactBothUptoRow : OpenClaim := { program := "ytajdhlcnfmlkiaa", sum := "9bd0c3929557734ad3a15901a1aed7827186d4ca1669f3805d9602119364d076", func := "tidewater/tidewaterlaw11.PactBoth", spec := "pactBoth", apart := false, narrowed := true }
def PactBothUptoSaid : Prop := pactBothUptoRow.holds Try.pinned (OpenSpec.upto pactBothSpec)

/-- 'tidewaterlaw11.PactFits', WHERE WHAT IT READS IS OF BULK AT MOST 1048576: true; the input reads as it did. -/
def pactFitsUptoRow : OpenClaim := { program := "ytajdhlcnfmlkiaa", sum := "9bd0c3929557734ad3a15901a1aed7827186d4ca1669f3805d9602119364d076", func := "tidewater/tidewaterlaw11.PactFits", spec := "pactFits", apart := false, narrowed := true }
def PactFitsUptoSaid : Prop := pactFitsUptoRow.holds Try.pinned (OpenSpec.upto pactFitsSpec)

/-- 'tidewaterlaw11.PactUndo', WHERE WHAT IT READS IS OF BULK AT MOST 1048576: true; the input reads as it did. -/
def pactUndoUptoRow : OpenClaim := { program := "ytajdhlcnfmlkiaa", sum := "9bd0c3929557734ad3a15901a1aed7827186d4ca1669f3805d9602119364d076", func := "tidewater/tidewaterlaw11.PactUndo", spec := "pactUndo", apart := false, narrowed := true }
def PactUndoUptoSaid : Prop := pactUndoUptoRow.holds Try.pinned (OpenSpec.upto pactUndoSpec)

/-- 'tidewaterlaw11.PactNames', WHERE WHAT IT READS IS OF BULK AT MOST 1048576: true; the input reads as it did. -/
def pactNamesUptoRow : OpenClaim := { program := "ytajdhlcnfmlkiaa", sum := "9bd0c3929557734ad3a15901a1aed7827186d4ca1669f3805d9602119364d076", func := "tidewater/tidewaterlaw11.PactNames", spec := "pactNames", apart := false, narrowed := true }
def PactNamesUptoSaid : Prop := pactNamesUptoRow.holds Try.pinned (OpenSpec.upto pactNamesSpec)

/-- 'tidewaterlaw11.PactStill', WHERE WHAT IT READS IS OF BULK AT MOST 1048576: true; the input reads as it did. -/
def pactStillUptoRow : OpenClaim := { program := "ytajdhlcnfmlkiaa", sum := "9bd0c3929557734ad3a15901a1aed7827186d4ca1669f3805d9602119364d076", func := "tidewater/tidewaterlaw11.PactStill", spec := "pactStill", apart := false, narrowed := true }
def PactStillUptoSaid : Prop := pactStillUptoRow.holds Try.pinned (OpenSpec.upto pactStillSpec)

end Rows
end Go.Proofs.Ytajdhlcnfmlkiaa
