/-
  No cell of these rows narrows 'for every input' (looked for: loops, veiled, ifaces, maps, wideKeys, modest, calm, conditions, laid).
  DERIVED. THE GIVEN ROWS OF THIS SEAT. 5 by the template 'for every input the law returns true; each argument reads behind the call as it read before'; 0 by the template 'total and deterministic' (their statements: YtdpjbkodenhelaaTotals.lean).
  GIVEN WITH THE SEED: the statements are not yours to turn. If you find one false, say at which input.
  Laid BY PROGRAM, IN A SANDBOX (cutbox-rows.mjs): the forced cells as the released guide's own fill.sh prints them over the translation 0a4c4aeef0b06fd4… (all of the seat's roots in one cut). By AI agents, Wed Nov 11 2026. No macro, syntax, notation, axiom, sorry.
-/
import Derived.Test.YtdpjbkodenhelaaChecked
import GoSem.Claim
import GoSem.ClaimJoined
import GoSem.ClaimMapViews
import Derived.JoinedTies
import Derived.KernelRfl
namespace Go.Proofs.Ytdpjbkodenhelaa
/- THE CELL 'sum', in the pinned program and in every row, IS THE sha256 OF THE DUMP (.gsa) THAT YtdpjbkodenhelaaProg.lean LOADS. Nothing in Lean hashes anything: it is a label: what it is worth is what the hold of that sum in a sandbox is worth. -/
noncomputable def Try.pinned : Pinned := { name := "ytdpjbkodenhelaa", sum := "0a4c4aeef0b06fd4c0306a46955d829e0bbc9cf0d0cb024a1027117cc69089a9", checked := Try.checked }
namespace Rows
def none {H : Type} : Left H := { results := [], args := [] }

/-- 'tidewaterlaw10.PipesOut': WHATEVER THE INPUT: true; the input reads as it did. -/
def pipesOutSpec : ChangeSpec := { name := "pipesOut", fn := fun _ => fun
  | [d1, d2] => { results := [.lit (.bool true)], args := [d1, d2] }
  | _ => none }
def pipesOutRow : OpenClaim := { program := "ytdpjbkodenhelaa", sum := "0a4c4aeef0b06fd4c0306a46955d829e0bbc9cf0d0cb024a1027117cc69089a9", func := "tidewater/tidewaterlaw10.PipesOut", spec := "pipesOut", apart := false }
def PipesOutSaid : Prop := pipesOutRow.holds Try.pinned (OpenSpec.ofChange pipesOutSpec)

/-- ITS FALSE NEIGHBOUR: 'it returns false'. Refute it at one input. -/
def pipesOutWrong : ChangeSpec := { name := "pipesOut", fn := fun _ => fun
  | [d1, d2] => { results := [.lit (.bool false)], args := [d1, d2] }
  | _ => none }
def PipesOutWrongFalsely : Prop := pipesOutRow.holds Try.pinned (OpenSpec.ofChange pipesOutWrong)

/-- 'tidewaterlaw10.PipesWhole': WHATEVER THE INPUT: true; the input reads as it did. -/
def pipesWholeSpec : ChangeSpec := { name := "pipesWhole", fn := fun _ => fun
  | [d1, d2] => { results := [.lit (.bool true)], args := [d1, d2] }
  | _ => none }
def pipesWholeRow : OpenClaim := { program := "ytdpjbkodenhelaa", sum := "0a4c4aeef0b06fd4c0306a46955d829e0bbc9cf0d0cb024a1027117cc69089a9", func := "tidewater/tidewaterlaw10.PipesWhole", spec := "pipesWhole", apart := false }
def PipesWholeSaid : Prop := pipesWholeRow.holds Try.pinned (OpenSpec.ofChange pipesWholeSpec)

/-- ITS FALSE NEIGHBOUR: 'it returns false'. Refute it at one input. -/
def pipesWholeWrong : ChangeSpec := { name := "pipesWhole", fn := fun _ => fun
  | [d1, d2] => { results := [.lit (.bool false)], args := [d1, d2] }
  | _ => none }
def PipesWholeWrongFalsely : Prop := pipesWholeRow.holds Try.pinned (OpenSpec.ofChange pipesWholeWrong)

/-- 'tidewaterlaw10.PipesPlay': WHATEVER THE INPUT: true; the input reads as it did. -/
def pipesPlaySpec : ChangeSpec := { name := "pipesPlay", fn := fun _ => fun
  | [d] => { results := [.lit (.bool true)], args := [d] }
  | _ => none }
def pipesPlayRow : OpenClaim := { program := "ytdpjbkodenhelaa", sum := "0a4c4aeef0b06fd4c0306a46955d829e0bbc9cf0d0cb024a1027117cc69089a9", func := "tidewater/tidewaterlaw10.PipesPlay", spec := "pipesPlay", apart := false }
def PipesPlaySaid : Prop := pipesPlayRow.holds Try.pinned (OpenSpec.ofChange pipesPlaySpec)

/-- ITS FALSE NEIGHBOUR: 'it returns false'. Refute it at one input. -/
def pipesPlayWrong : ChangeSpec := { name := "pipesPlay", fn := fun _ => fun
  | [d] => { results := [.lit (.bool false)], args := [d] }
  | _ => none }
def PipesPlayWrongFalsely : Prop := pipesPlayRow.holds Try.pinned (OpenSpec.ofChange pipesPlayWrong)

/-- 'tidewaterlaw10.PipesApart': WHATEVER THE INPUT: true; the input reads as it did. -/
def pipesApartSpec : ChangeSpec := { name := "pipesApart", fn := fun _ => fun
  | [d1, d2] => { results := [.lit (.bool true)], args := [d1, d2] }
  | _ => none }
def pipesApartRow : OpenClaim := { program := "ytdpjbkodenhelaa", sum := "0a4c4aeef0b06fd4c0306a46955d829e0bbc9cf0d0cb024a1027117cc69089a9", func := "tidewater/tidewaterlaw10.PipesApart", spec := "pipesApart", apart := false }
def PipesApartSaid : Prop := pipesApartRow.holds Try.pinned (OpenSpec.ofChange pipesApartSpec)

/-- ITS FALSE NEIGHBOUR: 'it returns false'. Refute it at one input. -/
def pipesApartWrong : ChangeSpec := { name := "pipesApart", fn := fun _ => fun
  | [d1, d2] => { results := [.lit (.bool false)], args := [d1, d2] }
  | _ => none }
def PipesApartWrongFalsely : Prop := pipesApartRow.holds Try.pinned (OpenSpec.ofChange pipesApartWrong)

/-- 'tidewaterlaw10.PipesNil': WHATEVER THE INPUT: true; the input reads as it did. -/
def pipesNilSpec : ChangeSpec := { name := "pipesNil", fn := fun _ => fun
  | [d] => { results := [.lit (.bool true)], args := [d] }
  | _ => none }
def pipesNilRow : OpenClaim := { program := "ytdpjbkodenhelaa", sum := "0a4c4aeef0b06fd4c0306a46955d829e0bbc9cf0d0cb024a1027117cc69089a9", func := "tidewater/tidewaterlaw10.PipesNil", spec := "pipesNil", apart := false }
def PipesNilSaid : Prop := pipesNilRow.holds Try.pinned (OpenSpec.ofChange pipesNilSpec)

/-- ITS FALSE NEIGHBOUR: 'it returns false'. Refute it at one input. -/
def pipesNilWrong : ChangeSpec := { name := "pipesNil", fn := fun _ => fun
  | [d] => { results := [.lit (.bool false)], args := [d] }
  | _ => none }
def PipesNilWrongFalsely : Prop := pipesNilRow.holds Try.pinned (OpenSpec.ofChange pipesNilWrong)

/- THE SECOND FORM. 'bulk': how many values and letters a reading holds, each counted each time it is reached (what is shared counts as often as it is met; a slice's spare places count too). A statement '..UptoSaid' is the law's where the arguments, and the package variables that the reading takes, are together of bulk at most 1048576: NARROWER than '..Said'. Prove '..Said' where nothing that the law and all that it calls make is longer than what came in: it says more and counts as full. Else prove '..UptoSaid'. A law counts once. -/
mutual
def uptoBulk {H : Type} : DataW H → Nat
  | .lit (.string bytes) => bytes.length + 1
  | .lit _ => 1
  | .nil => 1
  | .ptr d => uptoBulk d + 1
  | .slice elems spare => uptoBulkAll elems + uptoBulkAll spare + 1
  | .agg parts => uptoBulkAll parts + 1
  | .iface _ d => uptoBulk d + 1
  | .map entries => uptoBulkEntries entries + 1
  | .held _ => 1
def uptoBulkAll {H : Type} : List (DataW H) → Nat
  | [] => 0
  | d :: r => uptoBulk d + uptoBulkAll r
def uptoBulkEntries {H : Type} : List (Lit × DataW H) → Nat
  | [] => 0
  | x :: r => uptoBulkEntry x + uptoBulkEntries r
def uptoBulkEntry {H : Type} : Lit × DataW H → Nat
  | (.string bytes, d) => bytes.length + uptoBulk d + 1
  | (_, d) => uptoBulk d + 1
 end
def uptoSmall : (H : Type) → List (DataW H) → Bool := fun _ ds => decide (uptoBulkAll ds ≤ 1048576)
def OpenSpec.upto (s : _root_.Go.ChangeSpec) : _root_.Go.OpenSpec := { _root_.Go.OpenSpec.ofChange s with cond := some uptoSmall }

/-- 'tidewaterlaw10.PipesOut', WHERE WHAT IT READS IS OF BULK AT MOST 1048576: true; the input reads as it did. -/
def pipesOutUptoRow : OpenClaim := { program := "ytdpjbkodenhelaa", sum := "0a4c4aeef0b06fd4c0306a46955d829e0bbc9cf0d0cb024a1027117cc69089a9", func := "tidewater/tidewaterlaw10.PipesOut", spec := "pipesOut", apart := false, narrowed := true }
def PipesOutUptoSaid : Prop := pipesOutUptoRow.holds Try.pinned (OpenSpec.upto pipesOutSpec)

/-- 'tidewaterlaw10.PipesWhole', WHERE WHAT IT READS IS OF BULK AT MOST 1048576: true; the input reads as it did. -/
def pipesWholeUptoRow : OpenClaim := { program := "ytdpjbkodenhelaa", sum := "0a4c4aeef0b06fd4c0306a46955d829e0bbc9cf0d0cb024a1027117cc69089a9", func := "tidewater/tidewaterlaw10.PipesWhole", spec := "pipesWhole", apart := false, narrowed := true }
def PipesWholeUptoSaid : Prop := pipesWholeUptoRow.holds Try.pinned (OpenSpec.upto pipesWholeSpec)

/-- 'tidewaterlaw10.PipesPlay', WHERE WHAT IT READS IS OF BULK AT MOST 1048576: true; the input reads as it did. -/
def pipesPlayUptoRow : OpenClaim := { program := "ytdpjbkodenhelaa", sum := "0a4c4aeef0b06fd4c0306a46955d829e0bbc9cf0d0cb024a1027117cc69089a9", func := "tidewater/tidewaterlaw10.PipesPlay", spec := "pipesPlay", apart := false, narrowed := true }
def PipesPlayUptoSaid : Prop := pipesPlayUptoRow.holds Try.pinned (OpenSpec.upto pipesPlaySpec)

/-- 'tidewaterlaw10.PipesApart', WHERE WHAT IT READS IS OF BULK AT MOST 1048576: true; the input reads as it did. -/
def pipesApartUptoRow : OpenClaim := { program := "ytdpjbkodenhelaa", sum := "0a4c4aeef0b06fd4c0306a46955d829e0bbc9cf0d0cb024a1027117cc69089a9", func := "tidewater/tidewaterlaw10.PipesApart", spec := "pipesApart", apart := false, narrowed := true }
def PipesApartUptoSaid : Prop := pipesApartUptoRow.holds Try.pinned (OpenSpec.upto pipesApartSpec)

/-- 'tidewaterlaw10.PipesNil', WHERE WHAT IT READS IS OF BULK AT MOST 1048576: true; the input reads as it did. -/
def pipesNilUptoRow : OpenClaim := { program := "ytdpjbkodenhelaa", sum := "0a4c4aeef0b06fd4c0306a46955d829e0bbc9cf0d0cb024a1027117cc69089a9", func := "tidewater/tidewaterlaw10.PipesNil", spec := "pipesNil", apart := false, narrowed := true }
def PipesNilUptoSaid : Prop := pipesNilUptoRow.holds Try.pinned (OpenSpec.upto pipesNilSpec)

end Rows
end Go.Proofs.Ytdpjbkodenhelaa
