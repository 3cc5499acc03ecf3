/-
  No cell of these rows narrows 'for every input' (looked for: loops, veiled, ifaces, maps, wideKeys, modest, calm, conditions, laid).
  DERIVED. THE GIVEN ROWS OF THIS SEAT. 5 by the template 'for every input the law returns true; each argument reads behind the call as it read before'; 0 by the template 'total and deterministic' (their statements: YthpnfbpkoiebaaaTotals.lean).
  GIVEN WITH THE SEED: the statements are not yours to turn. If you find one false, say at which input.
  Laid BY PROGRAM, IN A SANDBOX (cutbox-rows.mjs): the forced cells as the released guide's own fill.sh prints them over the translation bf901c6d30387ffc… (all of the seat's roots in one cut). By AI agents, Wed Nov 11 2026. No macro, syntax, notation, axiom, sorry.
-/
import Derived.Test.YthpnfbpkoiebaaaChecked
import GoSem.Claim
import GoSem.ClaimJoined
import GoSem.ClaimMapViews
import Derived.JoinedTies
import Derived.KernelRfl
namespace Go.Proofs.Ythpnfbpkoiebaaa
/- THE CELL 'sum', in the pinned program and in every row, IS THE sha256 OF THE DUMP (.gsa) THAT YthpnfbpkoiebaaaProg.lean LOADS. Nothing in Lean hashes anything: it is a label: what it is worth is what the hold of that sum in a sandbox is worth. -/
noncomputable def Try.pinned : Pinned := { name := "ythpnfbpkoiebaaa", sum := "bf901c6d30387ffcd1ec0507dc01d20512dbbcd53dbccc43ea2a3f5c174cf455", checked := Try.checked }
namespace Rows
def none {H : Type} : Left H := { results := [], args := [] }

/-- 'tidewaterlaw17.PaceWaits': WHATEVER THE INPUT: true; the input reads as it did. -/
def paceWaitsSpec : ChangeSpec := { name := "paceWaits", fn := fun _ => fun
  | [d1, d2, d3] => { results := [.lit (.bool true)], args := [d1, d2, d3] }
  | _ => none }
def paceWaitsRow : OpenClaim := { program := "ythpnfbpkoiebaaa", sum := "bf901c6d30387ffcd1ec0507dc01d20512dbbcd53dbccc43ea2a3f5c174cf455", func := "tidewater/tidewaterlaw17.PaceWaits", spec := "paceWaits", inPlace := ["math.Float64bits", "math.Float64frombits"], apart := false }
def PaceWaitsSaid : Prop := paceWaitsRow.holds Try.pinned (OpenSpec.ofChange paceWaitsSpec)

/-- ITS FALSE NEIGHBOUR: 'it returns false'. Refute it at one input. -/
def paceWaitsWrong : ChangeSpec := { name := "paceWaits", fn := fun _ => fun
  | [d1, d2, d3] => { results := [.lit (.bool false)], args := [d1, d2, d3] }
  | _ => none }
def PaceWaitsWrongFalsely : Prop := paceWaitsRow.holds Try.pinned (OpenSpec.ofChange paceWaitsWrong)

/-- 'tidewaterlaw17.PaceSteady': WHATEVER THE INPUT: true; the input reads as it did. -/
def paceSteadySpec : ChangeSpec := { name := "paceSteady", fn := fun _ => fun
  | [d] => { results := [.lit (.bool true)], args := [d] }
  | _ => none }
def paceSteadyRow : OpenClaim := { program := "ythpnfbpkoiebaaa", sum := "bf901c6d30387ffcd1ec0507dc01d20512dbbcd53dbccc43ea2a3f5c174cf455", func := "tidewater/tidewaterlaw17.PaceSteady", spec := "paceSteady", inPlace := ["math.Float64bits", "math.Float64frombits"], apart := false }
def PaceSteadySaid : Prop := paceSteadyRow.holds Try.pinned (OpenSpec.ofChange paceSteadySpec)

/-- ITS FALSE NEIGHBOUR: 'it returns false'. Refute it at one input. -/
def paceSteadyWrong : ChangeSpec := { name := "paceSteady", fn := fun _ => fun
  | [d] => { results := [.lit (.bool false)], args := [d] }
  | _ => none }
def PaceSteadyWrongFalsely : Prop := paceSteadyRow.holds Try.pinned (OpenSpec.ofChange paceSteadyWrong)

/-- 'tidewaterlaw17.PaceWay': WHATEVER THE INPUT: true; the input reads as it did. -/
def paceWaySpec : ChangeSpec := { name := "paceWay", fn := fun _ => fun
  | [d1, d2, d3] => { results := [.lit (.bool true)], args := [d1, d2, d3] }
  | _ => none }
def paceWayRow : OpenClaim := { program := "ythpnfbpkoiebaaa", sum := "bf901c6d30387ffcd1ec0507dc01d20512dbbcd53dbccc43ea2a3f5c174cf455", func := "tidewater/tidewaterlaw17.PaceWay", spec := "paceWay", inPlace := ["math.Float64bits", "math.Float64frombits"], apart := false }
def PaceWaySaid : Prop := paceWayRow.holds Try.pinned (OpenSpec.ofChange paceWaySpec)

/-- ITS FALSE NEIGHBOUR: 'it returns false'. Refute it at one input. -/
def paceWayWrong : ChangeSpec := { name := "paceWay", fn := fun _ => fun
  | [d1, d2, d3] => { results := [.lit (.bool false)], args := [d1, d2, d3] }
  | _ => none }
def PaceWayWrongFalsely : Prop := paceWayRow.holds Try.pinned (OpenSpec.ofChange paceWayWrong)

/-- 'tidewaterlaw17.PaceHalves': WHATEVER THE INPUT: true; the input reads as it did. -/
def paceHalvesSpec : ChangeSpec := { name := "paceHalves", fn := fun _ => fun
  | [d1, d2, d3] => { results := [.lit (.bool true)], args := [d1, d2, d3] }
  | _ => none }
def paceHalvesRow : OpenClaim := { program := "ythpnfbpkoiebaaa", sum := "bf901c6d30387ffcd1ec0507dc01d20512dbbcd53dbccc43ea2a3f5c174cf455", func := "tidewater/tidewaterlaw17.PaceHalves", spec := "paceHalves", inPlace := ["math.Float64bits", "math.Float64frombits"], apart := false }
def PaceHalvesSaid : Prop := paceHalvesRow.holds Try.pinned (OpenSpec.ofChange paceHalvesSpec)

/-- ITS FALSE NEIGHBOUR: 'it returns false'. Refute it at one input. -/
def paceHalvesWrong : ChangeSpec := { name := "paceHalves", fn := fun _ => fun
  | [d1, d2, d3] => { results := [.lit (.bool false)], args := [d1, d2, d3] }
  | _ => none }
def PaceHalvesWrongFalsely : Prop := paceHalvesRow.holds Try.pinned (OpenSpec.ofChange paceHalvesWrong)

/-- 'tidewaterlaw17.PaceLevels': WHATEVER THE INPUT: true; the input reads as it did. -/
def paceLevelsSpec : ChangeSpec := { name := "paceLevels", fn := fun _ => fun
  | [d1, d2] => { results := [.lit (.bool true)], args := [d1, d2] }
  | _ => none }
def paceLevelsRow : OpenClaim := { program := "ythpnfbpkoiebaaa", sum := "bf901c6d30387ffcd1ec0507dc01d20512dbbcd53dbccc43ea2a3f5c174cf455", func := "tidewater/tidewaterlaw17.PaceLevels", spec := "paceLevels", inPlace := ["math.Float64bits", "math.Float64frombits"], apart := false }
def PaceLevelsSaid : Prop := paceLevelsRow.holds Try.pinned (OpenSpec.ofChange paceLevelsSpec)

/-- ITS FALSE NEIGHBOUR: 'it returns false'. Refute it at one input. -/
def paceLevelsWrong : ChangeSpec := { name := "paceLevels", fn := fun _ => fun
  | [d1, d2] => { results := [.lit (.bool false)], args := [d1, d2] }
  | _ => none }
def PaceLevelsWrongFalsely : Prop := paceLevelsRow.holds Try.pinned (OpenSpec.ofChange paceLevelsWrong)

/- THE SECOND FORM. 'bulk': how many values and letters a reading holds, each counted each time it is reached (what is shared counts as often as it is met; a slice's spare places count too). A statement '..UptoSaid' is the law's where the arguments, and the package variables that the reading takes, are together of bulk at most 1048576: NARROWER than '..Said'. Prove '..Said' where nothing that the law and all that it calls make is longer than what came in: it says more and counts as full. Else prove '..UptoSaid'. A law counts once. -/
mutual
def uptoBulk {H : Type} : DataW H → Nat
  | .lit (.string bytes) => bytes.length + 1
  | .lit _ => 1
  | .nil => 1
  | .ptr d => uptoBulk d + 1
  | .slice elems spare => uptoBulkAll elems + uptoBulkAll spare + 1
  | .agg parts => uptoBulkAll parts + 1
  | .iface _ d => uptoBulk d + 1
  | .map entries => uptoBulkEntries entries + 1
  | .held _ => 1
def uptoBulkAll {H : Type} : List (DataW H) → Nat
  | [] => 0
  | d :: r => uptoBulk d + uptoBulkAll r
def uptoBulkEntries {H : Type} : List (Lit × DataW H) → Nat
  | [] => 0
  | x :: r => uptoBulkEntry x + uptoBulkEntries r
def uptoBulkEntry {H : Type} : Lit × DataW H → Nat
  | (.string bytes, d) => bytes.length + uptoBulk d + 1
  | (_, d) => uptoBulk d + 1
 end
def uptoSmall : (H : Type) → List (DataW H) → Bool := fun _ ds => decide (uptoBulkAll ds ≤ 1048576)
def OpenSpec.upto (s : _root_.Go.ChangeSpec) : _root_.Go.OpenSpec := { _root_.Go.OpenSpec.ofChange s with cond := some uptoSmall }

/-- 'tidewaterlaw17.PaceWaits', WHERE WHAT IT READS IS OF BULK AT MOST 1048576: true; the input reads as it did. -/
def paceWaitsUptoRow : OpenClaim := { program := "ythpnfbpkoiebaaa", sum := "bf901c6d30387ffcd1ec0507dc01d20512dbbcd53dbccc43ea2a3f5c174cf455", func := "tidewater/tidewaterlaw17.PaceWaits", spec := "paceWaits", inPlace := ["math.Float64bits", "math.Float64frombits"], apart := false, narrowed := true }
def PaceWaitsUptoSaid : Prop := paceWaitsUptoRow.holds Try.pinned (OpenSpec.upto paceWaitsSpec)

/-- 'tidewaterlaw17.PaceSteady', WHERE WHAT IT READS IS OF BULK AT MOST 1048576: true; the input reads as it did. -/
def paceSteadyUptoRow : OpenClaim := { program := "ythpnfbpkoiebaaa", sum := "bf901c6d30387ffcd1ec0507dc01d20512dbbcd53dbccc43ea2a3f5c174cf455", func := "tidewater/tidewaterlaw17.PaceSteady", spec := "paceSteady", inPlace := ["math.Float64bits", "math.Float64frombits"], apart := false, narrowed := true }
def PaceSteadyUptoSaid : Prop := paceSteadyUptoRow.holds Try.pinned (OpenSpec.upto paceSteadySpec)

/-- 'tidewaterlaw17.PaceWay', WHERE WHAT IT READS IS OF BULK AT MOST 1048576: true; the input reads as it did. -/
def paceWayUptoRow : OpenClaim := { program := "ythpnfbpkoiebaaa", sum := "bf901c6d30387ffcd1ec0507dc01d20512dbbcd53dbccc43ea2a3f5c174cf455", func := "tidewater/tidewaterlaw17.PaceWay", spec := "paceWay", inPlace := ["math.Float64bits", "math.Float64frombits"], apart := false, narrowed := true }
def PaceWayUptoSaid : Prop := paceWayUptoRow.holds Try.pinned (OpenSpec.upto paceWaySpec)

/-- 'tidewaterlaw17.PaceHalves', WHERE WHAT IT READS IS OF BULK AT MOST 1048576: true; the input reads as it did. -/
def paceHalvesUptoRow : OpenClaim := { program := "ythpnfbpkoiebaaa", sum := "bf901c6d30387ffcd1ec0507dc01d20512dbbcd53dbccc43ea2a3f5c174cf455", func := "tidewater/tidewaterlaw17.PaceHalves", spec := "paceHalves", inPlace := ["math.Float64bits", "math.Float64frombits"], apart := false, narrowed := true }
def PaceHalvesUptoSaid : Prop := paceHalvesUptoRow.holds Try.pinned (OpenSpec.upto paceHalvesSpec)

/-- 'tidewaterlaw17.PaceLevels', WHERE WHAT IT READS IS OF BULK AT MOST 1048576: true; the input reads as it did. -/
def paceLevelsUptoRow : OpenClaim := { program := "ythpnfbpkoiebaaa", sum := "bf901c6d30387ffcd1ec0507dc01d20512dbbcd53dbccc43ea2a3f5c174cf455", func := "tidewater/tidewaterlaw17.PaceLevels", spec := "paceLevels", inPlace := ["math.Float64bits", "math.Float64frombits"], apart := false, narrowed := true }
def PaceLevelsUptoSaid : Prop := paceLevelsUptoRow.holds Try.pinned (OpenSpec.upto paceLevelsSpec)

end Rows
end Go.Proofs.Ythpnfbpkoiebaaa
