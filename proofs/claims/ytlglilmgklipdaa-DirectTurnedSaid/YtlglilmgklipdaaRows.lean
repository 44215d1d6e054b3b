/-
  No cell of these rows narrows 'for every input' (looked for: loops, veiled, ifaces, maps, wideKeys, modest, calm, conditions, laid).
  DERIVED. THE GIVEN ROWS OF THIS SEAT. 10 by the template 'for every input the law returns true; each argument reads behind the call as it read before'; 0 by the template 'total and deterministic' (their statements: YtlglilmgklipdaaTotals.lean).
  GIVEN WITH THE SEED: the statements are not yours to turn. If you find one false, say at which input.
  Laid BY PROGRAM, IN A SANDBOX (cutbox-rows.mjs): the forced cells as the released guide's own fill.sh prints them over the translation 615f4c2de9551908… (all of the seat's roots in one cut). By AI agents, Wed Nov 11 2026. No macro, syntax, notation, axiom, sorry.
-/
import Derived.Test.YtlglilmgklipdaaChecked
import GoSem.Claim
import GoSem.ClaimJoined
import GoSem.ClaimMapViews
import Derived.JoinedTies
import Derived.KernelRfl
namespace Go.Proofs.Ytlglilmgklipdaa
/- THE CELL 'sum', in the pinned program and in every row, IS THE sha256 OF THE DUMP (.gsa) THAT YtlglilmgklipdaaProg.lean LOADS. Nothing in Lean hashes anything: it is a label: what it is worth is what the hold of that sum in a sandbox is worth. -/
noncomputable def Try.pinned : Pinned := { name := "ytlglilmgklipdaa", sum := "615f4c2de9551908c449c293ff7e1f8b6936091aed4e5693f5746f85661aa8d7", checked := Try.checked }
namespace Rows
def none {H : Type} : Left H := { results := [], args := [] }

/-- 'offshootlaw16.MachineRuns': WHATEVER THE INPUT: true; the input reads as it did. -/
def machineRunsSpec : ChangeSpec := { name := "machineRuns", fn := fun _ => fun
  | [d1, d2, d3] => { results := [.lit (.bool true)], args := [d1, d2, d3] }
  | _ => none }
def machineRunsRow : OpenClaim := { program := "ytlglilmgklipdaa", sum := "615f4c2de9551908c449c293ff7e1f8b6936091aed4e5693f5746f85661aa8d7", func := "offshoot/offshootlaw16.MachineRuns", spec := "machineRuns", unfollowed := true, recurses := true, apart := false }
def MachineRunsSaid : Prop := machineRunsRow.holds Try.pinned (OpenSpec.ofChange machineRunsSpec)

/-- ITS FALSE NEIGHBOUR: 'it returns false'. Refute it at one input. -/
def machineRunsWrong : ChangeSpec := { name := "machineRuns", fn := fun _ => fun
  | [d1, d2, d3] => { results := [.lit (.bool false)], args := [d1, d2, d3] }
  | _ => none }
def MachineRunsWrongFalsely : Prop := machineRunsRow.holds Try.pinned (OpenSpec.ofChange machineRunsWrong)

/-- 'offshootlaw16.MachineFuel': WHATEVER THE INPUT: true; the input reads as it did. -/
def machineFuelSpec : ChangeSpec := { name := "machineFuel", fn := fun _ => fun
  | [d1, d2, d3, d4] => { results := [.lit (.bool true)], args := [d1, d2, d3, d4] }
  | _ => none }
def machineFuelRow : OpenClaim := { program := "ytlglilmgklipdaa", sum := "615f4c2de9551908c449c293ff7e1f8b6936091aed4e5693f5746f85661aa8d7", func := "offshoot/offshootlaw16.MachineFuel", spec := "machineFuel", unfollowed := true, recurses := true, apart := false }
def MachineFuelSaid : Prop := machineFuelRow.holds Try.pinned (OpenSpec.ofChange machineFuelSpec)

/-- ITS FALSE NEIGHBOUR: 'it returns false'. Refute it at one input. -/
def machineFuelWrong : ChangeSpec := { name := "machineFuel", fn := fun _ => fun
  | [d1, d2, d3, d4] => { results := [.lit (.bool false)], args := [d1, d2, d3, d4] }
  | _ => none }
def MachineFuelWrongFalsely : Prop := machineFuelRow.holds Try.pinned (OpenSpec.ofChange machineFuelWrong)

/-- 'offshootlaw16.MachineLeast': WHATEVER THE INPUT: true; the input reads as it did. -/
def machineLeastSpec : ChangeSpec := { name := "machineLeast", fn := fun _ => fun
  | [d1, d2, d3, d4] => { results := [.lit (.bool true)], args := [d1, d2, d3, d4] }
  | _ => none }
def machineLeastRow : OpenClaim := { program := "ytlglilmgklipdaa", sum := "615f4c2de9551908c449c293ff7e1f8b6936091aed4e5693f5746f85661aa8d7", func := "offshoot/offshootlaw16.MachineLeast", spec := "machineLeast", unfollowed := true, recurses := true, apart := false }
def MachineLeastSaid : Prop := machineLeastRow.holds Try.pinned (OpenSpec.ofChange machineLeastSpec)

/-- ITS FALSE NEIGHBOUR: 'it returns false'. Refute it at one input. -/
def machineLeastWrong : ChangeSpec := { name := "machineLeast", fn := fun _ => fun
  | [d1, d2, d3, d4] => { results := [.lit (.bool false)], args := [d1, d2, d3, d4] }
  | _ => none }
def MachineLeastWrongFalsely : Prop := machineLeastRow.holds Try.pinned (OpenSpec.ofChange machineLeastWrong)

/-- 'offshootlaw16.MachineOuts': WHATEVER THE INPUT: true; the input reads as it did. -/
def machineOutsSpec : ChangeSpec := { name := "machineOuts", fn := fun _ => fun
  | [d1, d2, d3, d4] => { results := [.lit (.bool true)], args := [d1, d2, d3, d4] }
  | _ => none }
def machineOutsRow : OpenClaim := { program := "ytlglilmgklipdaa", sum := "615f4c2de9551908c449c293ff7e1f8b6936091aed4e5693f5746f85661aa8d7", func := "offshoot/offshootlaw16.MachineOuts", spec := "machineOuts", unfollowed := true, recurses := true, apart := false }
def MachineOutsSaid : Prop := machineOutsRow.holds Try.pinned (OpenSpec.ofChange machineOutsSpec)

/-- ITS FALSE NEIGHBOUR: 'it returns false'. Refute it at one input. -/
def machineOutsWrong : ChangeSpec := { name := "machineOuts", fn := fun _ => fun
  | [d1, d2, d3, d4] => { results := [.lit (.bool false)], args := [d1, d2, d3, d4] }
  | _ => none }
def MachineOutsWrongFalsely : Prop := machineOutsRow.holds Try.pinned (OpenSpec.ofChange machineOutsWrong)

/-- 'offshootlaw16.MachineFirst': WHATEVER THE INPUT: true; the input reads as it did. -/
def machineFirstSpec : ChangeSpec := { name := "machineFirst", fn := fun _ => fun
  | [d1, d2, d3] => { results := [.lit (.bool true)], args := [d1, d2, d3] }
  | _ => none }
def machineFirstRow : OpenClaim := { program := "ytlglilmgklipdaa", sum := "615f4c2de9551908c449c293ff7e1f8b6936091aed4e5693f5746f85661aa8d7", func := "offshoot/offshootlaw16.MachineFirst", spec := "machineFirst", unfollowed := true, recurses := true, apart := false }
def MachineFirstSaid : Prop := machineFirstRow.holds Try.pinned (OpenSpec.ofChange machineFirstSpec)

/-- ITS FALSE NEIGHBOUR: 'it returns false'. Refute it at one input. -/
def machineFirstWrong : ChangeSpec := { name := "machineFirst", fn := fun _ => fun
  | [d1, d2, d3] => { results := [.lit (.bool false)], args := [d1, d2, d3] }
  | _ => none }
def MachineFirstWrongFalsely : Prop := machineFirstRow.holds Try.pinned (OpenSpec.ofChange machineFirstWrong)

/-- 'offshootlaw17.DirectRuns': WHATEVER THE INPUT: true; the input reads as it did. -/
def directRunsSpec : ChangeSpec := { name := "directRuns", fn := fun _ => fun
  | [d1, d2, d3] => { results := [.lit (.bool true)], args := [d1, d2, d3] }
  | _ => none }
def directRunsRow : OpenClaim := { program := "ytlglilmgklipdaa", sum := "615f4c2de9551908c449c293ff7e1f8b6936091aed4e5693f5746f85661aa8d7", func := "offshoot/offshootlaw17.DirectRuns", spec := "directRuns", unfollowed := true, recurses := true, apart := false }
def DirectRunsSaid : Prop := directRunsRow.holds Try.pinned (OpenSpec.ofChange directRunsSpec)

/-- ITS FALSE NEIGHBOUR: 'it returns false'. Refute it at one input. -/
def directRunsWrong : ChangeSpec := { name := "directRuns", fn := fun _ => fun
  | [d1, d2, d3] => { results := [.lit (.bool false)], args := [d1, d2, d3] }
  | _ => none }
def DirectRunsWrongFalsely : Prop := directRunsRow.holds Try.pinned (OpenSpec.ofChange directRunsWrong)

/-- 'offshootlaw17.DirectUnused': WHATEVER THE INPUT: true; the input reads as it did. -/
def directUnusedSpec : ChangeSpec := { name := "directUnused", fn := fun _ => fun
  | [d1, d2, d3, d4] => { results := [.lit (.bool true)], args := [d1, d2, d3, d4] }
  | _ => none }
def directUnusedRow : OpenClaim := { program := "ytlglilmgklipdaa", sum := "615f4c2de9551908c449c293ff7e1f8b6936091aed4e5693f5746f85661aa8d7", func := "offshoot/offshootlaw17.DirectUnused", spec := "directUnused", unfollowed := true, recurses := true, apart := false }
def DirectUnusedSaid : Prop := directUnusedRow.holds Try.pinned (OpenSpec.ofChange directUnusedSpec)

/-- ITS FALSE NEIGHBOUR: 'it returns false'. Refute it at one input. -/
def directUnusedWrong : ChangeSpec := { name := "directUnused", fn := fun _ => fun
  | [d1, d2, d3, d4] => { results := [.lit (.bool false)], args := [d1, d2, d3, d4] }
  | _ => none }
def DirectUnusedWrongFalsely : Prop := directUnusedRow.holds Try.pinned (OpenSpec.ofChange directUnusedWrong)

/-- 'offshootlaw17.DirectTurned': WHATEVER THE INPUT: true; the input reads as it did. -/
def directTurnedSpec : ChangeSpec := { name := "directTurned", fn := fun _ => fun
  | [d1, d2, d3] => { results := [.lit (.bool true)], args := [d1, d2, d3] }
  | _ => none }
def directTurnedRow : OpenClaim := { program := "ytlglilmgklipdaa", sum := "615f4c2de9551908c449c293ff7e1f8b6936091aed4e5693f5746f85661aa8d7", func := "offshoot/offshootlaw17.DirectTurned", spec := "directTurned", unfollowed := true, recurses := true, apart := false }
def DirectTurnedSaid : Prop := directTurnedRow.holds Try.pinned (OpenSpec.ofChange directTurnedSpec)

/-- ITS FALSE NEIGHBOUR: 'it returns false'. Refute it at one input. -/
def directTurnedWrong : ChangeSpec := { name := "directTurned", fn := fun _ => fun
  | [d1, d2, d3] => { results := [.lit (.bool false)], args := [d1, d2, d3] }
  | _ => none }
def DirectTurnedWrongFalsely : Prop := directTurnedRow.holds Try.pinned (OpenSpec.ofChange directTurnedWrong)

/-- 'offshootlaw17.DirectSame': WHATEVER THE INPUT: true; the input reads as it did. -/
def directSameSpec : ChangeSpec := { name := "directSame", fn := fun _ => fun
  | [d1, d2, d3] => { results := [.lit (.bool true)], args := [d1, d2, d3] }
  | _ => none }
def directSameRow : OpenClaim := { program := "ytlglilmgklipdaa", sum := "615f4c2de9551908c449c293ff7e1f8b6936091aed4e5693f5746f85661aa8d7", func := "offshoot/offshootlaw17.DirectSame", spec := "directSame", unfollowed := true, recurses := true, apart := false }
def DirectSameSaid : Prop := directSameRow.holds Try.pinned (OpenSpec.ofChange directSameSpec)

/-- ITS FALSE NEIGHBOUR: 'it returns false'. Refute it at one input. -/
def directSameWrong : ChangeSpec := { name := "directSame", fn := fun _ => fun
  | [d1, d2, d3] => { results := [.lit (.bool false)], args := [d1, d2, d3] }
  | _ => none }
def DirectSameWrongFalsely : Prop := directSameRow.holds Try.pinned (OpenSpec.ofChange directSameWrong)

/-- 'offshootlaw18.TraceSame': WHATEVER THE INPUT: true; the input reads as it did. -/
def traceSameSpec : ChangeSpec := { name := "traceSame", fn := fun _ => fun
  | [d1, d2, d3] => { results := [.lit (.bool true)], args := [d1, d2, d3] }
  | _ => none }
def traceSameRow : OpenClaim := { program := "ytlglilmgklipdaa", sum := "615f4c2de9551908c449c293ff7e1f8b6936091aed4e5693f5746f85661aa8d7", func := "offshoot/offshootlaw18.TraceSame", spec := "traceSame", unfollowed := true, recurses := true, apart := false }
def TraceSameSaid : Prop := traceSameRow.holds Try.pinned (OpenSpec.ofChange traceSameSpec)

/-- ITS FALSE NEIGHBOUR: 'it returns false'. Refute it at one input. -/
def traceSameWrong : ChangeSpec := { name := "traceSame", fn := fun _ => fun
  | [d1, d2, d3] => { results := [.lit (.bool false)], args := [d1, d2, d3] }
  | _ => none }
def TraceSameWrongFalsely : Prop := traceSameRow.holds Try.pinned (OpenSpec.ofChange traceSameWrong)

/- THE SECOND FORM. 'bulk': how many values and letters a reading holds, each counted each time it is reached (what is shared counts as often as it is met; a slice's spare places count too). A statement '..UptoSaid' is the law's where the arguments, and the package variables that the reading takes, are together of bulk at most 1048576: NARROWER than '..Said'. Prove '..Said' where nothing that the law and all that it calls make is longer than what came in: it says more and counts as full. Else prove '..UptoSaid'. A law counts once. -/
mutual
def uptoBulk {H : Type} : DataW H → Nat
  | .lit (.string bytes) => bytes.length + 1
  | .lit _ => 1
  | .nil => 1
  | .ptr d => uptoBulk d + 1
  | .slice elems spare => uptoBulkAll elems + uptoBulkAll spare + 1
  | .agg parts => uptoBulkAll parts + 1
  | .iface _ d => uptoBulk d + 1
  | .map entries => uptoBulkEntries entries + 1
  | .held _ => 1
def uptoBulkAll {H : Type} : List (DataW H) → Nat
  | [] => 0
  | d :: r => uptoBulk d + uptoBulkAll r
def uptoBulkEntries {H : Type} : List (Lit × DataW H) → Nat
  | [] => 0
  | x :: r => uptoBulkEntry x + uptoBulkEntries r
def uptoBulkEntry {H : Type} : Lit × DataW H → Nat
  | (.string bytes, d) => bytes.length + uptoBulk d + 1
  | (_, d) => uptoBulk d + 1
 end
def uptoSmall : (H : Type) → List (DataW H) → Bool := fun _ ds => decide (uptoBulkAll ds ≤ 1048576)
def OpenSpec.upto (s : _root_.Go.ChangeSpec) : _root_.Go.OpenSpec := { _root_.Go.OpenSpec.ofChange s with cond := some uptoSmall }

/-- 'offshootlaw16.MachineRuns', WHERE WHAT IT READS IS OF BULK AT MOST 1048576: true; the input reads as it did. -/
def machineRunsUptoRow : OpenClaim := { program := "ytlglilmgklipdaa", sum := "615f4c2de9551908c449c293ff7e1f8b6936091aed4e5693f5746f85661aa8d7", func := "offshoot/offshootlaw16.MachineRuns", spec := "machineRuns", unfollowed := true, recurses := true, apart := false, narrowed := true }
def MachineRunsUptoSaid : Prop := machineRunsUptoRow.holds Try.pinned (OpenSpec.upto machineRunsSpec)

/-- 'offshootlaw16.MachineFuel', WHERE WHAT IT READS IS OF BULK AT MOST 1048576: true; the input reads as it did. -/
def machineFuelUptoRow : OpenClaim := { program := "ytlglilmgklipdaa", sum := "615f4c2de9551908c449c293ff7e1f8b6936091aed4e5693f5746f85661aa8d7", func := "offshoot/offshootlaw16.MachineFuel", spec := "machineFuel", unfollowed := true, recurses := true, apart := false, narrowed := true }
def MachineFuelUptoSaid : Prop := machineFuelUptoRow.holds Try.pinned (OpenSpec.upto machineFuelSpec)

/-- 'offshootlaw16.MachineLeast', WHERE WHAT IT READS IS OF BULK AT MOST 1048576: true; the input reads as it did. -/
def machineLeastUptoRow : OpenClaim := { program := "ytlglilmgklipdaa", sum := "615f4c2de9551908c449c293ff7e1f8b6936091aed4e5693f5746f85661aa8d7", func := "offshoot/offshootlaw16.MachineLeast", spec := "machineLeast", unfollowed := true, recurses := true, apart := false, narrowed := true }
def MachineLeastUptoSaid : Prop := machineLeastUptoRow.holds Try.pinned (OpenSpec.upto machineLeastSpec)

/-- 'offshootlaw16.MachineOuts', WHERE WHAT IT READS IS OF BULK AT MOST 1048576: true; the input reads as it did. -/
def machineOutsUptoRow : OpenClaim := { program := "ytlglilmgklipdaa", sum := "615f4c2de9551908c449c293ff7e1f8b6936091aed4e5693f5746f85661aa8d7", func := "offshoot/offshootlaw16.MachineOuts", spec := "machineOuts", unfollowed := true, recurses := true, apart := false, narrowed := true }
def MachineOutsUptoSaid : Prop := machineOutsUptoRow.holds Try.pinned (OpenSpec.upto machineOutsSpec)

/-- 'offshootlaw16.MachineFirst', WHERE WHAT IT READS IS OF BULK AT MOST 1048576: true; the input reads as it did. -/
def machineFirstUptoRow : OpenClaim := { program := "ytlglilmgklipdaa", sum := "615f4c2de9551908c449c293ff7e1f8b6936091aed4e5693f5746f85661aa8d7", func := "offshoot/offshootlaw16.MachineFirst", spec := "machineFirst", unfollowed := true, recurses := true, apart := false, narrowed := true }
def MachineFirstUptoSaid : Prop := machineFirstUptoRow.holds Try.pinned (OpenSpec.upto machineFirstSpec)

/-- 'offshootlaw17.DirectRuns', WHERE WHAT IT READS IS OF BULK AT MOST 1048576: true; the input reads as it did. -/
def directRunsUptoRow : OpenClaim := { program := "ytlglilmgklipdaa", sum := "615f4c2de9551908c449c293ff7e1f8b6936091aed4e5693f5746f85661aa8d7", func := "offshoot/offshootlaw17.DirectRuns", spec := "directRuns", unfollowed := true, recurses := true, apart := false, narrowed := true }
def DirectRunsUptoSaid : Prop := directRunsUptoRow.holds Try.pinned (OpenSpec.upto directRunsSpec)

/-- 'offshootlaw17.DirectUnused', WHERE WHAT IT READS IS OF BULK AT MOST 1048576: true; the input reads as it did. -/
def directUnusedUptoRow : OpenClaim := { program := "ytlglilmgklipdaa", sum := "615f4c2de9551908c449c293ff7e1f8b6936091aed4e5693f5746f85661aa8d7", func := "offshoot/offshootlaw17.DirectUnused", spec := "directUnused", unfollowed := true, recurses := true, apart := false, narrowed := true }
def DirectUnusedUptoSaid : Prop := directUnusedUptoRow.holds Try.pinned (OpenSpec.upto directUnusedSpec)

/-- 'offshootlaw17.DirectTurned', WHERE WHAT IT READS IS OF BULK AT MOST 1048576: true; the input reads as it did. -/
def directTurnedUptoRow : OpenClaim := { program := "ytlglilmgklipdaa", sum := "615f4c2de9551908c449c293ff7e1f8b6936091aed4e5693f5746f85661aa8d7", func := "offshoot/offshootlaw17.DirectTurned", spec := "directTurned", unfollowed := true, recurses := true, apart := false, narrowed := true }
def DirectTurnedUptoSaid : Prop := directTurnedUptoRow.holds Try.pinned (OpenSpec.upto directTurnedSpec)

/-- 'offshootlaw17.DirectSame', WHERE WHAT IT READS IS OF BULK AT MOST 1048576: true; the input reads as it did. -/
def directSameUptoRow : OpenClaim := { program := "ytlglilmgklipdaa", sum := "615f4c2de9551908c449c293ff7e1f8b6936091aed4e5693f5746f85661aa8d7", func := "offshoot/offshootlaw17.DirectSame", spec := "directSame", unfollowed := true, recurses := true, apart := false, narrowed := true }
def DirectSameUptoSaid : Prop := directSameUptoRow.holds Try.pinned (OpenSpec.upto directSameSpec)

/-- 'offshootlaw18.TraceSame', WHERE WHAT IT READS IS OF BULK AT MOST 1048576: true; the input reads as it did. -/
def traceSameUptoRow : OpenClaim := { program := "ytlglilmgklipdaa", sum := "615f4c2de9551908c449c293ff7e1f8b6936091aed4e5693f5746f85661aa8d7", func := "offshoot/offshootlaw18.TraceSame", spec := "traceSame", unfollowed := true, recurses := true, apart := false, narrowed := true }
def TraceSameUptoSaid : Prop := traceSameUptoRow.holds Try.pinned (OpenSpec.upto traceSameSpec)

end Rows
end Go.Proofs.Ytlglilmgklipdaa
