/-
  No cell of these rows narrows 'for every input' (looked for: loops, veiled, ifaces, maps, wideKeys, modest, calm, conditions, laid).
  DERIVED. THE GIVEN ROWS OF THIS SEAT. 3 by the template 'for every input the law returns true; each argument reads behind the call as it read before'; 0 by the template 'total and deterministic' (their statements: YtkoikjnlpifbjaaGreatTotals.lean).
  GIVEN WITH THE SEED: the statements are not yours to turn. If you find one false, say at which input.
  Laid BY PROGRAM, IN A SANDBOX (cutbox-rows.mjs): the forced cells as the released guide's own fill.sh prints them over the translation 5753e0f01c4299bb… (all of the seat's roots in one cut). By AI agents, Wed Nov 11 2026. No macro, syntax, notation, axiom, sorry.
-/
import Derived.Test.YtkoikjnlpifbjaaGreatChecked
import GoSem.Claim
import GoSem.ClaimJoined
import GoSem.ClaimMapViews
import Derived.JoinedTies
import Derived.KernelRfl
namespace Go.Proofs.YtkoikjnlpifbjaaGreat
/- THE CELL 'sum', in the pinned program and in every row, IS THE sha256 OF THE DUMP (.gsa) THAT YtkoikjnlpifbjaaGreatProg.lean LOADS. Nothing in Lean hashes anything: it is a label: what it is worth is what the hold of that sum in a sandbox is worth. -/
noncomputable def Tryz.pinned : Pinned := { name := "ytkoikjnlpifbjaagreat", sum := "5753e0f01c4299bb8a30a03d34d392c739331cbd00656133cd0f8bed68985f8b", checked := Tryz.checked }
namespace Rows
def none {H : Type} : Left H := { results := [], args := [] }

/-- 'offshootlaw22.RunnerTurns': WHATEVER THE INPUT: true; the input reads as it did. -/
def runnerTurnsSpec : ChangeSpec := { name := "runnerTurns", fn := fun _ => fun
  | [d1, d2, d3, d4, d5, d6] => { results := [.lit (.bool true)], args := [d1, d2, d3, d4, d5, d6] }
  | _ => none }
def runnerTurnsRow : OpenClaim := { program := "ytkoikjnlpifbjaagreat", sum := "5753e0f01c4299bb8a30a03d34d392c739331cbd00656133cd0f8bed68985f8b", func := "offshoot/offshootlaw22.RunnerTurns", spec := "runnerTurns", inPlace := ["sync/atomic.LoadUint32", "(*internal/sync.Mutex).Lock", "internal/race.Disable", "sync/atomic.CompareAndSwapInt32", "internal/race.Enable", "internal/race.Acquire", "(*internal/sync.Mutex).lockSlow", "internal/sync.runtime_canSpin", "internal/sync.runtime_doSpin", "internal/sync.throw", "internal/sync.runtime_nanotime", "internal/sync.runtime_SemacquireMutex", "sync/atomic.AddInt32", "(*internal/sync.Mutex).Unlock", "internal/race.ReleaseMerge", "(*internal/sync.Mutex).unlockSlow", "internal/sync.fatal", "internal/sync.runtime_Semrelease", "sync/atomic.StoreUint32", "sync/atomic.LoadInt64", "slices.overlaps[offshoot/api.Node]", "sync/atomic.AddInt64"], unfollowed := true, recurses := true, apart := false }
def RunnerTurnsSaid : Prop := runnerTurnsRow.holds Tryz.pinned (OpenSpec.ofChange runnerTurnsSpec)

/-- ITS FALSE NEIGHBOUR: 'it returns false'. Refute it at one input. -/
def runnerTurnsWrong : ChangeSpec := { name := "runnerTurns", fn := fun _ => fun
  | [d1, d2, d3, d4, d5, d6] => { results := [.lit (.bool false)], args := [d1, d2, d3, d4, d5, d6] }
  | _ => none }
def RunnerTurnsWrongFalsely : Prop := runnerTurnsRow.holds Tryz.pinned (OpenSpec.ofChange runnerTurnsWrong)

/-- 'offshootlaw22.RunnerJust': WHATEVER THE INPUT: true; the input reads as it did. -/
def runnerJustSpec : ChangeSpec := { name := "runnerJust", fn := fun _ => fun
  | [d1, d2, d3, d4] => { results := [.lit (.bool true)], args := [d1, d2, d3, d4] }
  | _ => none }
def runnerJustRow : OpenClaim := { program := "ytkoikjnlpifbjaagreat", sum := "5753e0f01c4299bb8a30a03d34d392c739331cbd00656133cd0f8bed68985f8b", func := "offshoot/offshootlaw22.RunnerJust", spec := "runnerJust", inPlace := ["sync/atomic.LoadUint32", "(*internal/sync.Mutex).Lock", "internal/race.Disable", "sync/atomic.CompareAndSwapInt32", "internal/race.Enable", "internal/race.Acquire", "(*internal/sync.Mutex).lockSlow", "internal/sync.runtime_canSpin", "internal/sync.runtime_doSpin", "internal/sync.throw", "internal/sync.runtime_nanotime", "internal/sync.runtime_SemacquireMutex", "sync/atomic.AddInt32", "(*internal/sync.Mutex).Unlock", "internal/race.ReleaseMerge", "(*internal/sync.Mutex).unlockSlow", "internal/sync.fatal", "internal/sync.runtime_Semrelease", "sync/atomic.StoreUint32", "sync/atomic.LoadInt64", "slices.overlaps[offshoot/api.Node]", "sync/atomic.AddInt64"], unfollowed := true, recurses := true, apart := false }
def RunnerJustSaid : Prop := runnerJustRow.holds Tryz.pinned (OpenSpec.ofChange runnerJustSpec)

/-- ITS FALSE NEIGHBOUR: 'it returns false'. Refute it at one input. -/
def runnerJustWrong : ChangeSpec := { name := "runnerJust", fn := fun _ => fun
  | [d1, d2, d3, d4] => { results := [.lit (.bool false)], args := [d1, d2, d3, d4] }
  | _ => none }
def RunnerJustWrongFalsely : Prop := runnerJustRow.holds Tryz.pinned (OpenSpec.ofChange runnerJustWrong)

/-- 'offshootlaw22.RunnerKills': WHATEVER THE INPUT: true; the input reads as it did. -/
def runnerKillsSpec : ChangeSpec := { name := "runnerKills", fn := fun _ => fun
  | [d1, d2, d3, d4, d5] => { results := [.lit (.bool true)], args := [d1, d2, d3, d4, d5] }
  | _ => none }
def runnerKillsRow : OpenClaim := { program := "ytkoikjnlpifbjaagreat", sum := "5753e0f01c4299bb8a30a03d34d392c739331cbd00656133cd0f8bed68985f8b", func := "offshoot/offshootlaw22.RunnerKills", spec := "runnerKills", inPlace := ["sync/atomic.LoadUint32", "(*internal/sync.Mutex).Lock", "internal/race.Disable", "sync/atomic.CompareAndSwapInt32", "internal/race.Enable", "internal/race.Acquire", "(*internal/sync.Mutex).lockSlow", "internal/sync.runtime_canSpin", "internal/sync.runtime_doSpin", "internal/sync.throw", "internal/sync.runtime_nanotime", "internal/sync.runtime_SemacquireMutex", "sync/atomic.AddInt32", "(*internal/sync.Mutex).Unlock", "internal/race.ReleaseMerge", "(*internal/sync.Mutex).unlockSlow", "internal/sync.fatal", "internal/sync.runtime_Semrelease", "sync/atomic.StoreUint32", "sync/atomic.LoadInt64", "slices.overlaps[offshoot/api.Node]", "sync/atomic.AddInt64"], unfollowed := true, recurses := true, apart := false }
def RunnerKillsSaid : Prop := runnerKillsRow.holds Tryz.pinned (OpenSpec.ofChange runnerKillsSpec)

/-- ITS FALSE NEIGHBOUR: 'it returns false'. Refute it at one input. -/
def runnerKillsWrong : ChangeSpec := { name := "runnerKills", fn := fun _ => fun
  | [d1, d2, d3, d4, d5] => { results := [.lit (.bool false)], args := [d1, d2, d3, d4, d5] }
  | _ => none }
def RunnerKillsWrongFalsely : Prop := runnerKillsRow.holds Tryz.pinned (OpenSpec.ofChange runnerKillsWrong)

/- THE SECOND FORM. 'bulk': how many values and letters a reading holds, each counted each time it is reached (what is shared counts as often as it is met; a slice's spare places count too). A statement '..UptoSaid' is the law's where the arguments, and the package variables that the reading takes, are together of bulk at most 1048576: NARROWER than '..Said'. Prove '..Said' where nothing that the law and all that it calls make is longer than what came in: it says more and counts as full. Else prove '..UptoSaid'. A law counts once. -/
mutual
def uptoBulk {H : Type} : DataW H → Nat
  | .lit (.string bytes) => bytes.length + 1
  | .lit _ => 1
  | .nil => 1
  | .ptr d => uptoBulk d + 1
  | .slice elems spare => uptoBulkAll elems + uptoBulkAll spare + 1
  | .agg parts => uptoBulkAll parts + 1
  | .iface _ d => uptoBulk d + 1
  | .map entries => uptoBulkEntries entries + 1
  | .held _ => 1
def uptoBulkAll {H : Type} : List (DataW H) → Nat
  | [] => 0
  | d :: r => uptoBulk d + uptoBulkAll r
def uptoBulkEntries {H : Type} : List (Lit × DataW H) → Nat
  | [] => 0
  | x :: r => uptoBulkEntry x + uptoBulkEntries r
def uptoBulkEntry {H : Type} : Lit × DataW H → Nat
  | (.string bytes, d) => bytes.length + uptoBulk d + 1
  | (_, d) => uptoBulk d + 1
 end
def uptoSmall : (H : Type) → List (DataW H) → Bool := fun _ ds => decide (uptoBulkAll ds ≤ 1048576)
def OpenSpec.upto (s : _root_.Go.ChangeSpec) : _root_.Go.OpenSpec := { _root_.Go.OpenSpec.ofChange s with cond := some uptoSmall }

/-- 'offshootlaw22.RunnerTurns', WHERE WHAT IT READS IS OF BULK AT MOST 1048576: true; the input reads as it did. -/
def runnerTurnsUptoRow : OpenClaim := { program := "ytkoikjnlpifbjaagreat", sum := "5753e0f01c4299bb8a30a03d34d392c739331cbd00656133cd0f8bed68985f8b", func := "offshoot/offshootlaw22.RunnerTurns", spec := "runnerTurns", inPlace := ["sync/atomic.LoadUint32", "(*internal/sync.Mutex).Lock", "internal/race.Disable", "sync/atomic.CompareAndSwapInt32", "internal/race.Enable", "internal/race.Acquire", "(*internal/sync.Mutex).lockSlow", "internal/sync.runtime_canSpin", "internal/sync.runtime_doSpin", "internal/sync.throw", "internal/sync.runtime_nanotime", "internal/sync.runtime_SemacquireMutex", "sync/atomic.AddInt32", "(*internal/sync.Mutex).Unlock", "internal/race.ReleaseMerge", "(*internal/sync.Mutex).unlockSlow", "internal/sync.fatal", "internal/sync.runtime_Semrelease", "sync/atomic.StoreUint32", "sync/atomic.LoadInt64", "slices.overlaps[offshoot/api.Node]", "sync/atomic.AddInt64"], unfollowed := true, recurses := true, apart := false, narrowed := true }
def RunnerTurnsUptoSaid : Prop := runnerTurnsUptoRow.holds Tryz.pinned (OpenSpec.upto runnerTurnsSpec)

/-- 'offshootlaw22.RunnerJust', WHERE WHAT IT READS IS OF BULK AT MOST 1048576: true; the input reads as it did. -/
def runnerJustUptoRow : OpenClaim := { program := "ytkoikjnlpifbjaagreat", sum := "5753e0f01c4299bb8a30a03d34d392c739331cbd00656133cd0f8bed68985f8b", func := "offshoot/offshootlaw22.RunnerJust", spec := "runnerJust", inPlace := ["sync/atomic.LoadUint32", "(*internal/sync.Mutex).Lock", "internal/race.Disable", "sync/atomic.CompareAndSwapInt32", "internal/race.Enable", "internal/race.Acquire", "(*internal/sync.Mutex).lockSlow", "internal/sync.runtime_canSpin", "internal/sync.runtime_doSpin", "internal/sync.throw", "internal/sync.runtime_nanotime", "internal/sync.runtime_SemacquireMutex", "sync/atomic.AddInt32", "(*internal/sync.Mutex).Unlock", "internal/race.ReleaseMerge", "(*internal/sync.Mutex).unlockSlow", "internal/sync.fatal", "internal/sync.runtime_Semrelease", "sync/atomic.StoreUint32", "sync/atomic.LoadInt64", "slices.overlaps[offshoot/api.Node]", "sync/atomic.AddInt64"], unfollowed := true, recurses := true, apart := false, narrowed := true }
def RunnerJustUptoSaid : Prop := runnerJustUptoRow.holds Tryz.pinned (OpenSpec.upto runnerJustSpec)

/-- 'offshootlaw22.RunnerKills', WHERE WHAT IT READS IS OF BULK AT MOST 1048576: true; the input reads as it did. -/
def runnerKillsUptoRow : OpenClaim := { program := "ytkoikjnlpifbjaagreat", sum := "5753e0f01c4299bb8a30a03d34d392c739331cbd00656133cd0f8bed68985f8b", func := "offshoot/offshootlaw22.RunnerKills", spec := "runnerKills", inPlace := ["sync/atomic.LoadUint32", "(*internal/sync.Mutex).Lock", "internal/race.Disable", "sync/atomic.CompareAndSwapInt32", "internal/race.Enable", "internal/race.Acquire", "(*internal/sync.Mutex).lockSlow", "internal/sync.runtime_canSpin", "internal/sync.runtime_doSpin", "internal/sync.throw", "internal/sync.runtime_nanotime", "internal/sync.runtime_SemacquireMutex", "sync/atomic.AddInt32", "(*internal/sync.Mutex).Unlock", "internal/race.ReleaseMerge", "(*internal/sync.Mutex).unlockSlow", "internal/sync.fatal", "internal/sync.runtime_Semrelease", "sync/atomic.StoreUint32", "sync/atomic.LoadInt64", "slices.overlaps[offshoot/api.Node]", "sync/atomic.AddInt64"], unfollowed := true, recurses := true, apart := false, narrowed := true }
def RunnerKillsUptoSaid : Prop := runnerKillsUptoRow.holds Tryz.pinned (OpenSpec.upto runnerKillsSpec)

end Rows
end Go.Proofs.YtkoikjnlpifbjaaGreat
