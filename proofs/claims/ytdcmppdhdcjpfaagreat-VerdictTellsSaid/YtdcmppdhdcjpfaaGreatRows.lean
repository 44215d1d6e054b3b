/-
  No cell of these rows narrows 'for every input' (looked for: loops, veiled, ifaces, maps, wideKeys, modest, calm, conditions, laid).
  DERIVED. THE GIVEN ROWS OF THIS SEAT. 12 by the template 'for every input the law returns true; each argument reads behind the call as it read before'; 0 by the template 'total and deterministic' (their statements: YtdcmppdhdcjpfaaGreatTotals.lean).
  GIVEN WITH THE SEED: the statements are not yours to turn. If you find one false, say at which input.
  Laid BY PROGRAM, IN A SANDBOX (cutbox-rows.mjs): the forced cells as the released guide's own fill.sh prints them over the translation aeb2a79254e66c23… (all of the seat's roots in one cut). By AI agents, Wed Nov 11 2026. No macro, syntax, notation, axiom, sorry.
-/
import Derived.Test.YtdcmppdhdcjpfaaGreatChecked
import GoSem.Claim
import GoSem.ClaimJoined
import GoSem.ClaimMapViews
import Derived.JoinedTies
import Derived.KernelRfl
namespace Go.Proofs.YtdcmppdhdcjpfaaGreat
/- THE CELL 'sum', in the pinned program and in every row, IS THE sha256 OF THE DUMP (.gsa) THAT YtdcmppdhdcjpfaaGreatProg.lean LOADS. Nothing in Lean hashes anything: it is a label: what it is worth is what the hold of that sum in a sandbox is worth. -/
noncomputable def Tryz.pinned : Pinned := { name := "ytdcmppdhdcjpfaagreat", sum := "aeb2a79254e66c231c398f364ec519258302e3f93cb2b8ba246bdb9ddb1fbe5a", checked := Tryz.checked }
namespace Rows
def none {H : Type} : Left H := { results := [], args := [] }

/-- 'offshootlaw17.DirectMutants': WHATEVER THE INPUT: true; the input reads as it did. -/
def directMutantsSpec : ChangeSpec := { name := "directMutants", fn := fun _ => fun
  | [d1, d2, d3, d4] => { results := [.lit (.bool true)], args := [d1, d2, d3, d4] }
  | _ => none }
def directMutantsRow : OpenClaim := { program := "ytdcmppdhdcjpfaagreat", sum := "aeb2a79254e66c231c398f364ec519258302e3f93cb2b8ba246bdb9ddb1fbe5a", func := "offshoot/offshootlaw17.DirectMutants", spec := "directMutants", inPlace := ["sync/atomic.LoadUint32", "(*internal/sync.Mutex).Lock", "internal/race.Disable", "sync/atomic.CompareAndSwapInt32", "internal/race.Enable", "internal/race.Acquire", "(*internal/sync.Mutex).lockSlow", "internal/sync.runtime_canSpin", "internal/sync.runtime_doSpin", "internal/sync.throw", "internal/sync.runtime_nanotime", "internal/sync.runtime_SemacquireMutex", "sync/atomic.AddInt32", "(*internal/sync.Mutex).Unlock", "internal/race.ReleaseMerge", "(*internal/sync.Mutex).unlockSlow", "internal/sync.fatal", "internal/sync.runtime_Semrelease", "sync/atomic.StoreUint32", "slices.overlaps[offshoot/api.Node]"], unfollowed := true, recurses := true, apart := false }
def DirectMutantsSaid : Prop := directMutantsRow.holds Tryz.pinned (OpenSpec.ofChange directMutantsSpec)

/-- ITS FALSE NEIGHBOUR: 'it returns false'. Refute it at one input. -/
def directMutantsWrong : ChangeSpec := { name := "directMutants", fn := fun _ => fun
  | [d1, d2, d3, d4] => { results := [.lit (.bool false)], args := [d1, d2, d3, d4] }
  | _ => none }
def DirectMutantsWrongFalsely : Prop := directMutantsRow.holds Tryz.pinned (OpenSpec.ofChange directMutantsWrong)

/-- 'offshootlaw19.VerdictTells': WHATEVER THE INPUT: true; the input reads as it did. -/
def verdictTellsSpec : ChangeSpec := { name := "verdictTells", fn := fun _ => fun
  | [d1, d2, d3, d4, d5] => { results := [.lit (.bool true)], args := [d1, d2, d3, d4, d5] }
  | _ => none }
def verdictTellsRow : OpenClaim := { program := "ytdcmppdhdcjpfaagreat", sum := "aeb2a79254e66c231c398f364ec519258302e3f93cb2b8ba246bdb9ddb1fbe5a", func := "offshoot/offshootlaw19.VerdictTells", spec := "verdictTells", inPlace := ["sync/atomic.LoadUint32", "(*internal/sync.Mutex).Lock", "internal/race.Disable", "sync/atomic.CompareAndSwapInt32", "internal/race.Enable", "internal/race.Acquire", "(*internal/sync.Mutex).lockSlow", "internal/sync.runtime_canSpin", "internal/sync.runtime_doSpin", "internal/sync.throw", "internal/sync.runtime_nanotime", "internal/sync.runtime_SemacquireMutex", "sync/atomic.AddInt32", "(*internal/sync.Mutex).Unlock", "internal/race.ReleaseMerge", "(*internal/sync.Mutex).unlockSlow", "internal/sync.fatal", "internal/sync.runtime_Semrelease", "sync/atomic.StoreUint32", "slices.overlaps[offshoot/api.Node]"], unfollowed := true, recurses := true, apart := false }
def VerdictTellsSaid : Prop := verdictTellsRow.holds Tryz.pinned (OpenSpec.ofChange verdictTellsSpec)

/-- ITS FALSE NEIGHBOUR: 'it returns false'. Refute it at one input. -/
def verdictTellsWrong : ChangeSpec := { name := "verdictTells", fn := fun _ => fun
  | [d1, d2, d3, d4, d5] => { results := [.lit (.bool false)], args := [d1, d2, d3, d4, d5] }
  | _ => none }
def VerdictTellsWrongFalsely : Prop := verdictTellsRow.holds Tryz.pinned (OpenSpec.ofChange verdictTellsWrong)

/-- 'offshootlaw19.VerdictJudges': WHATEVER THE INPUT: true; the input reads as it did. -/
def verdictJudgesSpec : ChangeSpec := { name := "verdictJudges", fn := fun _ => fun
  | [d1, d2, d3, d4] => { results := [.lit (.bool true)], args := [d1, d2, d3, d4] }
  | _ => none }
def verdictJudgesRow : OpenClaim := { program := "ytdcmppdhdcjpfaagreat", sum := "aeb2a79254e66c231c398f364ec519258302e3f93cb2b8ba246bdb9ddb1fbe5a", func := "offshoot/offshootlaw19.VerdictJudges", spec := "verdictJudges", inPlace := ["sync/atomic.LoadUint32", "(*internal/sync.Mutex).Lock", "internal/race.Disable", "sync/atomic.CompareAndSwapInt32", "internal/race.Enable", "internal/race.Acquire", "(*internal/sync.Mutex).lockSlow", "internal/sync.runtime_canSpin", "internal/sync.runtime_doSpin", "internal/sync.throw", "internal/sync.runtime_nanotime", "internal/sync.runtime_SemacquireMutex", "sync/atomic.AddInt32", "(*internal/sync.Mutex).Unlock", "internal/race.ReleaseMerge", "(*internal/sync.Mutex).unlockSlow", "internal/sync.fatal", "internal/sync.runtime_Semrelease", "sync/atomic.StoreUint32", "slices.overlaps[offshoot/api.Node]"], unfollowed := true, recurses := true, apart := false }
def VerdictJudgesSaid : Prop := verdictJudgesRow.holds Tryz.pinned (OpenSpec.ofChange verdictJudgesSpec)

/-- ITS FALSE NEIGHBOUR: 'it returns false'. Refute it at one input. -/
def verdictJudgesWrong : ChangeSpec := { name := "verdictJudges", fn := fun _ => fun
  | [d1, d2, d3, d4] => { results := [.lit (.bool false)], args := [d1, d2, d3, d4] }
  | _ => none }
def VerdictJudgesWrongFalsely : Prop := verdictJudgesRow.holds Tryz.pinned (OpenSpec.ofChange verdictJudgesWrong)

/-- 'offshootlaw19.VerdictMore': WHATEVER THE INPUT: true; the input reads as it did. -/
def verdictMoreSpec : ChangeSpec := { name := "verdictMore", fn := fun _ => fun
  | [d1, d2, d3, d4, d5] => { results := [.lit (.bool true)], args := [d1, d2, d3, d4, d5] }
  | _ => none }
def verdictMoreRow : OpenClaim := { program := "ytdcmppdhdcjpfaagreat", sum := "aeb2a79254e66c231c398f364ec519258302e3f93cb2b8ba246bdb9ddb1fbe5a", func := "offshoot/offshootlaw19.VerdictMore", spec := "verdictMore", inPlace := ["sync/atomic.LoadUint32", "(*internal/sync.Mutex).Lock", "internal/race.Disable", "sync/atomic.CompareAndSwapInt32", "internal/race.Enable", "internal/race.Acquire", "(*internal/sync.Mutex).lockSlow", "internal/sync.runtime_canSpin", "internal/sync.runtime_doSpin", "internal/sync.throw", "internal/sync.runtime_nanotime", "internal/sync.runtime_SemacquireMutex", "sync/atomic.AddInt32", "(*internal/sync.Mutex).Unlock", "internal/race.ReleaseMerge", "(*internal/sync.Mutex).unlockSlow", "internal/sync.fatal", "internal/sync.runtime_Semrelease", "sync/atomic.StoreUint32", "slices.overlaps[offshoot/api.Node]"], unfollowed := true, recurses := true, apart := false }
def VerdictMoreSaid : Prop := verdictMoreRow.holds Tryz.pinned (OpenSpec.ofChange verdictMoreSpec)

/-- ITS FALSE NEIGHBOUR: 'it returns false'. Refute it at one input. -/
def verdictMoreWrong : ChangeSpec := { name := "verdictMore", fn := fun _ => fun
  | [d1, d2, d3, d4, d5] => { results := [.lit (.bool false)], args := [d1, d2, d3, d4, d5] }
  | _ => none }
def VerdictMoreWrongFalsely : Prop := verdictMoreRow.holds Tryz.pinned (OpenSpec.ofChange verdictMoreWrong)

/-- 'offshootlaw19.VerdictOrder': WHATEVER THE INPUT: true; the input reads as it did. -/
def verdictOrderSpec : ChangeSpec := { name := "verdictOrder", fn := fun _ => fun
  | [d1, d2, d3, d4, d5, d6] => { results := [.lit (.bool true)], args := [d1, d2, d3, d4, d5, d6] }
  | _ => none }
def verdictOrderRow : OpenClaim := { program := "ytdcmppdhdcjpfaagreat", sum := "aeb2a79254e66c231c398f364ec519258302e3f93cb2b8ba246bdb9ddb1fbe5a", func := "offshoot/offshootlaw19.VerdictOrder", spec := "verdictOrder", inPlace := ["sync/atomic.LoadUint32", "(*internal/sync.Mutex).Lock", "internal/race.Disable", "sync/atomic.CompareAndSwapInt32", "internal/race.Enable", "internal/race.Acquire", "(*internal/sync.Mutex).lockSlow", "internal/sync.runtime_canSpin", "internal/sync.runtime_doSpin", "internal/sync.throw", "internal/sync.runtime_nanotime", "internal/sync.runtime_SemacquireMutex", "sync/atomic.AddInt32", "(*internal/sync.Mutex).Unlock", "internal/race.ReleaseMerge", "(*internal/sync.Mutex).unlockSlow", "internal/sync.fatal", "internal/sync.runtime_Semrelease", "sync/atomic.StoreUint32", "slices.overlaps[offshoot/api.Node]"], unfollowed := true, recurses := true, apart := false }
def VerdictOrderSaid : Prop := verdictOrderRow.holds Tryz.pinned (OpenSpec.ofChange verdictOrderSpec)

/-- ITS FALSE NEIGHBOUR: 'it returns false'. Refute it at one input. -/
def verdictOrderWrong : ChangeSpec := { name := "verdictOrder", fn := fun _ => fun
  | [d1, d2, d3, d4, d5, d6] => { results := [.lit (.bool false)], args := [d1, d2, d3, d4, d5, d6] }
  | _ => none }
def VerdictOrderWrongFalsely : Prop := verdictOrderRow.holds Tryz.pinned (OpenSpec.ofChange verdictOrderWrong)

/-- 'offshootlaw19.VerdictWitness': WHATEVER THE INPUT: true; the input reads as it did. -/
def verdictWitnessSpec : ChangeSpec := { name := "verdictWitness", fn := fun _ => fun
  | [d1, d2, d3, d4] => { results := [.lit (.bool true)], args := [d1, d2, d3, d4] }
  | _ => none }
def verdictWitnessRow : OpenClaim := { program := "ytdcmppdhdcjpfaagreat", sum := "aeb2a79254e66c231c398f364ec519258302e3f93cb2b8ba246bdb9ddb1fbe5a", func := "offshoot/offshootlaw19.VerdictWitness", spec := "verdictWitness", inPlace := ["sync/atomic.LoadUint32", "(*internal/sync.Mutex).Lock", "internal/race.Disable", "sync/atomic.CompareAndSwapInt32", "internal/race.Enable", "internal/race.Acquire", "(*internal/sync.Mutex).lockSlow", "internal/sync.runtime_canSpin", "internal/sync.runtime_doSpin", "internal/sync.throw", "internal/sync.runtime_nanotime", "internal/sync.runtime_SemacquireMutex", "sync/atomic.AddInt32", "(*internal/sync.Mutex).Unlock", "internal/race.ReleaseMerge", "(*internal/sync.Mutex).unlockSlow", "internal/sync.fatal", "internal/sync.runtime_Semrelease", "sync/atomic.StoreUint32", "slices.overlaps[offshoot/api.Node]"], unfollowed := true, recurses := true, apart := false }
def VerdictWitnessSaid : Prop := verdictWitnessRow.holds Tryz.pinned (OpenSpec.ofChange verdictWitnessSpec)

/-- ITS FALSE NEIGHBOUR: 'it returns false'. Refute it at one input. -/
def verdictWitnessWrong : ChangeSpec := { name := "verdictWitness", fn := fun _ => fun
  | [d1, d2, d3, d4] => { results := [.lit (.bool false)], args := [d1, d2, d3, d4] }
  | _ => none }
def VerdictWitnessWrongFalsely : Prop := verdictWitnessRow.holds Tryz.pinned (OpenSpec.ofChange verdictWitnessWrong)

/-- 'offshootlaw19.VerdictJust': WHATEVER THE INPUT: true; the input reads as it did. -/
def verdictJustSpec : ChangeSpec := { name := "verdictJust", fn := fun _ => fun
  | [d1, d2, d3, d4] => { results := [.lit (.bool true)], args := [d1, d2, d3, d4] }
  | _ => none }
def verdictJustRow : OpenClaim := { program := "ytdcmppdhdcjpfaagreat", sum := "aeb2a79254e66c231c398f364ec519258302e3f93cb2b8ba246bdb9ddb1fbe5a", func := "offshoot/offshootlaw19.VerdictJust", spec := "verdictJust", inPlace := ["sync/atomic.LoadUint32", "(*internal/sync.Mutex).Lock", "internal/race.Disable", "sync/atomic.CompareAndSwapInt32", "internal/race.Enable", "internal/race.Acquire", "(*internal/sync.Mutex).lockSlow", "internal/sync.runtime_canSpin", "internal/sync.runtime_doSpin", "internal/sync.throw", "internal/sync.runtime_nanotime", "internal/sync.runtime_SemacquireMutex", "sync/atomic.AddInt32", "(*internal/sync.Mutex).Unlock", "internal/race.ReleaseMerge", "(*internal/sync.Mutex).unlockSlow", "internal/sync.fatal", "internal/sync.runtime_Semrelease", "sync/atomic.StoreUint32", "slices.overlaps[offshoot/api.Node]"], unfollowed := true, recurses := true, apart := false }
def VerdictJustSaid : Prop := verdictJustRow.holds Tryz.pinned (OpenSpec.ofChange verdictJustSpec)

/-- ITS FALSE NEIGHBOUR: 'it returns false'. Refute it at one input. -/
def verdictJustWrong : ChangeSpec := { name := "verdictJust", fn := fun _ => fun
  | [d1, d2, d3, d4] => { results := [.lit (.bool false)], args := [d1, d2, d3, d4] }
  | _ => none }
def VerdictJustWrongFalsely : Prop := verdictJustRow.holds Tryz.pinned (OpenSpec.ofChange verdictJustWrong)

/-- 'offshootlaw22.RunnerRuns': WHATEVER THE INPUT: true; the input reads as it did. -/
def runnerRunsSpec : ChangeSpec := { name := "runnerRuns", fn := fun _ => fun
  | [d1, d2, d3] => { results := [.lit (.bool true)], args := [d1, d2, d3] }
  | _ => none }
def runnerRunsRow : OpenClaim := { program := "ytdcmppdhdcjpfaagreat", sum := "aeb2a79254e66c231c398f364ec519258302e3f93cb2b8ba246bdb9ddb1fbe5a", func := "offshoot/offshootlaw22.RunnerRuns", spec := "runnerRuns", inPlace := ["sync/atomic.LoadUint32", "(*internal/sync.Mutex).Lock", "internal/race.Disable", "sync/atomic.CompareAndSwapInt32", "internal/race.Enable", "internal/race.Acquire", "(*internal/sync.Mutex).lockSlow", "internal/sync.runtime_canSpin", "internal/sync.runtime_doSpin", "internal/sync.throw", "internal/sync.runtime_nanotime", "internal/sync.runtime_SemacquireMutex", "sync/atomic.AddInt32", "(*internal/sync.Mutex).Unlock", "internal/race.ReleaseMerge", "(*internal/sync.Mutex).unlockSlow", "internal/sync.fatal", "internal/sync.runtime_Semrelease", "sync/atomic.StoreUint32", "sync/atomic.LoadInt64", "slices.overlaps[offshoot/api.Node]", "sync/atomic.AddInt64"], unfollowed := true, recurses := true, apart := false }
def RunnerRunsSaid : Prop := runnerRunsRow.holds Tryz.pinned (OpenSpec.ofChange runnerRunsSpec)

/-- ITS FALSE NEIGHBOUR: 'it returns false'. Refute it at one input. -/
def runnerRunsWrong : ChangeSpec := { name := "runnerRuns", fn := fun _ => fun
  | [d1, d2, d3] => { results := [.lit (.bool false)], args := [d1, d2, d3] }
  | _ => none }
def RunnerRunsWrongFalsely : Prop := runnerRunsRow.holds Tryz.pinned (OpenSpec.ofChange runnerRunsWrong)

/-- 'offshootlaw22.RunnerSteps': WHATEVER THE INPUT: true; the input reads as it did. -/
def runnerStepsSpec : ChangeSpec := { name := "runnerSteps", fn := fun _ => fun
  | [d1, d2, d3, d4] => { results := [.lit (.bool true)], args := [d1, d2, d3, d4] }
  | _ => none }
def runnerStepsRow : OpenClaim := { program := "ytdcmppdhdcjpfaagreat", sum := "aeb2a79254e66c231c398f364ec519258302e3f93cb2b8ba246bdb9ddb1fbe5a", func := "offshoot/offshootlaw22.RunnerSteps", spec := "runnerSteps", inPlace := ["sync/atomic.LoadUint32", "(*internal/sync.Mutex).Lock", "internal/race.Disable", "sync/atomic.CompareAndSwapInt32", "internal/race.Enable", "internal/race.Acquire", "(*internal/sync.Mutex).lockSlow", "internal/sync.runtime_canSpin", "internal/sync.runtime_doSpin", "internal/sync.throw", "internal/sync.runtime_nanotime", "internal/sync.runtime_SemacquireMutex", "sync/atomic.AddInt32", "(*internal/sync.Mutex).Unlock", "internal/race.ReleaseMerge", "(*internal/sync.Mutex).unlockSlow", "internal/sync.fatal", "internal/sync.runtime_Semrelease", "sync/atomic.StoreUint32", "sync/atomic.LoadInt64", "slices.overlaps[offshoot/api.Node]", "sync/atomic.AddInt64"], unfollowed := true, recurses := true, apart := false }
def RunnerStepsSaid : Prop := runnerStepsRow.holds Tryz.pinned (OpenSpec.ofChange runnerStepsSpec)

/-- ITS FALSE NEIGHBOUR: 'it returns false'. Refute it at one input. -/
def runnerStepsWrong : ChangeSpec := { name := "runnerSteps", fn := fun _ => fun
  | [d1, d2, d3, d4] => { results := [.lit (.bool false)], args := [d1, d2, d3, d4] }
  | _ => none }
def RunnerStepsWrongFalsely : Prop := runnerStepsRow.holds Tryz.pinned (OpenSpec.ofChange runnerStepsWrong)

/-- 'offshootlaw22.RunnerTurns': WHATEVER THE INPUT: true; the input reads as it did. -/
def runnerTurnsSpec : ChangeSpec := { name := "runnerTurns", fn := fun _ => fun
  | [d1, d2, d3, d4, d5, d6] => { results := [.lit (.bool true)], args := [d1, d2, d3, d4, d5, d6] }
  | _ => none }
def runnerTurnsRow : OpenClaim := { program := "ytdcmppdhdcjpfaagreat", sum := "aeb2a79254e66c231c398f364ec519258302e3f93cb2b8ba246bdb9ddb1fbe5a", func := "offshoot/offshootlaw22.RunnerTurns", spec := "runnerTurns", inPlace := ["sync/atomic.LoadUint32", "(*internal/sync.Mutex).Lock", "internal/race.Disable", "sync/atomic.CompareAndSwapInt32", "internal/race.Enable", "internal/race.Acquire", "(*internal/sync.Mutex).lockSlow", "internal/sync.runtime_canSpin", "internal/sync.runtime_doSpin", "internal/sync.throw", "internal/sync.runtime_nanotime", "internal/sync.runtime_SemacquireMutex", "sync/atomic.AddInt32", "(*internal/sync.Mutex).Unlock", "internal/race.ReleaseMerge", "(*internal/sync.Mutex).unlockSlow", "internal/sync.fatal", "internal/sync.runtime_Semrelease", "sync/atomic.StoreUint32", "sync/atomic.LoadInt64", "slices.overlaps[offshoot/api.Node]", "sync/atomic.AddInt64"], unfollowed := true, recurses := true, apart := false }
def RunnerTurnsSaid : Prop := runnerTurnsRow.holds Tryz.pinned (OpenSpec.ofChange runnerTurnsSpec)

/-- ITS FALSE NEIGHBOUR: 'it returns false'. Refute it at one input. -/
def runnerTurnsWrong : ChangeSpec := { name := "runnerTurns", fn := fun _ => fun
  | [d1, d2, d3, d4, d5, d6] => { results := [.lit (.bool false)], args := [d1, d2, d3, d4, d5, d6] }
  | _ => none }
def RunnerTurnsWrongFalsely : Prop := runnerTurnsRow.holds Tryz.pinned (OpenSpec.ofChange runnerTurnsWrong)

/-- 'offshootlaw22.RunnerJust': WHATEVER THE INPUT: true; the input reads as it did. -/
def runnerJustSpec : ChangeSpec := { name := "runnerJust", fn := fun _ => fun
  | [d1, d2, d3, d4] => { results := [.lit (.bool true)], args := [d1, d2, d3, d4] }
  | _ => none }
def runnerJustRow : OpenClaim := { program := "ytdcmppdhdcjpfaagreat", sum := "aeb2a79254e66c231c398f364ec519258302e3f93cb2b8ba246bdb9ddb1fbe5a", func := "offshoot/offshootlaw22.RunnerJust", spec := "runnerJust", inPlace := ["sync/atomic.LoadUint32", "(*internal/sync.Mutex).Lock", "internal/race.Disable", "sync/atomic.CompareAndSwapInt32", "internal/race.Enable", "internal/race.Acquire", "(*internal/sync.Mutex).lockSlow", "internal/sync.runtime_canSpin", "internal/sync.runtime_doSpin", "internal/sync.throw", "internal/sync.runtime_nanotime", "internal/sync.runtime_SemacquireMutex", "sync/atomic.AddInt32", "(*internal/sync.Mutex).Unlock", "internal/race.ReleaseMerge", "(*internal/sync.Mutex).unlockSlow", "internal/sync.fatal", "internal/sync.runtime_Semrelease", "sync/atomic.StoreUint32", "sync/atomic.LoadInt64", "slices.overlaps[offshoot/api.Node]", "sync/atomic.AddInt64"], unfollowed := true, recurses := true, apart := false }
def RunnerJustSaid : Prop := runnerJustRow.holds Tryz.pinned (OpenSpec.ofChange runnerJustSpec)

/-- ITS FALSE NEIGHBOUR: 'it returns false'. Refute it at one input. -/
def runnerJustWrong : ChangeSpec := { name := "runnerJust", fn := fun _ => fun
  | [d1, d2, d3, d4] => { results := [.lit (.bool false)], args := [d1, d2, d3, d4] }
  | _ => none }
def RunnerJustWrongFalsely : Prop := runnerJustRow.holds Tryz.pinned (OpenSpec.ofChange runnerJustWrong)

/-- 'offshootlaw22.RunnerKills': WHATEVER THE INPUT: true; the input reads as it did. -/
def runnerKillsSpec : ChangeSpec := { name := "runnerKills", fn := fun _ => fun
  | [d1, d2, d3, d4, d5] => { results := [.lit (.bool true)], args := [d1, d2, d3, d4, d5] }
  | _ => none }
def runnerKillsRow : OpenClaim := { program := "ytdcmppdhdcjpfaagreat", sum := "aeb2a79254e66c231c398f364ec519258302e3f93cb2b8ba246bdb9ddb1fbe5a", func := "offshoot/offshootlaw22.RunnerKills", spec := "runnerKills", inPlace := ["sync/atomic.LoadUint32", "(*internal/sync.Mutex).Lock", "internal/race.Disable", "sync/atomic.CompareAndSwapInt32", "internal/race.Enable", "internal/race.Acquire", "(*internal/sync.Mutex).lockSlow", "internal/sync.runtime_canSpin", "internal/sync.runtime_doSpin", "internal/sync.throw", "internal/sync.runtime_nanotime", "internal/sync.runtime_SemacquireMutex", "sync/atomic.AddInt32", "(*internal/sync.Mutex).Unlock", "internal/race.ReleaseMerge", "(*internal/sync.Mutex).unlockSlow", "internal/sync.fatal", "internal/sync.runtime_Semrelease", "sync/atomic.StoreUint32", "sync/atomic.LoadInt64", "slices.overlaps[offshoot/api.Node]", "sync/atomic.AddInt64"], unfollowed := true, recurses := true, apart := false }
def RunnerKillsSaid : Prop := runnerKillsRow.holds Tryz.pinned (OpenSpec.ofChange runnerKillsSpec)

/-- ITS FALSE NEIGHBOUR: 'it returns false'. Refute it at one input. -/
def runnerKillsWrong : ChangeSpec := { name := "runnerKills", fn := fun _ => fun
  | [d1, d2, d3, d4, d5] => { results := [.lit (.bool false)], args := [d1, d2, d3, d4, d5] }
  | _ => none }
def RunnerKillsWrongFalsely : Prop := runnerKillsRow.holds Tryz.pinned (OpenSpec.ofChange runnerKillsWrong)

/- THE SECOND FORM. 'bulk': how many values and letters a reading holds, each counted each time it is reached (what is shared counts as often as it is met; a slice's spare places count too). A statement '..UptoSaid' is the law's where the arguments, and the package variables that the reading takes, are together of bulk at most 1048576: NARROWER than '..Said'. Prove '..Said' where nothing that the law and all that it calls make is longer than what came in: it says more and counts as full. Else prove '..UptoSaid'. A law counts once. -/
mutual
def uptoBulk {H : Type} : DataW H → Nat
  | .lit (.string bytes) => bytes.length + 1
  | .lit _ => 1
  | .nil => 1
  | .ptr d => uptoBulk d + 1
  | .slice elems spare => uptoBulkAll elems + uptoBulkAll spare + 1
  | .agg parts => uptoBulkAll parts + 1
  | .iface _ d => uptoBulk d + 1
  | .map entries => uptoBulkEntries entries + 1
  | .held _ => 1
def uptoBulkAll {H : Type} : List (DataW H) → Nat
  | [] => 0
  | d :: r => uptoBulk d + uptoBulkAll r
def uptoBulkEntries {H : Type} : List (Lit × DataW H) → Nat
  | [] => 0
  | x :: r => uptoBulkEntry x + uptoBulkEntries r
def uptoBulkEntry {H : Type} : Lit × DataW H → Nat
  | (.string bytes, d) => bytes.length + uptoBulk d + 1
  | (_, d) => uptoBulk d + 1
 end
def uptoSmall : (H : Type) → List (DataW H) → Bool := fun _ ds => decide (uptoBulkAll ds ≤ 1048576)
def OpenSpec.upto (s : _root_.Go.ChangeSpec) : _root_.Go.OpenSpec := { _root_.Go.OpenSpec.ofChange s with cond := some uptoSmall }

/-- 'offshootlaw17.DirectMutants', WHERE WHAT IT READS IS OF BULK AT MOST 1048576: true; the input reads as it did. -/
def directMutantsUptoRow : OpenClaim := { program := "ytdcmppdhdcjpfaagreat", sum := "aeb2a79254e66c231c398f364ec519258302e3f93cb2b8ba246bdb9ddb1fbe5a", func := "offshoot/offshootlaw17.DirectMutants", spec := "directMutants", inPlace := ["sync/atomic.LoadUint32", "(*internal/sync.Mutex).Lock", "internal/race.Disable", "sync/atomic.CompareAndSwapInt32", "internal/race.Enable", "internal/race.Acquire", "(*internal/sync.Mutex).lockSlow", "internal/sync.runtime_canSpin", "internal/sync.runtime_doSpin", "internal/sync.throw", "internal/sync.runtime_nanotime", "internal/sync.runtime_SemacquireMutex", "sync/atomic.AddInt32", "(*internal/sync.Mutex).Unlock", "internal/race.ReleaseMerge", "(*internal/sync.Mutex).unlockSlow", "internal/sync.fatal", "internal/sync.runtime_Semrelease", "sync/atomic.StoreUint32", "slices.overlaps[offshoot/api.Node]"], unfollowed := true, recurses := true, apart := false, narrowed := true }
def DirectMutantsUptoSaid : Prop := directMutantsUptoRow.holds Tryz.pinned (OpenSpec.upto directMutantsSpec)

/-- 'offshootlaw19.VerdictTells', WHERE WHAT IT READS IS OF BULK AT MOST 1048576: true; the input reads as it did. -/
def verdictTellsUptoRow : OpenClaim := { program := "ytdcmppdhdcjpfaagreat", sum := "aeb2a79254e66c231c398f364ec519258302e3f93cb2b8ba246bdb9ddb1fbe5a", func := "offshoot/offshootlaw19.VerdictTells", spec := "verdictTells", inPlace := ["sync/atomic.LoadUint32", "(*internal/sync.Mutex).Lock", "internal/race.Disable", "sync/atomic.CompareAndSwapInt32", "internal/race.Enable", "internal/race.Acquire", "(*internal/sync.Mutex).lockSlow", "internal/sync.runtime_canSpin", "internal/sync.runtime_doSpin", "internal/sync.throw", "internal/sync.runtime_nanotime", "internal/sync.runtime_SemacquireMutex", "sync/atomic.AddInt32", "(*internal/sync.Mutex).Unlock", "internal/race.ReleaseMerge", "(*internal/sync.Mutex).unlockSlow", "internal/sync.fatal", "internal/sync.runtime_Semrelease", "sync/atomic.StoreUint32", "slices.overlaps[offshoot/api.Node]"], unfollowed := true, recurses := true, apart := false, narrowed := true }
def VerdictTellsUptoSaid : Prop := verdictTellsUptoRow.holds Tryz.pinned (OpenSpec.upto verdictTellsSpec)

/-- 'offshootlaw19.VerdictJudges', WHERE WHAT IT READS IS OF BULK AT MOST 1048576: true; the input reads as it did. -/
def verdictJudgesUptoRow : OpenClaim := { program := "ytdcmppdhdcjpfaagreat", sum := "aeb2a79254e66c231c398f364ec519258302e3f93cb2b8ba246bdb9ddb1fbe5a", func := "offshoot/offshootlaw19.VerdictJudges", spec := "verdictJudges", inPlace := ["sync/atomic.LoadUint32", "(*internal/sync.Mutex).Lock", "internal/race.Disable", "sync/atomic.CompareAndSwapInt32", "internal/race.Enable", "internal/race.Acquire", "(*internal/sync.Mutex).lockSlow", "internal/sync.runtime_canSpin", "internal/sync.runtime_doSpin", "internal/sync.throw", "internal/sync.runtime_nanotime", "internal/sync.runtime_SemacquireMutex", "sync/atomic.AddInt32", "(*internal/sync.Mutex).Unlock", "internal/race.ReleaseMerge", "(*internal/sync.Mutex).unlockSlow", "internal/sync.fatal", "internal/sync.runtime_Semrelease", "sync/atomic.StoreUint32", "slices.overlaps[offshoot/api.Node]"], unfollowed := true, recurses := true, apart := false, narrowed := true }
def VerdictJudgesUptoSaid : Prop := verdictJudgesUptoRow.holds Tryz.pinned (OpenSpec.upto verdictJudgesSpec)

/-- 'offshootlaw19.VerdictMore', WHERE WHAT IT READS IS OF BULK AT MOST 1048576: true; the input reads as it did. -/
def verdictMoreUptoRow : OpenClaim := { program := "ytdcmppdhdcjpfaagreat", sum := "aeb2a79254e66c231c398f364ec519258302e3f93cb2b8ba246bdb9ddb1fbe5a", func := "offshoot/offshootlaw19.VerdictMore", spec := "verdictMore", inPlace := ["sync/atomic.LoadUint32", "(*internal/sync.Mutex).Lock", "internal/race.Disable", "sync/atomic.CompareAndSwapInt32", "internal/race.Enable", "internal/race.Acquire", "(*internal/sync.Mutex).lockSlow", "internal/sync.runtime_canSpin", "internal/sync.runtime_doSpin", "internal/sync.throw", "internal/sync.runtime_nanotime", "internal/sync.runtime_SemacquireMutex", "sync/atomic.AddInt32", "(*internal/sync.Mutex).Unlock", "internal/race.ReleaseMerge", "(*internal/sync.Mutex).unlockSlow", "internal/sync.fatal", "internal/sync.runtime_Semrelease", "sync/atomic.StoreUint32", "slices.overlaps[offshoot/api.Node]"], unfollowed := true, recurses := true, apart := false, narrowed := true }
def VerdictMoreUptoSaid : Prop := verdictMoreUptoRow.holds Tryz.pinned (OpenSpec.upto verdictMoreSpec)

/-- 'offshootlaw19.VerdictOrder', WHERE WHAT IT READS IS OF BULK AT MOST 1048576: true; the input reads as it did. -/
def verdictOrderUptoRow : OpenClaim := { program := "ytdcmppdhdcjpfaagreat", sum := "aeb2a79254e66c231c398f364ec519258302e3f93cb2b8ba246bdb9ddb1fbe5a", func := "offshoot/offshootlaw19.VerdictOrder", spec := "verdictOrder", inPlace := ["sync/atomic.LoadUint32", "(*internal/sync.Mutex).Lock", "internal/race.Disable", "sync/atomic.CompareAndSwapInt32", "internal/race.Enable", "internal/race.Acquire", "(*internal/sync.Mutex).lockSlow", "internal/sync.runtime_canSpin", "internal/sync.runtime_doSpin", "internal/sync.throw", "internal/sync.runtime_nanotime", "internal/sync.runtime_SemacquireMutex", "sync/atomic.AddInt32", "(*internal/sync.Mutex).Unlock", "internal/race.ReleaseMerge", "(*internal/sync.Mutex).unlockSlow", "internal/sync.fatal", "internal/sync.runtime_Semrelease", "sync/atomic.StoreUint32", "slices.overlaps[offshoot/api.Node]"], unfollowed := true, recurses := true, apart := false, narrowed := true }
def VerdictOrderUptoSaid : Prop := verdictOrderUptoRow.holds Tryz.pinned (OpenSpec.upto verdictOrderSpec)

/-- 'offshootlaw19.VerdictWitness', WHERE WHAT IT READS IS OF BULK AT MOST 1048576: true; the input reads as it did. -/
def verdictWitnessUptoRow : OpenClaim := { program := "ytdcmppdhdcjpfaagreat", sum := "aeb2a79254e66c231c398f364ec519258302e3f93cb2b8ba246bdb9ddb1fbe5a", func := "offshoot/offshootlaw19.VerdictWitness", spec := "verdictWitness", inPlace := ["sync/atomic.LoadUint32", "(*internal/sync.Mutex).Lock", "internal/race.Disable", "sync/atomic.CompareAndSwapInt32", "internal/race.Enable", "internal/race.Acquire", "(*internal/sync.Mutex).lockSlow", "internal/sync.runtime_canSpin", "internal/sync.runtime_doSpin", "internal/sync.throw", "internal/sync.runtime_nanotime", "internal/sync.runtime_SemacquireMutex", "sync/atomic.AddInt32", "(*internal/sync.Mutex).Unlock", "internal/race.ReleaseMerge", "(*internal/sync.Mutex).unlockSlow", "internal/sync.fatal", "internal/sync.runtime_Semrelease", "sync/atomic.StoreUint32", "slices.overlaps[offshoot/api.Node]"], unfollowed := true, recurses := true, apart := false, narrowed := true }
def VerdictWitnessUptoSaid : Prop := verdictWitnessUptoRow.holds Tryz.pinned (OpenSpec.upto verdictWitnessSpec)

/-- 'offshootlaw19.VerdictJust', WHERE WHAT IT READS IS OF BULK AT MOST 1048576: true; the input reads as it did. -/
def verdictJustUptoRow : OpenClaim := { program := "ytdcmppdhdcjpfaagreat", sum := "aeb2a79254e66c231c398f364ec519258302e3f93cb2b8ba246bdb9ddb1fbe5a", func := "offshoot/offshootlaw19.VerdictJust", spec := "verdictJust", inPlace := ["sync/atomic.LoadUint32", "(*internal/sync.Mutex).Lock", "internal/race.Disable", "sync/atomic.CompareAndSwapInt32", "internal/race.Enable", "internal/race.Acquire", "(*internal/sync.Mutex).lockSlow", "internal/sync.runtime_canSpin", "internal/sync.runtime_doSpin", "internal/sync.throw", "internal/sync.runtime_nanotime", "internal/sync.runtime_SemacquireMutex", "sync/atomic.AddInt32", "(*internal/sync.Mutex).Unlock", "internal/race.ReleaseMerge", "(*internal/sync.Mutex).unlockSlow", "internal/sync.fatal", "internal/sync.runtime_Semrelease", "sync/atomic.StoreUint32", "slices.overlaps[offshoot/api.Node]"], unfollowed := true, recurses := true, apart := false, narrowed := true }
def VerdictJustUptoSaid : Prop := verdictJustUptoRow.holds Tryz.pinned (OpenSpec.upto verdictJustSpec)

/-- 'offshootlaw22.RunnerRuns', WHERE WHAT IT READS IS OF BULK AT MOST 1048576: true; the input reads as it did. -/
def runnerRunsUptoRow : OpenClaim := { program := "ytdcmppdhdcjpfaagreat", sum := "aeb2a79254e66c231c398f364ec519258302e3f93cb2b8ba246bdb9ddb1fbe5a", func := "offshoot/offshootlaw22.RunnerRuns", spec := "runnerRuns", inPlace := ["sync/atomic.LoadUint32", "(*internal/sync.Mutex).Lock", "internal/race.Disable", "sync/atomic.CompareAndSwapInt32", "internal/race.Enable", "internal/race.Acquire", "(*internal/sync.Mutex).lockSlow", "internal/sync.runtime_canSpin", "internal/sync.runtime_doSpin", "internal/sync.throw", "internal/sync.runtime_nanotime", "internal/sync.runtime_SemacquireMutex", "sync/atomic.AddInt32", "(*internal/sync.Mutex).Unlock", "internal/race.ReleaseMerge", "(*internal/sync.Mutex).unlockSlow", "internal/sync.fatal", "internal/sync.runtime_Semrelease", "sync/atomic.StoreUint32", "sync/atomic.LoadInt64", "slices.overlaps[offshoot/api.Node]", "sync/atomic.AddInt64"], unfollowed := true, recurses := true, apart := false, narrowed := true }
def RunnerRunsUptoSaid : Prop := runnerRunsUptoRow.holds Tryz.pinned (OpenSpec.upto runnerRunsSpec)

/-- 'offshootlaw22.RunnerSteps', WHERE WHAT IT READS IS OF BULK AT MOST 1048576: true; the input reads as it did. -/
def runnerStepsUptoRow : OpenClaim := { program := "ytdcmppdhdcjpfaagreat", sum := "aeb2a79254e66c231c398f364ec519258302e3f93cb2b8ba246bdb9ddb1fbe5a", func := "offshoot/offshootlaw22.RunnerSteps", spec := "runnerSteps", inPlace := ["sync/atomic.LoadUint32", "(*internal/sync.Mutex).Lock", "internal/race.Disable", "sync/atomic.CompareAndSwapInt32", "internal/race.Enable", "internal/race.Acquire", "(*internal/sync.Mutex).lockSlow", "internal/sync.runtime_canSpin", "internal/sync.runtime_doSpin", "internal/sync.throw", "internal/sync.runtime_nanotime", "internal/sync.runtime_SemacquireMutex", "sync/atomic.AddInt32", "(*internal/sync.Mutex).Unlock", "internal/race.ReleaseMerge", "(*internal/sync.Mutex).unlockSlow", "internal/sync.fatal", "internal/sync.runtime_Semrelease", "sync/atomic.StoreUint32", "sync/atomic.LoadInt64", "slices.overlaps[offshoot/api.Node]", "sync/atomic.AddInt64"], unfollowed := true, recurses := true, apart := false, narrowed := true }
def RunnerStepsUptoSaid : Prop := runnerStepsUptoRow.holds Tryz.pinned (OpenSpec.upto runnerStepsSpec)

/-- 'offshootlaw22.RunnerTurns', WHERE WHAT IT READS IS OF BULK AT MOST 1048576: true; the input reads as it did. -/
def runnerTurnsUptoRow : OpenClaim := { program := "ytdcmppdhdcjpfaagreat", sum := "aeb2a79254e66c231c398f364ec519258302e3f93cb2b8ba246bdb9ddb1fbe5a", func := "offshoot/offshootlaw22.RunnerTurns", spec := "runnerTurns", inPlace := ["sync/atomic.LoadUint32", "(*internal/sync.Mutex).Lock", "internal/race.Disable", "sync/atomic.CompareAndSwapInt32", "internal/race.Enable", "internal/race.Acquire", "(*internal/sync.Mutex).lockSlow", "internal/sync.runtime_canSpin", "internal/sync.runtime_doSpin", "internal/sync.throw", "internal/sync.runtime_nanotime", "internal/sync.runtime_SemacquireMutex", "sync/atomic.AddInt32", "(*internal/sync.Mutex).Unlock", "internal/race.ReleaseMerge", "(*internal/sync.Mutex).unlockSlow", "internal/sync.fatal", "internal/sync.runtime_Semrelease", "sync/atomic.StoreUint32", "sync/atomic.LoadInt64", "slices.overlaps[offshoot/api.Node]", "sync/atomic.AddInt64"], unfollowed := true, recurses := true, apart := false, narrowed := true }
def RunnerTurnsUptoSaid : Prop := runnerTurnsUptoRow.holds Tryz.pinned (OpenSpec.upto runnerTurnsSpec)

/-- 'offshootlaw22.RunnerJust', WHERE WHAT IT READS IS OF BULK AT MOST 1048576: true; the input reads as it did. -/
def runnerJustUptoRow : OpenClaim := { program := "ytdcmppdhdcjpfaagreat", sum := "aeb2a79254e66c231c398f364ec519258302e3f93cb2b8ba246bdb9ddb1fbe5a", func := "offshoot/offshootlaw22.RunnerJust", spec := "runnerJust", inPlace := ["sync/atomic.LoadUint32", "(*internal/sync.Mutex).Lock", "internal/race.Disable", "sync/atomic.CompareAndSwapInt32", "internal/race.Enable", "internal/race.Acquire", "(*internal/sync.Mutex).lockSlow", "internal/sync.runtime_canSpin", "internal/sync.runtime_doSpin", "internal/sync.throw", "internal/sync.runtime_nanotime", "internal/sync.runtime_SemacquireMutex", "sync/atomic.AddInt32", "(*internal/sync.Mutex).Unlock", "internal/race.ReleaseMerge", "(*internal/sync.Mutex).unlockSlow", "internal/sync.fatal", "internal/sync.runtime_Semrelease", "sync/atomic.StoreUint32", "sync/atomic.LoadInt64", "slices.overlaps[offshoot/api.Node]", "sync/atomic.AddInt64"], unfollowed := true, recurses := true, apart := false, narrowed := true }
def RunnerJustUptoSaid : Prop := runnerJustUptoRow.holds Tryz.pinned (OpenSpec.upto runnerJustSpec)

/-- 'offshootlaw22.RunnerKills', WHERE WHAT IT READS IS OF BULK AT MOST 1048576: true; the input reads as it did. -/
def runnerKillsUptoRow : OpenClaim := { program := "ytdcmppdhdcjpfaagreat", sum := "aeb2a79254e66c231c398f364ec519258302e3f93cb2b8ba246bdb9ddb1fbe5a", func := "offshoot/offshootlaw22.RunnerKills", spec := "runnerKills", inPlace := ["sync/atomic.LoadUint32", "(*internal/sync.Mutex).Lock", "internal/race.Disable", "sync/atomic.CompareAndSwapInt32", "internal/race.Enable", "internal/race.Acquire", "(*internal/sync.Mutex).lockSlow", "internal/sync.runtime_canSpin", "internal/sync.runtime_doSpin", "internal/sync.throw", "internal/sync.runtime_nanotime", "internal/sync.runtime_SemacquireMutex", "sync/atomic.AddInt32", "(*internal/sync.Mutex).Unlock", "internal/race.ReleaseMerge", "(*internal/sync.Mutex).unlockSlow", "internal/sync.fatal", "internal/sync.runtime_Semrelease", "sync/atomic.StoreUint32", "sync/atomic.LoadInt64", "slices.overlaps[offshoot/api.Node]", "sync/atomic.AddInt64"], unfollowed := true, recurses := true, apart := false, narrowed := true }
def RunnerKillsUptoSaid : Prop := runnerKillsUptoRow.holds Tryz.pinned (OpenSpec.upto runnerKillsSpec)

end Rows
end Go.Proofs.YtdcmppdhdcjpfaaGreat
