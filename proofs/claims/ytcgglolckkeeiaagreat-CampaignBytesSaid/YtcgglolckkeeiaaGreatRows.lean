/-
  No cell of these rows narrows 'for every input' (looked for: loops, veiled, ifaces, maps, wideKeys, modest, calm, conditions, laid).
  DERIVED. THE GIVEN ROWS OF THIS SEAT. 12 by the template 'for every input the law returns true; each argument reads behind the call as it read before'; 0 by the template 'total and deterministic' (their statements: YtcgglolckkeeiaaGreatTotals.lean).
  GIVEN WITH THE SEED: the statements are not yours to turn. If you find one false, say at which input.
  Laid BY PROGRAM, IN A SANDBOX (cutbox-rows.mjs): the forced cells as the released guide's own fill.sh prints them over the translation ec05ae2d8e8f617d… (all of the seat's roots in one cut). By AI agents, Wed Nov 11 2026. No macro, syntax, notation, axiom, sorry.
-/
import Derived.Test.YtcgglolckkeeiaaGreatChecked
import GoSem.Claim
import GoSem.ClaimJoined
import GoSem.ClaimMapViews
import Derived.JoinedTies
import Derived.KernelRfl
namespace Go.Proofs.YtcgglolckkeeiaaGreat
/- THE CELL 'sum', in the pinned program and in every row, IS THE sha256 OF THE DUMP (.gsa) THAT YtcgglolckkeeiaaGreatProg.lean LOADS. Nothing in Lean hashes anything: it is a label: what it is worth is what the hold of that sum in a sandbox is worth. -/
noncomputable def Tryz.pinned : Pinned := { name := "ytcgglolckkeeiaagreat", sum := "ec05ae2d8e8f617d56e2baf6656d06312620c2e1238bfcece07b13449b654195", checked := Tryz.checked }
namespace Rows
def none {H : Type} : Left H := { results := [], args := [] }

/-- 'offshootlaw25.JoinMerges': WHATEVER THE INPUT: true; the input reads as it did. -/
def joinMergesSpec : ChangeSpec := { name := "joinMerges", fn := fun _ => fun
  | [d1, d2] => { results := [.lit (.bool true)], args := [d1, d2] }
  | _ => none }
def joinMergesRow : OpenClaim := { program := "ytcgglolckkeeiaagreat", sum := "ec05ae2d8e8f617d56e2baf6656d06312620c2e1238bfcece07b13449b654195", func := "offshoot/offshootlaw25.JoinMerges", spec := "joinMerges", inPlace := ["sync/atomic.LoadUint32", "(*internal/sync.Mutex).Lock", "internal/race.Disable", "sync/atomic.CompareAndSwapInt32", "internal/race.Enable", "internal/race.Acquire", "(*internal/sync.Mutex).lockSlow", "internal/sync.runtime_canSpin", "internal/sync.runtime_doSpin", "internal/sync.throw", "internal/sync.runtime_nanotime", "internal/sync.runtime_SemacquireMutex", "sync/atomic.AddInt32", "(*internal/sync.Mutex).Unlock", "internal/race.ReleaseMerge", "(*internal/sync.Mutex).unlockSlow", "internal/sync.fatal", "internal/sync.runtime_Semrelease", "sync/atomic.StoreUint32"], unfollowed := true, recurses := true, apart := false }
def JoinMergesSaid : Prop := joinMergesRow.holds Tryz.pinned (OpenSpec.ofChange joinMergesSpec)

/-- ITS FALSE NEIGHBOUR: 'it returns false'. Refute it at one input. -/
def joinMergesWrong : ChangeSpec := { name := "joinMerges", fn := fun _ => fun
  | [d1, d2] => { results := [.lit (.bool false)], args := [d1, d2] }
  | _ => none }
def JoinMergesWrongFalsely : Prop := joinMergesRow.holds Tryz.pinned (OpenSpec.ofChange joinMergesWrong)

/-- 'offshootlaw25.JoinDiffs': WHATEVER THE INPUT: true; the input reads as it did. -/
def joinDiffsSpec : ChangeSpec := { name := "joinDiffs", fn := fun _ => fun
  | [d1, d2] => { results := [.lit (.bool true)], args := [d1, d2] }
  | _ => none }
def joinDiffsRow : OpenClaim := { program := "ytcgglolckkeeiaagreat", sum := "ec05ae2d8e8f617d56e2baf6656d06312620c2e1238bfcece07b13449b654195", func := "offshoot/offshootlaw25.JoinDiffs", spec := "joinDiffs", inPlace := ["sync/atomic.LoadUint32", "(*internal/sync.Mutex).Lock", "internal/race.Disable", "sync/atomic.CompareAndSwapInt32", "internal/race.Enable", "internal/race.Acquire", "(*internal/sync.Mutex).lockSlow", "internal/sync.runtime_canSpin", "internal/sync.runtime_doSpin", "internal/sync.throw", "internal/sync.runtime_nanotime", "internal/sync.runtime_SemacquireMutex", "sync/atomic.AddInt32", "(*internal/sync.Mutex).Unlock", "internal/race.ReleaseMerge", "(*internal/sync.Mutex).unlockSlow", "internal/sync.fatal", "internal/sync.runtime_Semrelease", "sync/atomic.StoreUint32"], unfollowed := true, recurses := true, apart := false }
def JoinDiffsSaid : Prop := joinDiffsRow.holds Tryz.pinned (OpenSpec.ofChange joinDiffsSpec)

/-- ITS FALSE NEIGHBOUR: 'it returns false'. Refute it at one input. -/
def joinDiffsWrong : ChangeSpec := { name := "joinDiffs", fn := fun _ => fun
  | [d1, d2] => { results := [.lit (.bool false)], args := [d1, d2] }
  | _ => none }
def JoinDiffsWrongFalsely : Prop := joinDiffsRow.holds Tryz.pinned (OpenSpec.ofChange joinDiffsWrong)

/-- 'offshootlaw25.JoinUnion': WHATEVER THE INPUT: true; the input reads as it did. -/
def joinUnionSpec : ChangeSpec := { name := "joinUnion", fn := fun _ => fun
  | [d1, d2, d3] => { results := [.lit (.bool true)], args := [d1, d2, d3] }
  | _ => none }
def joinUnionRow : OpenClaim := { program := "ytcgglolckkeeiaagreat", sum := "ec05ae2d8e8f617d56e2baf6656d06312620c2e1238bfcece07b13449b654195", func := "offshoot/offshootlaw25.JoinUnion", spec := "joinUnion", inPlace := ["sync/atomic.LoadUint32", "(*internal/sync.Mutex).Lock", "internal/race.Disable", "sync/atomic.CompareAndSwapInt32", "internal/race.Enable", "internal/race.Acquire", "(*internal/sync.Mutex).lockSlow", "internal/sync.runtime_canSpin", "internal/sync.runtime_doSpin", "internal/sync.throw", "internal/sync.runtime_nanotime", "internal/sync.runtime_SemacquireMutex", "sync/atomic.AddInt32", "(*internal/sync.Mutex).Unlock", "internal/race.ReleaseMerge", "(*internal/sync.Mutex).unlockSlow", "internal/sync.fatal", "internal/sync.runtime_Semrelease", "sync/atomic.StoreUint32"], unfollowed := true, recurses := true, apart := false }
def JoinUnionSaid : Prop := joinUnionRow.holds Tryz.pinned (OpenSpec.ofChange joinUnionSpec)

/-- ITS FALSE NEIGHBOUR: 'it returns false'. Refute it at one input. -/
def joinUnionWrong : ChangeSpec := { name := "joinUnion", fn := fun _ => fun
  | [d1, d2, d3] => { results := [.lit (.bool false)], args := [d1, d2, d3] }
  | _ => none }
def JoinUnionWrongFalsely : Prop := joinUnionRow.holds Tryz.pinned (OpenSpec.ofChange joinUnionWrong)

/-- 'offshootlaw25.JoinApart': WHATEVER THE INPUT: true; the input reads as it did. -/
def joinApartSpec : ChangeSpec := { name := "joinApart", fn := fun _ => fun
  | [d1, d2, d3] => { results := [.lit (.bool true)], args := [d1, d2, d3] }
  | _ => none }
def joinApartRow : OpenClaim := { program := "ytcgglolckkeeiaagreat", sum := "ec05ae2d8e8f617d56e2baf6656d06312620c2e1238bfcece07b13449b654195", func := "offshoot/offshootlaw25.JoinApart", spec := "joinApart", inPlace := ["sync/atomic.LoadUint32", "(*internal/sync.Mutex).Lock", "internal/race.Disable", "sync/atomic.CompareAndSwapInt32", "internal/race.Enable", "internal/race.Acquire", "(*internal/sync.Mutex).lockSlow", "internal/sync.runtime_canSpin", "internal/sync.runtime_doSpin", "internal/sync.throw", "internal/sync.runtime_nanotime", "internal/sync.runtime_SemacquireMutex", "sync/atomic.AddInt32", "(*internal/sync.Mutex).Unlock", "internal/race.ReleaseMerge", "(*internal/sync.Mutex).unlockSlow", "internal/sync.fatal", "internal/sync.runtime_Semrelease", "sync/atomic.StoreUint32"], unfollowed := true, recurses := true, apart := false }
def JoinApartSaid : Prop := joinApartRow.holds Tryz.pinned (OpenSpec.ofChange joinApartSpec)

/-- ITS FALSE NEIGHBOUR: 'it returns false'. Refute it at one input. -/
def joinApartWrong : ChangeSpec := { name := "joinApart", fn := fun _ => fun
  | [d1, d2, d3] => { results := [.lit (.bool false)], args := [d1, d2, d3] }
  | _ => none }
def JoinApartWrongFalsely : Prop := joinApartRow.holds Tryz.pinned (OpenSpec.ofChange joinApartWrong)

/-- 'offshootlaw25.JoinSides': WHATEVER THE INPUT: true; the input reads as it did. -/
def joinSidesSpec : ChangeSpec := { name := "joinSides", fn := fun _ => fun
  | [d1, d2] => { results := [.lit (.bool true)], args := [d1, d2] }
  | _ => none }
def joinSidesRow : OpenClaim := { program := "ytcgglolckkeeiaagreat", sum := "ec05ae2d8e8f617d56e2baf6656d06312620c2e1238bfcece07b13449b654195", func := "offshoot/offshootlaw25.JoinSides", spec := "joinSides", inPlace := ["sync/atomic.LoadUint32", "(*internal/sync.Mutex).Lock", "internal/race.Disable", "sync/atomic.CompareAndSwapInt32", "internal/race.Enable", "internal/race.Acquire", "(*internal/sync.Mutex).lockSlow", "internal/sync.runtime_canSpin", "internal/sync.runtime_doSpin", "internal/sync.throw", "internal/sync.runtime_nanotime", "internal/sync.runtime_SemacquireMutex", "sync/atomic.AddInt32", "(*internal/sync.Mutex).Unlock", "internal/race.ReleaseMerge", "(*internal/sync.Mutex).unlockSlow", "internal/sync.fatal", "internal/sync.runtime_Semrelease", "sync/atomic.StoreUint32"], unfollowed := true, recurses := true, apart := false }
def JoinSidesSaid : Prop := joinSidesRow.holds Tryz.pinned (OpenSpec.ofChange joinSidesSpec)

/-- ITS FALSE NEIGHBOUR: 'it returns false'. Refute it at one input. -/
def joinSidesWrong : ChangeSpec := { name := "joinSides", fn := fun _ => fun
  | [d1, d2] => { results := [.lit (.bool false)], args := [d1, d2] }
  | _ => none }
def JoinSidesWrongFalsely : Prop := joinSidesRow.holds Tryz.pinned (OpenSpec.ofChange joinSidesWrong)

/-- 'offshootlaw25.JoinThree': WHATEVER THE INPUT: true; the input reads as it did. -/
def joinThreeSpec : ChangeSpec := { name := "joinThree", fn := fun _ => fun
  | [d1, d2, d3] => { results := [.lit (.bool true)], args := [d1, d2, d3] }
  | _ => none }
def joinThreeRow : OpenClaim := { program := "ytcgglolckkeeiaagreat", sum := "ec05ae2d8e8f617d56e2baf6656d06312620c2e1238bfcece07b13449b654195", func := "offshoot/offshootlaw25.JoinThree", spec := "joinThree", inPlace := ["sync/atomic.LoadUint32", "(*internal/sync.Mutex).Lock", "internal/race.Disable", "sync/atomic.CompareAndSwapInt32", "internal/race.Enable", "internal/race.Acquire", "(*internal/sync.Mutex).lockSlow", "internal/sync.runtime_canSpin", "internal/sync.runtime_doSpin", "internal/sync.throw", "internal/sync.runtime_nanotime", "internal/sync.runtime_SemacquireMutex", "sync/atomic.AddInt32", "(*internal/sync.Mutex).Unlock", "internal/race.ReleaseMerge", "(*internal/sync.Mutex).unlockSlow", "internal/sync.fatal", "internal/sync.runtime_Semrelease", "sync/atomic.StoreUint32"], unfollowed := true, recurses := true, apart := false }
def JoinThreeSaid : Prop := joinThreeRow.holds Tryz.pinned (OpenSpec.ofChange joinThreeSpec)

/-- ITS FALSE NEIGHBOUR: 'it returns false'. Refute it at one input. -/
def joinThreeWrong : ChangeSpec := { name := "joinThree", fn := fun _ => fun
  | [d1, d2, d3] => { results := [.lit (.bool false)], args := [d1, d2, d3] }
  | _ => none }
def JoinThreeWrongFalsely : Prop := joinThreeRow.holds Tryz.pinned (OpenSpec.ofChange joinThreeWrong)

/-- 'offshootlaw25.JoinPart': WHATEVER THE INPUT: true; the input reads as it did. -/
def joinPartSpec : ChangeSpec := { name := "joinPart", fn := fun _ => fun
  | [d1, d2] => { results := [.lit (.bool true)], args := [d1, d2] }
  | _ => none }
def joinPartRow : OpenClaim := { program := "ytcgglolckkeeiaagreat", sum := "ec05ae2d8e8f617d56e2baf6656d06312620c2e1238bfcece07b13449b654195", func := "offshoot/offshootlaw25.JoinPart", spec := "joinPart", inPlace := ["sync/atomic.LoadUint32", "(*internal/sync.Mutex).Lock", "internal/race.Disable", "sync/atomic.CompareAndSwapInt32", "internal/race.Enable", "internal/race.Acquire", "(*internal/sync.Mutex).lockSlow", "internal/sync.runtime_canSpin", "internal/sync.runtime_doSpin", "internal/sync.throw", "internal/sync.runtime_nanotime", "internal/sync.runtime_SemacquireMutex", "sync/atomic.AddInt32", "(*internal/sync.Mutex).Unlock", "internal/race.ReleaseMerge", "(*internal/sync.Mutex).unlockSlow", "internal/sync.fatal", "internal/sync.runtime_Semrelease", "sync/atomic.StoreUint32"], unfollowed := true, recurses := true, apart := false }
def JoinPartSaid : Prop := joinPartRow.holds Tryz.pinned (OpenSpec.ofChange joinPartSpec)

/-- ITS FALSE NEIGHBOUR: 'it returns false'. Refute it at one input. -/
def joinPartWrong : ChangeSpec := { name := "joinPart", fn := fun _ => fun
  | [d1, d2] => { results := [.lit (.bool false)], args := [d1, d2] }
  | _ => none }
def JoinPartWrongFalsely : Prop := joinPartRow.holds Tryz.pinned (OpenSpec.ofChange joinPartWrong)

/-- 'offshootlaw21.CampaignChecks': WHATEVER THE INPUT: true; the input reads as it did. -/
def campaignChecksSpec : ChangeSpec := { name := "campaignChecks", fn := fun _ => fun
  | [d1, d2] => { results := [.lit (.bool true)], args := [d1, d2] }
  | _ => none }
def campaignChecksRow : OpenClaim := { program := "ytcgglolckkeeiaagreat", sum := "ec05ae2d8e8f617d56e2baf6656d06312620c2e1238bfcece07b13449b654195", func := "offshoot/offshootlaw21.CampaignChecks", spec := "campaignChecks", inPlace := ["sync/atomic.LoadUint32", "(*internal/sync.Mutex).Lock", "internal/race.Disable", "sync/atomic.CompareAndSwapInt32", "internal/race.Enable", "internal/race.Acquire", "(*internal/sync.Mutex).lockSlow", "internal/sync.runtime_canSpin", "internal/sync.runtime_doSpin", "internal/sync.throw", "internal/sync.runtime_nanotime", "internal/sync.runtime_SemacquireMutex", "sync/atomic.AddInt32", "(*internal/sync.Mutex).Unlock", "internal/race.ReleaseMerge", "(*internal/sync.Mutex).unlockSlow", "internal/sync.fatal", "internal/sync.runtime_Semrelease", "sync/atomic.StoreUint32"], unfollowed := true, recurses := true, apart := false }
def CampaignChecksSaid : Prop := campaignChecksRow.holds Tryz.pinned (OpenSpec.ofChange campaignChecksSpec)

/-- ITS FALSE NEIGHBOUR: 'it returns false'. Refute it at one input. -/
def campaignChecksWrong : ChangeSpec := { name := "campaignChecks", fn := fun _ => fun
  | [d1, d2] => { results := [.lit (.bool false)], args := [d1, d2] }
  | _ => none }
def CampaignChecksWrongFalsely : Prop := campaignChecksRow.holds Tryz.pinned (OpenSpec.ofChange campaignChecksWrong)

/-- 'offshootlaw21.CampaignBytes': WHATEVER THE INPUT: true; the input reads as it did. -/
def campaignBytesSpec : ChangeSpec := { name := "campaignBytes", fn := fun _ => fun
  | [d1, d2, d3, d4] => { results := [.lit (.bool true)], args := [d1, d2, d3, d4] }
  | _ => none }
def campaignBytesRow : OpenClaim := { program := "ytcgglolckkeeiaagreat", sum := "ec05ae2d8e8f617d56e2baf6656d06312620c2e1238bfcece07b13449b654195", func := "offshoot/offshootlaw21.CampaignBytes", spec := "campaignBytes", inPlace := ["sync/atomic.LoadUint32", "(*internal/sync.Mutex).Lock", "internal/race.Disable", "sync/atomic.CompareAndSwapInt32", "internal/race.Enable", "internal/race.Acquire", "(*internal/sync.Mutex).lockSlow", "internal/sync.runtime_canSpin", "internal/sync.runtime_doSpin", "internal/sync.throw", "internal/sync.runtime_nanotime", "internal/sync.runtime_SemacquireMutex", "sync/atomic.AddInt32", "(*internal/sync.Mutex).Unlock", "internal/race.ReleaseMerge", "(*internal/sync.Mutex).unlockSlow", "internal/sync.fatal", "internal/sync.runtime_Semrelease", "sync/atomic.StoreUint32"], unfollowed := true, recurses := true, apart := false }
def CampaignBytesSaid : Prop := campaignBytesRow.holds Tryz.pinned (OpenSpec.ofChange campaignBytesSpec)

/-- ITS FALSE NEIGHBOUR: 'it returns false'. Refute it at one input. -/
def campaignBytesWrong : ChangeSpec := { name := "campaignBytes", fn := fun _ => fun
  | [d1, d2, d3, d4] => { results := [.lit (.bool false)], args := [d1, d2, d3, d4] }
  | _ => none }
def CampaignBytesWrongFalsely : Prop := campaignBytesRow.holds Tryz.pinned (OpenSpec.ofChange campaignBytesWrong)

/-- 'offshootlaw21.CampaignBack': WHATEVER THE INPUT: true; the input reads as it did. -/
def campaignBackSpec : ChangeSpec := { name := "campaignBack", fn := fun _ => fun
  | [d1, d2] => { results := [.lit (.bool true)], args := [d1, d2] }
  | _ => none }
def campaignBackRow : OpenClaim := { program := "ytcgglolckkeeiaagreat", sum := "ec05ae2d8e8f617d56e2baf6656d06312620c2e1238bfcece07b13449b654195", func := "offshoot/offshootlaw21.CampaignBack", spec := "campaignBack", inPlace := ["sync/atomic.LoadUint32", "(*internal/sync.Mutex).Lock", "internal/race.Disable", "sync/atomic.CompareAndSwapInt32", "internal/race.Enable", "internal/race.Acquire", "(*internal/sync.Mutex).lockSlow", "internal/sync.runtime_canSpin", "internal/sync.runtime_doSpin", "internal/sync.throw", "internal/sync.runtime_nanotime", "internal/sync.runtime_SemacquireMutex", "sync/atomic.AddInt32", "(*internal/sync.Mutex).Unlock", "internal/race.ReleaseMerge", "(*internal/sync.Mutex).unlockSlow", "internal/sync.fatal", "internal/sync.runtime_Semrelease", "sync/atomic.StoreUint32"], unfollowed := true, recurses := true, apart := false }
def CampaignBackSaid : Prop := campaignBackRow.holds Tryz.pinned (OpenSpec.ofChange campaignBackSpec)

/-- ITS FALSE NEIGHBOUR: 'it returns false'. Refute it at one input. -/
def campaignBackWrong : ChangeSpec := { name := "campaignBack", fn := fun _ => fun
  | [d1, d2] => { results := [.lit (.bool false)], args := [d1, d2] }
  | _ => none }
def CampaignBackWrongFalsely : Prop := campaignBackRow.holds Tryz.pinned (OpenSpec.ofChange campaignBackWrong)

/-- 'offshootlaw21.CampaignScores': WHATEVER THE INPUT: true; the input reads as it did. -/
def campaignScoresSpec : ChangeSpec := { name := "campaignScores", fn := fun _ => fun
  | [d1, d2] => { results := [.lit (.bool true)], args := [d1, d2] }
  | _ => none }
def campaignScoresRow : OpenClaim := { program := "ytcgglolckkeeiaagreat", sum := "ec05ae2d8e8f617d56e2baf6656d06312620c2e1238bfcece07b13449b654195", func := "offshoot/offshootlaw21.CampaignScores", spec := "campaignScores", inPlace := ["sync/atomic.LoadUint32", "(*internal/sync.Mutex).Lock", "internal/race.Disable", "sync/atomic.CompareAndSwapInt32", "internal/race.Enable", "internal/race.Acquire", "(*internal/sync.Mutex).lockSlow", "internal/sync.runtime_canSpin", "internal/sync.runtime_doSpin", "internal/sync.throw", "internal/sync.runtime_nanotime", "internal/sync.runtime_SemacquireMutex", "sync/atomic.AddInt32", "(*internal/sync.Mutex).Unlock", "internal/race.ReleaseMerge", "(*internal/sync.Mutex).unlockSlow", "internal/sync.fatal", "internal/sync.runtime_Semrelease", "sync/atomic.StoreUint32"], unfollowed := true, recurses := true, apart := false }
def CampaignScoresSaid : Prop := campaignScoresRow.holds Tryz.pinned (OpenSpec.ofChange campaignScoresSpec)

/-- ITS FALSE NEIGHBOUR: 'it returns false'. Refute it at one input. -/
def campaignScoresWrong : ChangeSpec := { name := "campaignScores", fn := fun _ => fun
  | [d1, d2] => { results := [.lit (.bool false)], args := [d1, d2] }
  | _ => none }
def CampaignScoresWrongFalsely : Prop := campaignScoresRow.holds Tryz.pinned (OpenSpec.ofChange campaignScoresWrong)

/-- 'offshootlaw21.CampaignLess': WHATEVER THE INPUT: true; the input reads as it did. -/
def campaignLessSpec : ChangeSpec := { name := "campaignLess", fn := fun _ => fun
  | [d1, d2] => { results := [.lit (.bool true)], args := [d1, d2] }
  | _ => none }
def campaignLessRow : OpenClaim := { program := "ytcgglolckkeeiaagreat", sum := "ec05ae2d8e8f617d56e2baf6656d06312620c2e1238bfcece07b13449b654195", func := "offshoot/offshootlaw21.CampaignLess", spec := "campaignLess", inPlace := ["sync/atomic.LoadUint32", "(*internal/sync.Mutex).Lock", "internal/race.Disable", "sync/atomic.CompareAndSwapInt32", "internal/race.Enable", "internal/race.Acquire", "(*internal/sync.Mutex).lockSlow", "internal/sync.runtime_canSpin", "internal/sync.runtime_doSpin", "internal/sync.throw", "internal/sync.runtime_nanotime", "internal/sync.runtime_SemacquireMutex", "sync/atomic.AddInt32", "(*internal/sync.Mutex).Unlock", "internal/race.ReleaseMerge", "(*internal/sync.Mutex).unlockSlow", "internal/sync.fatal", "internal/sync.runtime_Semrelease", "sync/atomic.StoreUint32"], unfollowed := true, recurses := true, apart := false }
def CampaignLessSaid : Prop := campaignLessRow.holds Tryz.pinned (OpenSpec.ofChange campaignLessSpec)

/-- ITS FALSE NEIGHBOUR: 'it returns false'. Refute it at one input. -/
def campaignLessWrong : ChangeSpec := { name := "campaignLess", fn := fun _ => fun
  | [d1, d2] => { results := [.lit (.bool false)], args := [d1, d2] }
  | _ => none }
def CampaignLessWrongFalsely : Prop := campaignLessRow.holds Tryz.pinned (OpenSpec.ofChange campaignLessWrong)

/- THE SECOND FORM. 'bulk': how many values and letters a reading holds, each counted each time it is reached (what is shared counts as often as it is met; a slice's spare places count too). A statement '..UptoSaid' is the law's where the arguments, and the package variables that the reading takes, are together of bulk at most 1048576: NARROWER than '..Said'. Prove '..Said' where nothing that the law and all that it calls make is longer than what came in: it says more and counts as full. Else prove '..UptoSaid'. A law counts once. -/
mutual
def uptoBulk {H : Type} : DataW H → Nat
  | .lit (.string bytes) => bytes.length + 1
  | .lit _ => 1
  | .nil => 1
  | .ptr d => uptoBulk d + 1
  | .slice elems spare => uptoBulkAll elems + uptoBulkAll spare + 1
  | .agg parts => uptoBulkAll parts + 1
  | .iface _ d => uptoBulk d + 1
  | .map entries => uptoBulkEntries entries + 1
  | .held _ => 1
def uptoBulkAll {H : Type} : List (DataW H) → Nat
  | [] => 0
  | d :: r => uptoBulk d + uptoBulkAll r
def uptoBulkEntries {H : Type} : List (Lit × DataW H) → Nat
  | [] => 0
  | x :: r => uptoBulkEntry x + uptoBulkEntries r
def uptoBulkEntry {H : Type} : Lit × DataW H → Nat
  | (.string bytes, d) => bytes.length + uptoBulk d + 1
  | (_, d) => uptoBulk d + 1
 end
def uptoSmall : (H : Type) → List (DataW H) → Bool := fun _ ds => decide (uptoBulkAll ds ≤ 1048576)
def OpenSpec.upto (s : _root_.Go.ChangeSpec) : _root_.Go.OpenSpec := { _root_.Go.OpenSpec.ofChange s with cond := some uptoSmall }

/-- 'offshootlaw25.JoinMerges', WHERE WHAT IT READS IS OF BULK AT MOST 1048576: true; the input reads as it did. -/
def joinMergesUptoRow : OpenClaim := { program := "ytcgglolckkeeiaagreat", sum := "ec05ae2d8e8f617d56e2baf6656d06312620c2e1238bfcece07b13449b654195", func := "offshoot/offshootlaw25.JoinMerges", spec := "joinMerges", inPlace := ["sync/atomic.LoadUint32", "(*internal/sync.Mutex).Lock", "internal/race.Disable", "sync/atomic.CompareAndSwapInt32", "internal/race.Enable", "internal/race.Acquire", "(*internal/sync.Mutex).lockSlow", "internal/sync.runtime_canSpin", "internal/sync.runtime_doSpin", "internal/sync.throw", "internal/sync.runtime_nanotime", "internal/sync.runtime_SemacquireMutex", "sync/atomic.AddInt32", "(*internal/sync.Mutex).Unlock", "internal/race.ReleaseMerge", "(*internal/sync.Mutex).unlockSlow", "internal/sync.fatal", "internal/sync.runtime_Semrelease", "sync/atomic.StoreUint32"], unfollowed := true, recurses := true, apart := false, narrowed := true }
def JoinMergesUptoSaid : Prop := joinMergesUptoRow.holds Tryz.pinned (OpenSpec.upto joinMergesSpec)

/-- 'offshootlaw25.JoinDiffs', WHERE WHAT IT READS IS OF BULK AT MOST 1048576: true; the input reads as it did. -/
def joinDiffsUptoRow : OpenClaim := { program := "ytcgglolckkeeiaagreat", sum := "ec05ae2d8e8f617d56e2baf6656d06312620c2e1238bfcece07b13449b654195", func := "offshoot/offshootlaw25.JoinDiffs", spec := "joinDiffs", inPlace := ["sync/atomic.LoadUint32", "(*internal/sync.Mutex).Lock", "internal/race.Disable", "sync/atomic.CompareAndSwapInt32", "internal/race.Enable", "internal/race.Acquire", "(*internal/sync.Mutex).lockSlow", "internal/sync.runtime_canSpin", "internal/sync.runtime_doSpin", "internal/sync.throw", "internal/sync.runtime_nanotime", "internal/sync.runtime_SemacquireMutex", "sync/atomic.AddInt32", "(*internal/sync.Mutex).Unlock", "internal/race.ReleaseMerge", "(*internal/sync.Mutex).unlockSlow", "internal/sync.fatal", "internal/sync.runtime_Semrelease", "sync/atomic.StoreUint32"], unfollowed := true, recurses := true, apart := false, narrowed := true }
def JoinDiffsUptoSaid : Prop := joinDiffsUptoRow.holds Tryz.pinned (OpenSpec.upto joinDiffsSpec)

/-- 'offshootlaw25.JoinUnion', WHERE WHAT IT READS IS OF BULK AT MOST 1048576: true; the input reads as it did. -/
def joinUnionUptoRow : OpenClaim := { program := "ytcgglolckkeeiaagreat", sum := "ec05ae2d8e8f617d56e2baf6656d06312620c2e1238bfcece07b13449b654195", func := "offshoot/offshootlaw25.JoinUnion", spec := "joinUnion", inPlace := ["sync/atomic.LoadUint32", "(*internal/sync.Mutex).Lock", "internal/race.Disable", "sync/atomic.CompareAndSwapInt32", "internal/race.Enable", "internal/race.Acquire", "(*internal/sync.Mutex).lockSlow", "internal/sync.runtime_canSpin", "internal/sync.runtime_doSpin", "internal/sync.throw", "internal/sync.runtime_nanotime", "internal/sync.runtime_SemacquireMutex", "sync/atomic.AddInt32", "(*internal/sync.Mutex).Unlock", "internal/race.ReleaseMerge", "(*internal/sync.Mutex).unlockSlow", "internal/sync.fatal", "internal/sync.runtime_Semrelease", "sync/atomic.StoreUint32"], unfollowed := true, recurses := true, apart := false, narrowed := true }
def JoinUnionUptoSaid : Prop := joinUnionUptoRow.holds Tryz.pinned (OpenSpec.upto joinUnionSpec)

/-- 'offshootlaw25.JoinApart', WHERE WHAT IT READS IS OF BULK AT MOST 1048576: true; the input reads as it did. -/
def joinApartUptoRow : OpenClaim := { program := "ytcgglolckkeeiaagreat", sum := "ec05ae2d8e8f617d56e2baf6656d06312620c2e1238bfcece07b13449b654195", func := "offshoot/offshootlaw25.JoinApart", spec := "joinApart", inPlace := ["sync/atomic.LoadUint32", "(*internal/sync.Mutex).Lock", "internal/race.Disable", "sync/atomic.CompareAndSwapInt32", "internal/race.Enable", "internal/race.Acquire", "(*internal/sync.Mutex).lockSlow", "internal/sync.runtime_canSpin", "internal/sync.runtime_doSpin", "internal/sync.throw", "internal/sync.runtime_nanotime", "internal/sync.runtime_SemacquireMutex", "sync/atomic.AddInt32", "(*internal/sync.Mutex).Unlock", "internal/race.ReleaseMerge", "(*internal/sync.Mutex).unlockSlow", "internal/sync.fatal", "internal/sync.runtime_Semrelease", "sync/atomic.StoreUint32"], unfollowed := true, recurses := true, apart := false, narrowed := true }
def JoinApartUptoSaid : Prop := joinApartUptoRow.holds Tryz.pinned (OpenSpec.upto joinApartSpec)

/-- 'offshootlaw25.JoinSides', WHERE WHAT IT READS IS OF BULK AT MOST 1048576: true; the input reads as it did. -/
def joinSidesUptoRow : OpenClaim := { program := "ytcgglolckkeeiaagreat", sum := "ec05ae2d8e8f617d56e2baf6656d06312620c2e1238bfcece07b13449b654195", func := "offshoot/offshootlaw25.JoinSides", spec := "joinSides", inPlace := ["sync/atomic.LoadUint32", "(*internal/sync.Mutex).Lock", "internal/race.Disable", "sync/atomic.CompareAndSwapInt32", "internal/race.Enable", "internal/race.Acquire", "(*internal/sync.Mutex).lockSlow", "internal/sync.runtime_canSpin", "internal/sync.runtime_doSpin", "internal/sync.throw", "internal/sync.runtime_nanotime", "internal/sync.runtime_SemacquireMutex", "sync/atomic.AddInt32", "(*internal/sync.Mutex).Unlock", "internal/race.ReleaseMerge", "(*internal/sync.Mutex).unlockSlow", "internal/sync.fatal", "internal/sync.runtime_Semrelease", "sync/atomic.StoreUint32"], unfollowed := true, recurses := true, apart := false, narrowed := true }
def JoinSidesUptoSaid : Prop := joinSidesUptoRow.holds Tryz.pinned (OpenSpec.upto joinSidesSpec)

/-- 'offshootlaw25.JoinThree', WHERE WHAT IT READS IS OF BULK AT MOST 1048576: true; the input reads as it did. -/
def joinThreeUptoRow : OpenClaim := { program := "ytcgglolckkeeiaagreat", sum := "ec05ae2d8e8f617d56e2baf6656d06312620c2e1238bfcece07b13449b654195", func := "offshoot/offshootlaw25.JoinThree", spec := "joinThree", inPlace := ["sync/atomic.LoadUint32", "(*internal/sync.Mutex).Lock", "internal/race.Disable", "sync/atomic.CompareAndSwapInt32", "internal/race.Enable", "internal/race.Acquire", "(*internal/sync.Mutex).lockSlow", "internal/sync.runtime_canSpin", "internal/sync.runtime_doSpin", "internal/sync.throw", "internal/sync.runtime_nanotime", "internal/sync.runtime_SemacquireMutex", "sync/atomic.AddInt32", "(*internal/sync.Mutex).Unlock", "internal/race.ReleaseMerge", "(*internal/sync.Mutex).unlockSlow", "internal/sync.fatal", "internal/sync.runtime_Semrelease", "sync/atomic.StoreUint32"], unfollowed := true, recurses := true, apart := false, narrowed := true }
def JoinThreeUptoSaid : Prop := joinThreeUptoRow.holds Tryz.pinned (OpenSpec.upto joinThreeSpec)

/-- 'offshootlaw25.JoinPart', WHERE WHAT IT READS IS OF BULK AT MOST 1048576: true; the input reads as it did. -/
def joinPartUptoRow : OpenClaim := { program := "ytcgglolckkeeiaagreat", sum := "ec05ae2d8e8f617d56e2baf6656d06312620c2e1238bfcece07b13449b654195", func := "offshoot/offshootlaw25.JoinPart", spec := "joinPart", inPlace := ["sync/atomic.LoadUint32", "(*internal/sync.Mutex).Lock", "internal/race.Disable", "sync/atomic.CompareAndSwapInt32", "internal/race.Enable", "internal/race.Acquire", "(*internal/sync.Mutex).lockSlow", "internal/sync.runtime_canSpin", "internal/sync.runtime_doSpin", "internal/sync.throw", "internal/sync.runtime_nanotime", "internal/sync.runtime_SemacquireMutex", "sync/atomic.AddInt32", "(*internal/sync.Mutex).Unlock", "internal/race.ReleaseMerge", "(*internal/sync.Mutex).unlockSlow", "internal/sync.fatal", "internal/sync.runtime_Semrelease", "sync/atomic.StoreUint32"], unfollowed := true, recurses := true, apart := false, narrowed := true }
def JoinPartUptoSaid : Prop := joinPartUptoRow.holds Tryz.pinned (OpenSpec.upto joinPartSpec)

/-- 'offshootlaw21.CampaignChecks', WHERE WHAT IT READS IS OF BULK AT MOST 1048576: true; the input reads as it did. -/
def campaignChecksUptoRow : OpenClaim := { program := "ytcgglolckkeeiaagreat", sum := "ec05ae2d8e8f617d56e2baf6656d06312620c2e1238bfcece07b13449b654195", func := "offshoot/offshootlaw21.CampaignChecks", spec := "campaignChecks", inPlace := ["sync/atomic.LoadUint32", "(*internal/sync.Mutex).Lock", "internal/race.Disable", "sync/atomic.CompareAndSwapInt32", "internal/race.Enable", "internal/race.Acquire", "(*internal/sync.Mutex).lockSlow", "internal/sync.runtime_canSpin", "internal/sync.runtime_doSpin", "internal/sync.throw", "internal/sync.runtime_nanotime", "internal/sync.runtime_SemacquireMutex", "sync/atomic.AddInt32", "(*internal/sync.Mutex).Unlock", "internal/race.ReleaseMerge", "(*internal/sync.Mutex).unlockSlow", "internal/sync.fatal", "internal/sync.runtime_Semrelease", "sync/atomic.StoreUint32"], unfollowed := true, recurses := true, apart := false, narrowed := true }
def CampaignChecksUptoSaid : Prop := campaignChecksUptoRow.holds Tryz.pinned (OpenSpec.upto campaignChecksSpec)

/-- 'offshootlaw21.CampaignBytes', WHERE WHAT IT READS IS OF BULK AT MOST 1048576: true; the input reads as it did. -/
def campaignBytesUptoRow : OpenClaim := { program := "ytcgglolckkeeiaagreat", sum := "ec05ae2d8e8f617d56e2baf6656d06312620c2e1238bfcece07b13449b654195", func := "offshoot/offshootlaw21.CampaignBytes", spec := "campaignBytes", inPlace := ["sync/atomic.LoadUint32", "(*internal/sync.Mutex).Lock", "internal/race.Disable", "sync/atomic.CompareAndSwapInt32", "internal/race.Enable", "internal/race.Acquire", "(*internal/sync.Mutex).lockSlow", "internal/sync.runtime_canSpin", "internal/sync.runtime_doSpin", "internal/sync.throw", "internal/sync.runtime_nanotime", "internal/sync.runtime_SemacquireMutex", "sync/atomic.AddInt32", "(*internal/sync.Mutex).Unlock", "internal/race.ReleaseMerge", "(*internal/sync.Mutex).unlockSlow", "internal/sync.fatal", "internal/sync.runtime_Semrelease", "sync/atomic.StoreUint32"], unfollowed := true, recurses := true, apart := false, narrowed := true }
def CampaignBytesUptoSaid : Prop := campaignBytesUptoRow.holds Tryz.pinned (OpenSpec.upto campaignBytesSpec)

/-- 'offshootlaw21.CampaignBack', WHERE WHAT IT READS IS OF BULK AT MOST 1048576: true; the input reads as it did. -/
def campaignBackUptoRow : OpenClaim := { program := "ytcgglolckkeeiaagreat", sum := "ec05ae2d8e8f617d56e2baf6656d06312620c2e1238bfcece07b13449b654195", func := "offshoot/offshootlaw21.CampaignBack", spec := "campaignBack", inPlace := ["sync/atomic.LoadUint32", "(*internal/sync.Mutex).Lock", "internal/race.Disable", "sync/atomic.CompareAndSwapInt32", "internal/race.Enable", "internal/race.Acquire", "(*internal/sync.Mutex).lockSlow", "internal/sync.runtime_canSpin", "internal/sync.runtime_doSpin", "internal/sync.throw", "internal/sync.runtime_nanotime", "internal/sync.runtime_SemacquireMutex", "sync/atomic.AddInt32", "(*internal/sync.Mutex).Unlock", "internal/race.ReleaseMerge", "(*internal/sync.Mutex).unlockSlow", "internal/sync.fatal", "internal/sync.runtime_Semrelease", "sync/atomic.StoreUint32"], unfollowed := true, recurses := true, apart := false, narrowed := true }
def CampaignBackUptoSaid : Prop := campaignBackUptoRow.holds Tryz.pinned (OpenSpec.upto campaignBackSpec)

/-- 'offshootlaw21.CampaignScores', WHERE WHAT IT READS IS OF BULK AT MOST 1048576: true; the input reads as it did. -/
def campaignScoresUptoRow : OpenClaim := { program := "ytcgglolckkeeiaagreat", sum := "ec05ae2d8e8f617d56e2baf6656d06312620c2e1238bfcece07b13449b654195", func := "offshoot/offshootlaw21.CampaignScores", spec := "campaignScores", inPlace := ["sync/atomic.LoadUint32", "(*internal/sync.Mutex).Lock", "internal/race.Disable", "sync/atomic.CompareAndSwapInt32", "internal/race.Enable", "internal/race.Acquire", "(*internal/sync.Mutex).lockSlow", "internal/sync.runtime_canSpin", "internal/sync.runtime_doSpin", "internal/sync.throw", "internal/sync.runtime_nanotime", "internal/sync.runtime_SemacquireMutex", "sync/atomic.AddInt32", "(*internal/sync.Mutex).Unlock", "internal/race.ReleaseMerge", "(*internal/sync.Mutex).unlockSlow", "internal/sync.fatal", "internal/sync.runtime_Semrelease", "sync/atomic.StoreUint32"], unfollowed := true, recurses := true, apart := false, narrowed := true }
def CampaignScoresUptoSaid : Prop := campaignScoresUptoRow.holds Tryz.pinned (OpenSpec.upto campaignScoresSpec)

/-- 'offshootlaw21.CampaignLess', WHERE WHAT IT READS IS OF BULK AT MOST 1048576: true; the input reads as it did. -/
def campaignLessUptoRow : OpenClaim := { program := "ytcgglolckkeeiaagreat", sum := "ec05ae2d8e8f617d56e2baf6656d06312620c2e1238bfcece07b13449b654195", func := "offshoot/offshootlaw21.CampaignLess", spec := "campaignLess", inPlace := ["sync/atomic.LoadUint32", "(*internal/sync.Mutex).Lock", "internal/race.Disable", "sync/atomic.CompareAndSwapInt32", "internal/race.Enable", "internal/race.Acquire", "(*internal/sync.Mutex).lockSlow", "internal/sync.runtime_canSpin", "internal/sync.runtime_doSpin", "internal/sync.throw", "internal/sync.runtime_nanotime", "internal/sync.runtime_SemacquireMutex", "sync/atomic.AddInt32", "(*internal/sync.Mutex).Unlock", "internal/race.ReleaseMerge", "(*internal/sync.Mutex).unlockSlow", "internal/sync.fatal", "internal/sync.runtime_Semrelease", "sync/atomic.StoreUint32"], unfollowed := true, recurses := true, apart := false, narrowed := true }
def CampaignLessUptoSaid : Prop := campaignLessUptoRow.holds Tryz.pinned (OpenSpec.upto campaignLessSpec)

end Rows
end Go.Proofs.YtcgglolckkeeiaaGreat
