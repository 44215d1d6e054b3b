/- The statement ArchiveApart: whatever the input, the law returns true, and each argument reads behind the call as it read before. No condition. -/
import Derived.Test.YtgnmkiafeplbpaaGreatDoorZf44
import Derived.Test.YtgnmkiafeplbpaaGreatDoorTie
import Derived.Test.YtgnmkiafeplbpaaGreatDoorCards
import Derived.SevenTiedAt
import Derived.WalkKit
import Derived.ProofKit
import Derived.OpenShut
import Derived.ShutString
import Derived.ChangeOld
import Derived.Below
import Derived.ChangeSame
import Derived.ChangeVars
import Derived.JoinedOf
import Derived.RowKit
import Derived.RowKitTokens
import Derived.LaidLaws
import Derived.LaidHandle
import Derived.Stop.Joined
namespace Go.Proofs.YtgnmkiafeplbpaaGreatDoor.lawArchiveApart
open Go.ChangeShapes Go.WideShapes Go.ChangeAt Go.RowKit
open Go.ChangeMaps (open_string shut_string)
set_option linter.unusedVariables false
theorem own : ownKnob Tryz.prog.godebug = none := by kernel_rfl
theorem laidOut : laidOutB Tryz.prog = true := by kernel_rfl
theorem et : Tryz.prog.globalNamed "errors.errorType" = some 0 := by kernel_rfl
theorem rt : (Tryz.prog.cutTypes.find? (·.1 == "internal/reflectlite.rtype")).map (·.2) = some 225 := by kernel_rfl
theorem oneRow : ((List.range Tryz.prog.types.size).filter fun t => Tryz.prog.rowNamed t [101, 114, 114, 111, 114]) = [72] := by kernel_rfl
theorem errG_of_laid {W : World} (h : laidMetH Tryz.prog Rows.archiveApartRow.laid W) : ErrG W := by
  have h' : laidMet Tryz.prog [] W ∧ handlesMet Tryz.prog Rows.archiveApartRow.laid W := h;obtain ⟨name, u, ty, e1, e2, e3, e4, e5⟩ := h'.2 _ (List.mem_singleton.2 rfl);have en : name = [101, 114, 114, 111, 114] := (Option.some.inj e1).symm;subst en;obtain rfl := Option.some.inj (rt.symm.trans e2);have hm : ty ∈ (List.range Tryz.prog.types.size).filter fun t => Tryz.prog.rowNamed t [101, 114, 114, 111, 114] := List.mem_filter.2 ⟨List.mem_range.2 e3, e4⟩;rw [oneRow] at hm;obtain rfl := List.mem_singleton.1 hm;have hh : typeHandle Tryz.prog 72 = .pointer (some ⟨1, 72, none⟩) := by kernel_rfl
  rw [hh] at e5;unfold ErrG;simpa using World.var?_cell et e5 0
noncomputable def laidWorld (os : Os) : World :=
  let w0 := World.holding Tryz.prog os ⟨#[], #[], []⟩
  { w0 with heap := w0.heap.modify 0 fun
      | .cells _ t frozen => .cells #[.iface 225 (.agg #[.pointer (some ⟨1, 72, none⟩)])] t frozen
      | o => o }
theorem laidWorld_met (os : Os) (args : Array Value) : laidMetH Tryz.prog Rows.archiveApartRow.laid ((laidWorld os).forCall (fun _ _ => 0) ⟨#[], args, []⟩).memory :=
  laidMetH_of_parts (laidMet_nil _ _) (by kernel_rfl)
set_option maxRecDepth 100000 in
theorem lifted (os : Os) (started : os.Started) (H : Type) (enc : TypeId × Value → H) :
    ReturnsInHanded {} Tryz.checked os 8 .any (fun w args => (Rows.archiveApartSpec.pre enc Tryz.prog Tryz.f8 Rows.archiveApartRow.domain false w args ∧ laidMetH Tryz.prog Rows.archiveApartRow.laid w) ∧ sizedMet enc Tryz.prog Tryz.f8 (OpenSpec.ofChange Rows.archiveApartSpec) false w args) (Rows.archiveApartSpec.post enc Tryz.prog Tryz.f8 false true false false) := by
  refine returnsInHanded_of_change_and (C := Tryz.checked) (X := fun w _ => laidMetH Tryz.prog Rows.archiveApartRow.laid w) (fun _ _ _ hh h => h.of_heap hh) own started (by kernel_rfl) Tryz.func8
    (ChangeSpec.witness_at (enc := enc) (C := Tryz.checked) (os := os) (X := fun w _ => laidMetH Tryz.prog Rows.archiveApartRow.laid w) false (laidWorld os) #[.agg #[.int .i64 0, .slice none 0 0, .slice none 0 0, .slice none 0 0, .int .i64 0, .slice none 0 0, .int .i64 0, .int .i64 0, .int .i64 0], .agg #[.int .i64 0, .slice none 0 0, .slice none 0 0, .slice none 0 0, .int .i64 0, .slice none 0 0, .int .i64 0, .int .i64 0, .int .i64 0]] 8 rfl (by kernel_rfl) (by kernel_rfl) (by kernel_rfl) (by kernel_rfl) (by kernel_rfl) (laidWorld_met os _)) ?_
  intro W base args ds gs before hval0 hW hcnd _ hL _;have hval : ∀ (j : Nat) t v, Tryz.f8.params[j]? = some t → args[j]? = some v → Value.okWide Tryz.prog W .any base t v := hval0;have hW' := hW;obtain ⟨p, q, hA0, hV, rfl, hfz, hnd⟩ := hW;have hA : DataW.TrodAll enc Tryz.prog W 0 (fun _ => true) true Tryz.f8.params.toList args.toList ds p := hA0;rw [Tryz.params8] at hA hval;obtain ⟨v0, vs0, d0, ds0, p0, q0, hargs, rfl, rfl, h0, r0⟩ := trodAll_cons hA;obtain ⟨v1, vs1, d1, ds1, p1, q1, rfl, rfl, rfl, h1, r1⟩ := trodAll_cons r0;obtain ⟨rfl, rfl, rfl⟩ := trodAll_nil r1;obtain rfl : args = #[v0, v1] := by cases args; simp_all
  obtain ⟨rfl, rfl⟩ := trodVars_none hV;have k0 := h0;have lt0 : ∀ x ∈ p0, x.block < W.heap.size := by obtain ⟨m, hm⟩ := k0; exact DataW.trod_lt m _ _ _ hm
  obtain ⟨a0, w0, rfl⟩ := Uf (hval 0 31 v0 rfl rfl) h0;have k1 := h1;have lt1 : ∀ x ∈ p1, x.block < W.heap.size := by obtain ⟨m, hm⟩ := k1; exact DataW.trod_lt m _ _ _ hm
  obtain ⟨a1, w1, rfl⟩ := Uf (hval 1 31 v1 rfl rfl) h1;clear hA0 hval0;refine (Xj a0 a1 W (errG_of_laid hL) w0 w1).mono fun e W' ⟨he, bel⟩ => ?_
  subst he;exact ⟨_, rfl, _, _, _, [], _, [], hW', trodAll_mk1 (shut_bool Tryz.underlying4 _), (trodAll_cons_mk (Below.trod laidOut (by kernel_rfl) (of_decide_eq_true (by kernel_rfl)) k0 bel lt0) (trodAll_cons_mk (Below.trod laidOut (by kernel_rfl) (of_decide_eq_true (by kernel_rfl)) k1 bel lt1) trodAll_mk0)), rfl, bel.frame _, fun h => by cases h⟩
theorem and2 {a b : Bool} (h : a = true) (k : b = true) : (a && b) = true := by rw [h, k]; rfl
set_option maxHeartbeats 16000000 in
/-- The closed facts, one by one (each a lemma of its own: together they want too much memory). -/
theorem closed : joinedFacts Tryz.pinned.checked.prog 8 Tryz.f8 Rows.archiveApartSpec Rows.archiveApartRow = true := by
  unfold joinedFacts
  repeat' with_reducible refine and2 ?_ ?_
  all_goals as_aux_lemma => kernel_rfl
theorem over : Rows.archiveApartRow.holds Tryz.pinned (OpenSpec.ofChange Rows.archiveApartSpec) :=
  OpenClaim.holds_of_wide 8 Tryz.f8 rfl rfl rfl rfl rfl rfl rfl ⟨rfl, rfl, rfl, rfl, rfl⟩ rfl rfl rfl rfl rfl (by kernel_rfl) Tryz.func8 closed
    (of_decide_eq_true (by kernel_rfl)) (by unfold Func.isWrapper; first | (rw [if_pos (by decide +kernel)]; kernel_rfl) | (rw [if_neg (by decide +kernel)]; exact ⟨rfl, rfl⟩))
    (fun os started H enc _ => lifted os started H enc)
theorem wfT : Rows.archiveApartRow.wfByText (OpenSpec.ofChange Rows.archiveApartSpec) = true := by kernel_rfl
theorem lks : true = Tryz.pinned.checked.prog.looks [] := by kernel_rfl
theorem gby : false = Rows.archiveApartRow.goesBy Tryz.pinned.checked.prog := by kernel_rfl
theorem mnI : Tryz.pinned.checked.prog.mainIs = some (true, "fb82091939f4d5ce7506718236bf42822d6d69f53804b4ef5ee49834eda5df4d".toList) := by kernel_rfl
theorem wsi_31 : Tryz.prog.wantsStandIn 31 = false := by kernel_rfl
/-- The statement. -/
theorem proved : Rows.ArchiveApartCardSaid :=
  Claim7.holds_tied_plain_at .later [] [.handle] true (true, "fb82091939f4d5ce7506718236bf42822d6d69f53804b4ef5ee49834eda5df4d") true
    over (fun _ h => by cases h) wfT (fun _ h => by cases h) archiveApart_row_tie rfl ⟨rfl, rfl⟩ mnI rfl
    (fun f fn hf hfn => by
      obtain rfl : f = 8 := Option.some.inj ((show Tryz.prog.funcNamed "offshoot/offshootlaw23.ArchiveApart" = some 8 by kernel_rfl).symm.trans hf) |>.symm
      obtain rfl : fn = Tryz.f8 := (Option.some.inj (Tryz.func8.symm.trans hfn)).symm
      exact ⟨lks, fun j t ht => by
        rw [Tryz.params8] at ht
        rcases j with _ | j
        · obtain rfl : t = 31 := by simpa using ht.symm
          exact wsi_31
        rcases j with _ | j
        · obtain rfl : t = 31 := by simpa using ht.symm
          exact wsi_31
        simp at ht⟩)
    gby
end Go.Proofs.YtgnmkiafeplbpaaGreatDoor.lawArchiveApart
