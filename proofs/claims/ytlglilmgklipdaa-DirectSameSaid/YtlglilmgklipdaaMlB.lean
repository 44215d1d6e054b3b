/- The walks over the reference's Same and the law's few. Conditions: stated in each theorem. -/
import Derived.Test.YtlglilmgklipdaaMlA
import Derived.Test.YtlglilmgklipdaaStr
namespace Go.Proofs.Ytlglilmgklipdaa
set_option linter.unusedVariables false
open Go.RowKit Go.Deep

def outC (k v : Int) : List Value := [.int .i64 k, .int .i64 v]
theorem eql_outcome (k v k' v' : Int) (W : World) : (binOp .eql 29 (.agg (outC k v).toArray) (.agg (outC k' v').toArray)).run Try.prog W = .ok (.bool (k == k' && v == v')) W := by
  unfold outC
  simp [go_sem]
  by_cases h1 : k = k' <;> by_cases h2 : v = v' <;> simp [h1, h2]
def RunV.cells (r : RunV) : Array Value := #[.int .i64 r.kind, .int .i64 r.value, .int .i64 r.steps, .slice r.addr r.evs.length r.cap]
theorem out_cells {W : World} {G : Nat} {r : RunV} (h : Row W G 32 r.cells) : ∀ j v, (outC r.kind r.value)[j]? = some v → W.cell? ((⟨G, 0, none⟩ : Addr).add j) = some v :=
  Row.from_ (cur := r.cells) h 0 (fun j v hj => by
    match j, hj with
    | 0, hj | 1, hj => exact hj)
def Rd3 (r : RunV) (W : World) : Prop := Rd W r.addr (r.evs.flatMap EvV.cells)
instance St.rd3 {r : RunV} : St (Rd3 r) := ⟨fun h b => Rd.go h b⟩
def Ms.rv (s : Ms) (A : Option Addr) (cap : Nat) : RunV := ⟨(s.out.getD (0, 0)).1, (s.out.getD (0, 0)).2, s.steps, A, cap, s.evs⟩
theorem rv_one (r : RunV) : r.cells.all (·.oneCell') = true := by simp [RunV.cells, Value.oneCell']
def sameB (a b : RunV) (β : Bool) : Bool := β && ((a.kind == b.kind && a.value == b.value) && a.steps == b.steps)
theorem sameB_rv (s : Ms) (A A' : Option Addr) (c c' : Nat) : sameB (s.rv A c) (s.rv A' c') true = true := by simp [sameB, Ms.rv]
theorem sameB_same {s t : Ms} (h : SameS s t) (A A' : Option Addr) (c c' : Nat) : sameB (s.rv A c) (t.rv A' c') true = true := by simp [sameB, Ms.rv, h.out, h.steps]
set_option maxRecDepth 100000 in
set_option maxHeartbeats 4000000 in
theorem refSame_any (a b : RunV) (w : World) (ha : Rd3 a w) (hb : Rd3 b w) (hla : a.evs.length ≤ 1000000) : Calls Try.prog 17 #[a.val, b.val] w fun e w' => ∃ β : Bool, (β = true ↔ a.evs = b.evs) ∧ e = .returned (.bool (sameB a b β)) ∧ Below w.heap.size w w' := by
  have Ha := Lib.hid ha
  have Hb := Lib.hid hb
  clear ha hb
  go_enter Try.func17, Try.ntmps17
  rw [show a.val = .agg a.cells from rfl, show b.val = .agg b.cells from rfl]
  go_wp2_with (refine at_box _ _ rfl ?_)
  refine Stop.to ?_
  refine wpList_box_gen rfl 32 _ rfl a.cells rfl ?_
  intro G w1 hG r1 b1
  have b1 := (Below.refl w.heap.size w).trans (b1.mono hG)
  go_wp2_with (refine at_box _ _ rfl ?_)
  refine Stop.to ?_
  refine wpList_box_gen rfl 32 _ rfl b.cells rfl ?_
  intro F w2 hF r2 b2
  have r1 := r1.below b2 (Nat.lt_of_lt_of_le r1.lt hF)
  have b2 := b1.trans ((b2.mono hF).mono b1.size)
  obtain ⟨S, hSd⟩ : ∃ S, S = (fun W => Row W G 32 a.cells ∧ Row W F 32 b.cells ∧ Rd3 a W ∧ Rd3 b W ∧ Below w.heap.size w W) := ⟨_, rfl⟩
  have stS : St S := by rw [hSd]; infer_instance
  have S0 : Hid (∀ W, S W → Row W G 32 a.cells) := by show ∀ W, _; rw [hSd]; exact fun W h => h.1
  have S1 : Hid (∀ W, S W → Row W F 32 b.cells) := by show ∀ W, _; rw [hSd]; exact fun W h => h.2.1
  have S2 : Hid (∀ W, S W → Rd3 a W) := by show ∀ W, _; rw [hSd]; exact fun W h => h.2.2.1
  have S3 : Hid (∀ W, S W → Rd3 b W) := by show ∀ W, _; rw [hSd]; exact fun W h => h.2.2.2.1
  have S4 : Hid (∀ W, S W → Below w.heap.size w W) := by show ∀ W, _; rw [hSd]; exact fun W h => h.2.2.2.2
  have hS : S w2 := by rw [hSd]; exact ⟨r1, r2, Rd.go Ha.out b2, Rd.go Hb.out b2, b2⟩
  clear hSd r1 b1 r2 b2 hG hF
  have c3 := (S0.out _ hS).cellv (i := 3) (v := .slice a.addr a.evs.length a.cap) rfl
  have d3 := (S1.out _ hS).cellv (i := 3) (v := .slice b.addr b.evs.length b.cap) rfl
  have HS := Lib.hid hS
  clear hS
  go_wp2_with fail
  refine (refEvents_any a.addr b.addr a.cap b.cap a.evs b.evs w2 (S2.out _ HS.out) (S3.out _ HS.out) hla).mono ?_
  rintro e w4 ⟨β, rfl, hβ, b4⟩
  have hS4 := stS.go HS.out b4
  have Hout := Lib.hid (eql_outcome a.kind a.value b.kind b.value)
  have Hβ := Lib.hid hβ
  clear HS b4 c3 d3 hβ
  cases β
  · have HS4 := Lib.hid hS4
    clear hS4
    go_wp2_with fail
    go_ret
    exact ⟨false, Hβ.out, rfl, S4.out _ HS4.out⟩
  · have HS4 := Lib.hid hS4
    clear hS4
    go_wp2_with (refine at_load 29 _ rfl ?_)
    refine Stop.to ?_
    refine wpList_holdN S 5 HS4.out ?_
    simp only [List.take_succ_cons, List.take_zero, List.drop_succ_cons, List.drop_zero]
    (refine hold_load_at rfl 29 _ rfl (⟨G, 0, none⟩) rfl (outC a.kind a.value) _ (fun W h => out_cells (S0.out W h)) Try.underlying29 rfl (by kernel_rfl) ?_; simp only [Act.put, List.setIfInBounds_toArray, List.set_cons_zero, List.set_cons_succ])
    (refine hold_value rfl ?_ (fun W hW => ?_) ?_; rotate_left; (focus (go_simp; exact rfl)); simp only [Act.put, List.setIfInBounds_toArray, List.set_cons_zero, List.set_cons_succ])
    (refine hold_load_at rfl 29 _ rfl (⟨F, 0, none⟩) rfl (outC b.kind b.value) _ (fun W h => out_cells (S1.out W h)) Try.underlying29 rfl (by kernel_rfl) ?_; simp only [Act.put, List.setIfInBounds_toArray, List.set_cons_zero, List.set_cons_succ])
    refine hold_value rfl (.bool (a.kind == b.kind && a.value == b.value)) (fun W _ => run_exec_binop rfl _ (run_eqGuard_agg _ _ _ _ _ _ _ (by kernel_rfl)) (by exact Hout.out W)) ?_
    simp only [Act.put, List.setIfInBounds_toArray, List.set_cons_zero, List.set_cons_succ]
    generalize hγ : (a.kind == b.kind && a.value == b.value) = γ
    have Hγ := Lib.hid hγ
    clear hγ
    (refine hold_value rfl ?_ (fun W hW => ?_) ?_; rotate_left; (focus (go_simp; exact rfl)); simp only [Act.put, List.setIfInBounds_toArray, List.set_cons_zero, List.set_cons_succ])
    refine wpHold_nil fun W hW => ?_
    have a2 := (S0.out _ hW).cellv (i := 2) (v := .int .i64 a.steps) rfl
    have b2 := (S1.out _ hW).cellv (i := 2) (v := .int .i64 b.steps) rfl
    have hb := Lib.hid (S4.out _ hW)
    clear hW HS4
    cases γ
    · go_wp2_with fail
      go_ret
      exact ⟨true, by simpa using Hβ.out, by unfold sameB; rw [Hγ.out]; rfl, hb.out⟩
    · obtain ⟨δ, hδ⟩ : ∃ δ, (a.steps == b.steps) = δ := ⟨_, rfl⟩
      go_wp2_with fail
      go_ret
      exact ⟨true, by simpa using Hβ.out, by unfold sameB; rw [Hγ.out, hδ]; rfl, hb.out⟩
def fewZ (p : PgV) (n : Nat) (fuel : Int) : Bool := fewP p && (decide (n ≤ 40) && (decide (fuel ≤ 400) || decide (10000 < fuel)))
theorem fewZ_of {p : PgV} {n : Nat} {fuel : Int} (h : fewZ p n fuel = true) : p.body.length ≤ 60 ∧ n ≤ 40 ∧ (fuel ≤ 400 ∨ 10000 < fuel) := by
  simp only [fewZ, fewP, Bool.and_eq_true, Bool.or_eq_true, decide_eq_true_eq] at h
  exact ⟨h.1.1, h.2.1, h.2.2⟩
theorem run_evs (p : PgV) (args : List Int) (fuel : Int) : (runZ p args fuel).evs.length ≤ 10000 := by
  unfold runZ
  split
  · rename_i h
    obtain ⟨t, v, s', _, hb, he⟩ := h.2.choose_spec
    rw [he, stopped_evs]
    obtain ⟨_, _, _, h0, h1⟩ := checkZ_zero h.1
    have h2 := hb.ext.few
    have h3 := hb.ext.sum
    simp only [initS, List.length_nil] at h2 h3
    omega
  · exact Nat.zero_le _
theorem run_few (p : PgV) (args : List Int) (fuel : Int) : (runZ p args fuel).evs.length ≤ 1000000 := Nat.le_trans (run_evs p args fuel) (by omega)
set_option maxRecDepth 100000 in
set_option maxHeartbeats 4000000 in
theorem few16_any (p : PgV) (aa : Option Addr) (acap n : Nat) (fuel : Int) (w : World) : Calls Try.prog 14 #[.agg p.cells, .slice aa n acap, .int .i64 fuel] w fun e w' => e = .returned (.bool (fewZ p n fuel)) ∧ Below w.heap.size w w' := by
  go_enter Try.func14, Try.ntmps14
  go_wp2_with (refine at_box _ _ rfl ?_)
  refine Stop.to ?_
  refine wpList_box_gen rfl 25 _ rfl p.cells rfl ?_
  intro G w1 hG r1 b1
  have b1 := (Below.refl w.heap.size w).trans (b1.mono hG)
  clear hG
  have Hr1 := Lib.hid r1
  clear r1
  go_wp2_with (refine wpList_load_row rfl 25 _ rfl G rfl 25 p.cells (0, 0) _ Hr1.out Try.underlying25 rfl (by kernel_rfl) ?_)
  refine (few_any p w1).mono ?_
  rintro e w2 ⟨rfl, b2⟩
  have Hb2 := Lib.hid (b1.trans (b2.mono b1.size))
  generalize hq : fewP p = q
  have Hq := Lib.hid hq
  clear hq b1 b2 Hr1
  cases q
  · go_wp2_with fail
    go_ret
    exact ⟨ret_b (by unfold fewZ; rw [Hq.out]; simp; try omega), Hb2.out⟩
  by_cases h1 : n ≤ 40
  rotate_left
  · have h1' : ¬ (n : Int) ≤ 40 := by omega
    have h1'' : 40 < (n : Int) := by omega
    have H1 := Lib.hid h1
    clear h1
    go_wp2_with fail
    go_ret
    exact ⟨ret_b (by have h1 := H1.out; unfold fewZ; rw [Hq.out]; simp; intro; omega), Hb2.out⟩
  have h1' : (n : Int) ≤ 40 := by omega
  have H1 := Lib.hid h1
  clear h1
  by_cases h2 : fuel ≤ 400
  · go_wp2_with fail
    go_ret
    exact ⟨ret_b (by have h1 := H1.out; unfold fewZ; rw [Hq.out]; simp; omega), Hb2.out⟩
  have h2' : 400 < fuel := by omega
  by_cases h3 : 10000 < fuel
  · clear h2
    go_wp2_with fail
    go_ret
    exact ⟨ret_b (by have h1 := H1.out; unfold fewZ; rw [Hq.out]; simp; omega), Hb2.out⟩
  · have h3' : fuel ≤ 10000 := by omega
    have H2 := Lib.hid h2
    have H3 := Lib.hid h3
    clear h2 h3
    go_wp2_with fail
    go_ret
    exact ⟨ret_b (by have h1 := H1.out; have h2 := H2.out; have h3 := H3.out; unfold fewZ; rw [Hq.out]; simp; omega), Hb2.out⟩
end Go.Proofs.Ytlglilmgklipdaa
