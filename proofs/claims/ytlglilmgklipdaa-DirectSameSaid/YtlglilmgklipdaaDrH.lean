/- The walk over the direct walker's walk: what it throws is caught. Conditions: stated in each theorem. -/
import Derived.Test.YtlglilmgklipdaaDrC
import Derived.Recover
import Derived.Defers
namespace Go.Proofs.Ytlglilmgklipdaa
set_option linter.unusedVariables false
open Go.RowKit Go.Deep

theorem zero_outc {w : World} : (zeroValue 29).run Try.prog w = .ok (.agg #[.int .i64 0, .int .i64 0]) w := by kernel_rfl
/-- But for one block, all that was there is as it was. -/
structure But (g : Nat) (w w' : World) : Prop where
  os : w'.os = w.os
  tape : w'.tape = w.tape
  output : w'.output = w.output
  size : w.heap.size ≤ w'.heap.size
  block : ∀ k, k < w.heap.size → k ≠ g → w'.heap[k]? = w.heap[k]?
section
variable {P : Program} {Q : Exit → Act → List Frame → World → Prop} {a : Act} {cs : List Frame} {w : World} {ops : Array Oper} {rest : List Oper} {o : Oper}
/-- A region that may recover, its operations as a list. -/
def wpListS (P : Program) (ops : Array Oper) (Q : Exit → Act → List Frame → World → Prop) : List Oper → Act → List Frame → World → Prop
  | [], a, cs, w => Q .normal a cs w
  | o :: rest, a, cs, w =>
    if Region.wanted o (yielded ops a.tmps) then
      match (execOp a.eval o).run P w with
      | .ok .recover w' =>
        match recoverD cs with
        | some (v, cs') => wpListS P ops Q rest (a.put o.dst v) cs' w'
        | none => wpListS P ops Q rest (a.put o.dst .nilIface) cs w'
      | r => o.upon P a (fun a' w' => wpListS P ops Q rest a' cs w') (fun e a' w' => Q e a' cs w') r
    else wpListS P ops Q rest (a.put o.dst undef) cs w
theorem wpOpsS_list (l : List Oper) : ∀ k, (∀ j, l[j]? = ops[k + j]?) → wpOpsS P ops Q (List.range' k l.length) = wpListS P ops Q l := by
  induction l with
  | nil => intro k _; funext a cs w; simp [wpOpsS, wpListS]
  | cons o l ih =>
    intro k h
    have h0 : ops[k]? = some o := by have := h 0; simpa using this.symm
    have hi := ih (k + 1) (fun j => by have := h (j + 1); simp only [List.getElem?_cons_succ] at this; rw [this]; congr 1; omega)
    funext a cs w
    rw [List.length_cons, List.range'_succ, wpOpsS, h0, wpListS, hi]
    rfl
theorem wpS_list {id : Nat} {l : List Oper} (h : wpListS P l.toArray Q l a cs w) : (Code.region id l.toArray false).wpS P Q a cs w := by
  refine wpS_region ?_
  rw [List.size_toArray, List.range_eq_range', wpOpsS_list l 0 (fun j => by rw [Nat.zero_add]; simp)]
  exact h
theorem wanted_none {o : Oper} {y : Nat → Option Bool} (h : o.guard = none) : Region.wanted o y = true := by unfold Region.wanted; rw [h]
theorem S_step (hgd : o.guard = none) (h : o.wp P a w (fun a' w' => wpListS P ops Q rest a' cs w') (fun e a' w' => Q e a' cs w')) : wpListS P ops Q (o :: rest) a cs w := by
  simp only [wpListS, wanted_none hgd, if_true]
  unfold Oper.wp at h
  split
  · rename_i heq; rw [heq] at h; exact h.elim
  · exact h
theorem S_rec (hgd : o.guard = none) (he : (execOp a.eval o).run P w = .ok .recover w) {v : Value} {cs' : List Frame} (hr : recoverD cs = some (v, cs')) (h : wpListS P ops Q rest (a.put o.dst v) cs' w) : wpListS P ops Q (o :: rest) a cs w := by
  simp only [wpListS, wanted_none hgd, if_true, he, hr]
  exact h
theorem S_rec_no (hgd : o.guard = none) (he : (execOp a.eval o).run P w = .ok .recover w) (hr : recoverD cs = none) (h : wpListS P ops Q rest (a.put o.dst .nilIface) cs w) : wpListS P ops Q (o :: rest) a cs w := by
  simp only [wpListS, wanted_none hgd, if_true, he, hr]
  exact h
end
theorem zero_over {w : World} : (zeroValue 101).run Try.prog w = .ok (.agg #[.int .i64 0, .int .i64 0]) w := by kernel_rfl
theorem run_exec_ta {P : Program} {ρ : Operand → Value} {o : Oper} {x : Operand} {t u : TypeId} {b : Bool} {v : Value} {w w' : World} (ho : o.op = .typeAssert x t u b) (h : (Instr.typeAssert (ρ x) t u b).run P w = .ok v w') : (execOp ρ o).run P w = .ok (.value v) w' := by
  simp only [execOp, ho, Sem.run_bind, h, Result.andThen_ok, Sem.run_pure]
theorem ta_over (k x : Int) (w : World) : (Instr.typeAssert (overV k x) 20 101 true).run Try.prog w = .ok (.tuple #[.agg #[.int .i64 k, .int .i64 x], .bool true]) w := by kernel_rfl
theorem ta_nil (w : World) : (Instr.typeAssert .nilIface 20 101 true).run Try.prog w = .ok (.tuple #[.agg #[.int .i64 0, .int .i64 0], .bool false]) w := by kernel_rfl
set_option maxRecDepth 100000 in
set_option maxHeartbeats 800000 in
theorem catch_over (p : Nat) (k x : Int) (older : List PanicEntry) (w : World) (hr : Row w p 29 #[.int .i64 0, .int .i64 0]) :
    CallsD Try.prog 63 #[.pointer (some ⟨p, 0, none⟩)] (.panicking ({ v := overV k x, recovered := false } :: older)) w fun e u' w' =>
      e = .returned (.tuple #[]) ∧ u' = .panicking ({ v := overV k x, recovered := true } :: older) ∧ Row w' p 29 #[.int .i64 k, .int .i64 x] ∧ But p w w' := by
  have hta := ta_over k x w
  generalize overV k x = ov at hta ⊢
  refine callsD_of_wpS Try.func63 rfl fun c₀ cs hu => ?_
  refine wpS_seq ?_
  refine wpS_list ?_
  simp only [Try.ntmps63]
  simp only [List.size_toArray, List.length_cons, List.length_nil, Nat.reduceAdd, Nat.reduceSub, Array.replicate_succ, Array.replicate_zero, List.push_toArray, List.nil_append, List.cons_append, List.append_toArray]
  refine @S_rec _ _ _ _ _ _ _ _ rfl (by rfl) ov ({ c₀ with mode := .panicking ({ v := ov, recovered := true } :: older) } :: cs) (by simp only [recoverD, hu]) ?_
  simp only [Act.put, List.setIfInBounds_toArray, List.set_cons_zero, List.set_cons_succ]
  refine @S_step _ _ _ _ _ _ _ _ rfl ?_
  refine @wp_res_gen _ _ _ _ w _ _ (.tuple #[.agg #[.int .i64 k, .int .i64 x], .bool true]) ?_ ?_
  · exact run_exec_ta rfl (hta)
  simp only [Act.put, List.setIfInBounds_toArray, List.set_cons_zero, List.set_cons_succ]
  refine @S_step _ _ _ _ _ _ _ _ rfl ?_
  refine @wp_res_gen _ _ _ _ w _ _ (.tuple #[.agg #[.int .i64 k, .int .i64 x], .bool true]) ?_ ?_
  · go_simp; try exact rfl
  simp only [Act.put, List.setIfInBounds_toArray, List.set_cons_zero, List.set_cons_succ]
  refine @S_step _ _ _ _ _ _ _ _ rfl ?_
  refine @wp_res_gen _ _ _ _ w _ _ (.agg #[.int .i64 k, .int .i64 x]) ?_ ?_
  · go_simp; try exact rfl
  simp only [Act.put, List.setIfInBounds_toArray, List.set_cons_zero, List.set_cons_succ]
  refine @S_step _ _ _ _ _ _ _ _ rfl ?_
  refine @wp_res_gen _ _ _ _ w _ _ (.bool true) ?_ ?_
  · go_simp; try exact rfl
  simp only [Act.put, List.setIfInBounds_toArray, List.set_cons_zero, List.set_cons_succ]
  refine @S_step _ _ _ _ _ _ _ _ rfl ?_
  refine @wp_alloc_gen _ _ _ _ _ _ 101 rfl _ _ zero_over rfl (fun g w1 hg rg bg => ?_)
  simp only [Act.put, List.setIfInBounds_toArray, List.set_cons_zero, List.set_cons_succ]
  refine @S_step _ _ _ _ _ _ _ _ rfl ?_
  refine @wp_store_gen _ _ _ _ _ _ 101 (.tmp 1) (.tmp 6) rfl g #[.int .i64 k, .int .i64 x] rfl rfl 101 _ rg (by kernel_rfl) rfl (by simp [Value.oneCell']) (fun w2 r2 o2 => ?_)
  simp only [Act.put]
  refine @S_step _ _ _ _ _ _ _ _ rfl ?_
  refine @wp_res_gen _ _ _ _ w2 _ _ (.bool true) ?_ ?_
  · go_simp; try exact rfl
  simp only [Act.put, List.setIfInBounds_toArray, List.set_cons_zero, List.set_cons_succ]
  show Code.wpS _ _ _ _ _ _
  refine wpS_seq ?_
  refine wpS_list ?_
  refine @S_step _ _ _ _ _ _ _ _ rfl ?_
  refine @wp_res_gen _ _ _ _ w2 _ _ (.bool true) ?_ ?_
  · go_simp; try exact rfl
  simp only [Act.put, List.setIfInBounds_toArray, List.set_cons_zero, List.set_cons_succ]
  show Code.wpS _ _ _ _ _ _
  refine wpS_cond (t := true) rfl ?_
  simp only [if_true]
  refine wpS_list ?_
  refine @S_step _ _ _ _ _ _ _ _ rfl ?_
  refine @wp_res_gen _ _ _ _ w2 _ _ (.pointer (some ⟨g, 0, none⟩)) ?_ ?_
  · go_simp; try exact rfl
  simp only [Act.put, List.setIfInBounds_toArray, List.set_cons_zero, List.set_cons_succ]
  refine @S_step _ _ _ _ _ _ _ _ rfl ?_
  refine @wp_load_row _ _ _ _ _ _ 29 _ rfl g rfl 101 #[.int .i64 k, .int .i64 x] (0, 0) _ r2 Try.underlying29 rfl (by kernel_rfl) ?_
  simp only [Act.put, List.setIfInBounds_toArray, List.set_cons_zero, List.set_cons_succ]
  have hpg : p ≠ g := by have := hr.lt; omega
  have hr2 : Row w2 p 29 #[.int .i64 0, .int .i64 0] := (hr.below (bg.mono hg) hr.lt).only o2 hpg
  refine @S_step _ _ _ _ _ _ _ _ rfl ?_
  refine @wp_store_gen _ _ _ _ _ _ 29 (.tmp 0) (.tmp 10) rfl p #[.int .i64 k, .int .i64 x] rfl rfl 29 _ hr2 (by kernel_rfl) rfl (by simp [Value.oneCell']) (fun w3 r3 o3 => ?_)
  simp only [Act.put]
  refine ⟨rfl, _, rfl, .tuple #[], by simp [results, Try.results63], rfl, rfl, r3, ?_⟩
  have b := bg.mono hg
  exact ⟨by rw [o3.os, o2.os, b.os], by rw [o3.tape, o2.tape, b.tape], by rw [o3.output, o2.output, b.output], by rw [o3.size, o2.size]; exact b.size, fun i hi hne => ((o3.block i hne).trans (o2.block i (by omega))).trans (b.block i hi)⟩
set_option maxRecDepth 100000 in
set_option maxHeartbeats 800000 in
theorem catch_idle (p : Nat) (w : World) :
    CallsD Try.prog 63 #[.pointer (some ⟨p, 0, none⟩)] .returning w fun e u' w' => e = .returned (.tuple #[]) ∧ u' = .returning ∧ Below w.heap.size w w' := by
  refine callsD_of_wpS Try.func63 rfl fun c₀ cs hu => ?_
  refine wpS_seq ?_
  refine wpS_list ?_
  simp only [Try.ntmps63]
  simp only [List.size_toArray, List.length_cons, List.length_nil, Nat.reduceAdd, Nat.reduceSub, Array.replicate_succ, Array.replicate_zero, List.push_toArray, List.nil_append, List.cons_append, List.append_toArray]
  refine @S_rec_no _ _ _ _ _ _ _ _ rfl (by rfl) (by simp only [recoverD, hu]) ?_
  simp only [Act.put, List.setIfInBounds_toArray, List.set_cons_zero, List.set_cons_succ]
  have hta := ta_nil w
  generalize Value.nilIface = ov at hta ⊢
  refine @S_step _ _ _ _ _ _ _ _ rfl ?_
  refine @wp_res_gen _ _ _ _ w _ _ (.tuple #[.agg #[.int .i64 0, .int .i64 0], .bool false]) ?_ ?_
  · exact run_exec_ta rfl (hta)
  simp only [Act.put, List.setIfInBounds_toArray, List.set_cons_zero, List.set_cons_succ]
  refine @S_step _ _ _ _ _ _ _ _ rfl ?_
  refine @wp_res_gen _ _ _ _ w _ _ (.tuple #[.agg #[.int .i64 0, .int .i64 0], .bool false]) ?_ ?_
  · go_simp; try exact rfl
  simp only [Act.put, List.setIfInBounds_toArray, List.set_cons_zero, List.set_cons_succ]
  refine @S_step _ _ _ _ _ _ _ _ rfl ?_
  refine @wp_res_gen _ _ _ _ w _ _ (.agg #[.int .i64 0, .int .i64 0]) ?_ ?_
  · go_simp; try exact rfl
  simp only [Act.put, List.setIfInBounds_toArray, List.set_cons_zero, List.set_cons_succ]
  refine @S_step _ _ _ _ _ _ _ _ rfl ?_
  refine @wp_res_gen _ _ _ _ w _ _ (.bool false) ?_ ?_
  · go_simp; try exact rfl
  simp only [Act.put, List.setIfInBounds_toArray, List.set_cons_zero, List.set_cons_succ]
  refine @S_step _ _ _ _ _ _ _ _ rfl ?_
  refine @wp_alloc_gen _ _ _ _ _ _ 101 rfl _ _ zero_over rfl (fun g w1 hg rg bg => ?_)
  simp only [Act.put, List.setIfInBounds_toArray, List.set_cons_zero, List.set_cons_succ]
  refine @S_step _ _ _ _ _ _ _ _ rfl ?_
  refine @wp_store_gen _ _ _ _ _ _ 101 (.tmp 1) (.tmp 6) rfl g #[.int .i64 0, .int .i64 0] rfl rfl 101 _ rg (by kernel_rfl) rfl (by simp [Value.oneCell']) (fun w2 r2 o2 => ?_)
  simp only [Act.put]
  refine @S_step _ _ _ _ _ _ _ _ rfl ?_
  refine @wp_res_gen _ _ _ _ w2 _ _ (.bool false) ?_ ?_
  · go_simp; try exact rfl
  simp only [Act.put, List.setIfInBounds_toArray, List.set_cons_zero, List.set_cons_succ]
  show Code.wpS _ _ _ _ _ _
  refine wpS_seq ?_
  refine wpS_list ?_
  refine @S_step _ _ _ _ _ _ _ _ rfl ?_
  refine @wp_res_gen _ _ _ _ w2 _ _ (.bool false) ?_ ?_
  · go_simp; try exact rfl
  simp only [Act.put, List.setIfInBounds_toArray, List.set_cons_zero, List.set_cons_succ]
  show Code.wpS _ _ _ _ _ _
  refine wpS_cond (t := false) rfl ?_
  simp only [Bool.false_eq_true, if_false]
  refine wpS_of_wp (wp_skip ?_)
  refine ⟨rfl, .returning, ?_, .tuple #[], by simp [results, Try.results63], rfl, rfl, (bg.mono hg).trans (o2.below hg)⟩
  cases c₀
  simp_all
set_option maxRecDepth 100000 in
set_option maxHeartbeats 8000000 in
theorem dWalk_any (L : Lay) (hL : DOk L) (t : Tr) (s s' : Ms) (v : Int) (ev : Value) (W : World) (h : DR L s ev W) (hat : At L.p.body 0 t) (hE : EntD L t s v s') :
    Calls Try.prog 44 #[.pointer (some ⟨L.M, 0, none⟩)] W fun e W' => e = .returned (.agg #[.int .i64 ((s'.stopped 3 0).out.getD (0, 0)).1, .int .i64 ((s'.stopped 3 0).out.getD (0, 0)).2]) ∧ ∃ ev', DR L s' ev' W' ∧ RChg L ev W ev' W' := by
  have HL := Lib.hid hL
  have Hat := Lib.hid hat
  have Hm0 := Lib.hid h
  have HE := Lib.hid hE
  clear hL hat h hE
  have hmf : ∀ (fn : Fn) (first cap : Array Value) (w : World), (Instr.makeFunc fn first cap).run Try.prog w = .ok (.func fn first cap) w := fun _ _ _ _ => rfl
  go_enter_defers Try.func44, Try.ntmps44
  go_wp2_with (refine at_alloc _ rfl ?_)
  refine Stop.to ?_
  refine wpList_alloc_gen rfl 29 rfl _ _ zero_outc rfl ?_
  intro P w1 hP rP b1
  have hm := Hm0.out.below HL.out (b1.mono hP)
  have HP : Hid (FRow L ev w1 P 29 #[.int .i64 0, .int .i64 0]) := ⟨Hm0.out.far_new hP rP.lt, rP⟩
  have HC : Hid (RChg L ev W ev w1) := RChg.below (b1.mono hP)
  have Hcall := Lib.hid (HE.out 0 ev w1 Hat.out hm)
  clear hm b1 Hm0
  go_wp2_with fail
  refine Hcall.out.mono ?_
  rintro e W2 ⟨rfl, ev2, hm2, hc2⟩
  have HP2 := Lib.hid (HP.out.go HL.out hc2)
  have HC2 := Lib.hid (HC.out.trans hc2)
  have Hm2 := Lib.hid hm2
  clear hm2 hc2 Hcall HP HC
  cases hs : s'.out with
  | none =>
    rw [endD_none hs]
    have Hs := Lib.hid hs
    clear hs
    go_wp2_with (refine at_store _ _ _ rfl ?_)
    refine Stop.to ?_
    refine wpList_store_gen rfl 29 _ _ rfl P #[.int .i64 3, .int .i64 0] rfl rfl 29 _ HP2.out.2 (by kernel_rfl) rfl (by simp [Value.oneCell']) ?_
    intro W3 r3 o3
    go_wp2_with fail
    refine leaves_cons (f := 63) (args := #[.pointer (some ⟨P, 0, none⟩)]) (by simp) (by simp [go_sem]) ?_
    refine (catch_idle P W3).mono ?_
    rintro e u' w9 ⟨rfl, rfl, bb⟩
    refine ⟨_, results_cell_row Try.results44 _ _ P 29 _ (0, 0) _ rfl (r3.below bb r3.lt) Try.underlying29 rfl (by kernel_rfl), ?_⟩
    have g3 : W2.grownBy W3 (some P) := ⟨o3.os, o3.tape, o3.output, Nat.le_of_eq o3.size.symm, fun k hk hne => o3.block k (fun e => hne (by rw [e]))⟩
    have hm3 := (Hm2.out.grown HL.out g3 (fun g e => by cases e; exact ⟨HP2.out.1.lo, HP2.out.1.ev⟩)).below HL.out bb
    have hc3 := (HC2.out.more g3 (fun g e => by cases e; exact hP)).trans (RChg.below bb)
    refine ⟨?_, ev2, hm3, hc3⟩
    unfold Ms.stopped
    rw [Hs.out]; rfl
  | some o =>
    obtain ⟨k, x⟩ := o
    rw [endD_some hs]
    simp only [thrown]
    have Hs := Lib.hid hs
    clear hs
    go_wp2_with fail
    refine leaves_cons (f := 63) (args := #[.pointer (some ⟨P, 0, none⟩)]) (by simp) (by simp [go_sem]) ?_
    refine (catch_over P k x [] W2 HP2.out.2).mono ?_
    rintro e u' w9 ⟨rfl, rfl, rP, but⟩
    refine ⟨_, results_cell_row Try.results44 _ _ P 29 _ (0, 0) _ rfl rP Try.underlying29 rfl (by kernel_rfl), ?_⟩
    have g3 : W2.grownBy w9 (some P) := ⟨but.os, but.tape, but.output, but.size, fun k hk hne => but.block k hk (fun e => hne (by rw [e]))⟩
    have hm3 := Hm2.out.grown HL.out g3 (fun g e => by cases e; exact ⟨HP2.out.1.lo, HP2.out.1.ev⟩)
    have hc3 := HC2.out.more g3 (fun g e => by cases e; exact hP)
    refine ⟨?_, ev2, hm3, hc3⟩
    unfold Ms.stopped
    rw [show s'.out.isSome = true from by rw [Hs.out]; rfl, if_pos rfl, Hs.out]; rfl
end Go.Proofs.Ytlglilmgklipdaa
