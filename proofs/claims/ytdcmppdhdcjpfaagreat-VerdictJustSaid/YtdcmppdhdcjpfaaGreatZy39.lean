/- Lemmas for VerdictJustP. -/
import Derived.Test.YtdcmppdhdcjpfaaGreatZy1
import Derived.Test.YtdcmppdhdcjpfaaGreatZy36
import Derived.Recover
import Derived.Defers
set_option linter.unusedVariables false
set_option linter.unusedSimpArgs false
set_option maxRecDepth 100000
set_option maxHeartbeats 16000000
namespace Go.Proofs.YtdcmppdhdcjpfaaGreat
open Go.RowKit Go.Deep
theorem Vg {w : World} : (zeroValue 37).run Tryz.prog w = .ok (.agg #[.int .i64 0, .int .i64 0]) w := by kernel_rfl
structure But (g : Nat) (w w' : World) : Prop where
 os : w'.os = w.os
 tape : w'.tape = w.tape
 output : w'.output = w.output
 size : w.heap.size ≤ w'.heap.size
 block : ∀ k, k < w.heap.size → k ≠ g → w'.heap[k]? = w.heap[k]?
section
variable {P : Program} {Q : Exit → Act → List Frame → World → Prop} {a : Act} {cs : List Frame} {w : World} {ops : Array Oper} {rest : List Oper} {o : Oper}
def ZU (P : Program) (ops : Array Oper) (Q : Exit → Act → List Frame → World → Prop) : List Oper → Act → List Frame → World → Prop
 | [], a, cs, w => Q .normal a cs w
 | o :: rest, a, cs, w =>
  if Region.wanted o (yielded ops a.tmps) then
   match (execOp a.eval o).run P w with
   | .ok .recover w' =>
    match recoverD cs with
    | some (v, cs') => ZU P ops Q rest (a.put o.dst v) cs' w'
    | none => ZU P ops Q rest (a.put o.dst .nilIface) cs w'
   | r => o.upon P a (fun a' w' => ZU P ops Q rest a' cs w') (fun e a' w' => Q e a' cs w') r
  else ZU P ops Q rest (a.put o.dst undef) cs w
theorem AdN (l : List Oper) : ∀ k, (∀ j, l[j]? = ops[k + j]?) → wpOpsS P ops Q (List.range' k l.length) = ZU P ops Q l := by
 induction l with
 | nil => intro k _; funext a cs w; simp [wpOpsS, ZU]
 | cons o l ih =>
  intro k h;have c : ops[k]? = some o := by have := h 0; simpa using this.symm
  have hi := ih (k + 1) (fun j => by have := h (j + 1); simp only [LZ] at this; rw [this]; congr 1; omega);funext a cs w;rw [Ld, List.range'_succ, wpOpsS, c, ZU, hi];rfl
theorem YB {id : Nat} {l : List Oper} (h : ZU P l.toArray Q l a cs w) : (Code.region id l.toArray false).wpS P Q a cs w := by
 refine wpS_region ?_;rw [Lj, List.range_eq_range', AdN l 0 (fun j => by rw [LJ]; simp)];exact h
theorem Yx {o : Oper} {y : Nat → Option Bool} (h : o.guard = none) : Region.wanted o y = true := by unfold Region.wanted; rw [h]
theorem Z6 (hgd : o.guard = none) (h : o.wp P a w (fun a' w' => ZU P ops Q rest a' cs w') (fun e a' w' => Q e a' cs w')) : ZU P ops Q (o :: rest) a cs w := by
 simp only [ZU, Yx hgd, if_true];unfold Oper.wp at h;split
 · rename_i c; rw [c] at h; exact h.elim
 · exact h
theorem Akj (hgd : o.guard = none) (he : (execOp a.eval o).run P w = .ok .recover w) {v : Value} {cs' : List Frame} (hr : recoverD cs = some (v, cs')) (h : ZU P ops Q rest (a.put o.dst v) cs' w) : ZU P ops Q (o :: rest) a cs w := by
 simp only [ZU, Yx hgd, if_true, he, hr];exact h
theorem AgP (hgd : o.guard = none) (he : (execOp a.eval o).run P w = .ok .recover w) (hr : recoverD cs = none) (h : ZU P ops Q rest (a.put o.dst .nilIface) cs w) : ZU P ops Q (o :: rest) a cs w := by
 simp only [ZU, Yx hgd, if_true, he, hr];exact h
end
theorem Abf {w : World} : (zeroValue 181).run Tryz.prog w = .ok (.agg #[.int .i64 0, .int .i64 0]) w := by kernel_rfl
theorem Vt {P : Program} {ρ : Operand → Value} {o : Oper} {x : Operand} {t u : TypeId} {b : Bool} {v : Value} {w w' : World} (ho : o.op = .typeAssert x t u b) (h : (Instr.typeAssert (ρ x) t u b).run P w = .ok v w') : (execOp ρ o).run P w = .ok (.value v) w' := by
 simp only [execOp, ho, Sem.run_bind, h, Result.andThen_ok, Sem.run_pure]
theorem Aju (k x : Int) (w : World) : (Instr.typeAssert (Adm k x) 20 181 true).run Tryz.prog w = .ok (.tuple #[.agg #[.int .i64 k, .int .i64 x], .bool true]) w := by kernel_rfl
theorem Akb (w : World) : (Instr.typeAssert .nilIface 20 181 true).run Tryz.prog w = .ok (.tuple #[.agg #[.int .i64 0, .int .i64 0], .bool false]) w := by kernel_rfl
theorem Ad2 (p : Nat) (k x : Int) (older : List PanicEntry) (w : World) (hr : Row w p 37 #[.int .i64 0, .int .i64 0]) :
 CallsD Tryz.prog 118 #[.pointer (some ⟨p, 0, none⟩)] (.panicking ({ v := Adm k x, recovered := false } :: older)) w fun e u' w' =>
  e = .returned (.tuple #[]) ∧ u' = .panicking ({ v := Adm k x, recovered := true } :: older) ∧ Row w' p 37 #[.int .i64 k, .int .i64 x] ∧ But p w w' := by
 have d := Aju k x w;generalize Adm k x = ov at d ⊢;refine callsD_of_wpS Tryz.func118 rfl fun s r u => ?_
 refine wpS_seq ?_;refine YB ?_;simp only [Tryz.ntmps118];simp only [Lj, Ld, Lp, Nat.reduceAdd, Nat.reduceSub, Ll, Lm, Lr, Lo, Lk, L2];refine @Akj _ _ _ _ _ _ _ _ rfl (by rfl) ov ({ s with mode := .panicking ({ v := ov, recovered := true } :: older) } :: r) (by simp only [recoverD, u]) ?_;simp only [Act.put, Qa, Qb, Qc];refine @Z6 _ _ _ _ _ _ _ _ rfl ?_;refine @Ql _ _ _ _ w _ _ (.tuple #[.agg #[.int .i64 k, .int .i64 x], .bool true]) ?_ ?_
 · exact Vt rfl (d)
 simp only [Act.put, Qa, Qb, Qc];refine @Z6 _ _ _ _ _ _ _ _ rfl ?_;refine @Ql _ _ _ _ w _ _ (.tuple #[.agg #[.int .i64 k, .int .i64 x], .bool true]) ?_ ?_
 · go_simp; try exact rfl
 simp only [Act.put, Qa, Qb, Qc];refine @Z6 _ _ _ _ _ _ _ _ rfl ?_;refine @Ql _ _ _ _ w _ _ (.agg #[.int .i64 k, .int .i64 x]) ?_ ?_
 · go_simp; try exact rfl
 simp only [Act.put, Qa, Qb, Qc];refine @Z6 _ _ _ _ _ _ _ _ rfl ?_;refine @Ql _ _ _ _ w _ _ (.bool true) ?_ ?_
 · go_simp; try exact rfl
 simp only [Act.put, Qa, Qb, Qc];refine @Z6 _ _ _ _ _ _ _ _ rfl ?_;refine @QO _ _ _ _ _ _ 181 rfl _ _ Abf rfl (fun g w1 q rg o => ?_);simp only [Act.put, Qa, Qb, Qc];refine @Z6 _ _ _ _ _ _ _ _ rfl ?_;refine @Zs _ _ _ _ _ _ 181 (.tmp 1) (.tmp 6) rfl g #[.int .i64 k, .int .i64 x] rfl rfl 181 _ rg (by kernel_rfl) rfl (by simp [Value.oneCell']) (fun j y c => ?_);simp only [Act.put];refine @Z6 _ _ _ _ _ _ _ _ rfl ?_;refine @Ql _ _ _ _ j _ _ (.bool true) ?_ ?_
 · go_simp; try exact rfl
 simp only [Act.put, Qa, Qb, Qc];show Code.wpS _ _ _ _ _ _;refine wpS_seq ?_;refine YB ?_;refine @Z6 _ _ _ _ _ _ _ _ rfl ?_;refine @Ql _ _ _ _ j _ _ (.bool true) ?_ ?_
 · go_simp; try exact rfl
 simp only [Act.put, Qa, Qb, Qc];show Code.wpS _ _ _ _ _ _;refine wpS_cond (t := true) rfl ?_;simp only [if_true];refine YB ?_;refine @Z6 _ _ _ _ _ _ _ _ rfl ?_;refine @Ql _ _ _ _ j _ _ (.pointer (some ⟨g, 0, none⟩)) ?_ ?_
 · go_simp; try exact rfl
 simp only [Act.put, Qa, Qb, Qc];refine @Z6 _ _ _ _ _ _ _ _ rfl ?_;refine @wp_load_row _ _ _ _ _ _ 37 _ rfl g rfl 181 #[.int .i64 k, .int .i64 x] (0, 0) _ y Tryz.underlying37 rfl (by kernel_rfl) ?_;simp only [Act.put, Qa, Qb, Qc];have m : p ≠ g := by have := hr.lt; omega
 have n : Row j p 37 #[.int .i64 0, .int .i64 0] := (hr.below (o.mono q) hr.lt).only c m;refine @Z6 _ _ _ _ _ _ _ _ rfl ?_;refine @Zs _ _ _ _ _ _ 37 (.tmp 0) (.tmp 10) rfl p #[.int .i64 k, .int .i64 x] rfl rfl 37 _ n (by kernel_rfl) rfl (by simp [Value.oneCell']) (fun w3 z h => ?_);simp only [Act.put];refine ⟨rfl, _, rfl, .tuple #[], by simp [results, Tryz.results118], rfl, rfl, z, ?_⟩;have b := o.mono q;exact ⟨by rw [h.os, c.os, b.os], by rw [h.tape, c.tape, b.tape], by rw [h.output, c.output, b.output], by rw [h.size, c.size]; exact b.size, fun i hi l => ((h.block i l).trans (c.block i (by omega))).trans (b.block i hi)⟩
theorem Ad1 (p : Nat) (w : World) :
 CallsD Tryz.prog 118 #[.pointer (some ⟨p, 0, none⟩)] .returning w fun e u' w' => e = .returned (.tuple #[]) ∧ u' = .returning ∧ Below w.heap.size w w' := by
 refine callsD_of_wpS Tryz.func118 rfl fun j n k => ?_
 refine wpS_seq ?_;refine YB ?_;simp only [Tryz.ntmps118];simp only [Lj, Ld, Lp, Nat.reduceAdd, Nat.reduceSub, Ll, Lm, Lr, Lo, Lk, L2];refine @AgP _ _ _ _ _ _ _ _ rfl (by rfl) (by simp only [recoverD, k]) ?_;simp only [Act.put, Qa, Qb, Qc];have c := Akb w;generalize Value.nilIface = ov at c ⊢;refine @Z6 _ _ _ _ _ _ _ _ rfl ?_;refine @Ql _ _ _ _ w _ _ (.tuple #[.agg #[.int .i64 0, .int .i64 0], .bool false]) ?_ ?_
 · exact Vt rfl (c)
 simp only [Act.put, Qa, Qb, Qc];refine @Z6 _ _ _ _ _ _ _ _ rfl ?_;refine @Ql _ _ _ _ w _ _ (.tuple #[.agg #[.int .i64 0, .int .i64 0], .bool false]) ?_ ?_
 · go_simp; try exact rfl
 simp only [Act.put, Qa, Qb, Qc];refine @Z6 _ _ _ _ _ _ _ _ rfl ?_;refine @Ql _ _ _ _ w _ _ (.agg #[.int .i64 0, .int .i64 0]) ?_ ?_
 · go_simp; try exact rfl
 simp only [Act.put, Qa, Qb, Qc];refine @Z6 _ _ _ _ _ _ _ _ rfl ?_;refine @Ql _ _ _ _ w _ _ (.bool false) ?_ ?_
 · go_simp; try exact rfl
 simp only [Act.put, Qa, Qb, Qc];refine @Z6 _ _ _ _ _ _ _ _ rfl ?_;refine @QO _ _ _ _ _ _ 181 rfl _ _ Abf rfl (fun g q d m i => ?_);simp only [Act.put, Qa, Qb, Qc];refine @Z6 _ _ _ _ _ _ _ _ rfl ?_;refine @Zs _ _ _ _ _ _ 181 (.tmp 1) (.tmp 6) rfl g #[.int .i64 0, .int .i64 0] rfl rfl 181 _ m (by kernel_rfl) rfl (by simp [Value.oneCell']) (fun h o l => ?_);simp only [Act.put];refine @Z6 _ _ _ _ _ _ _ _ rfl ?_;refine @Ql _ _ _ _ h _ _ (.bool false) ?_ ?_
 · go_simp; try exact rfl
 simp only [Act.put, Qa, Qb, Qc];show Code.wpS _ _ _ _ _ _;refine wpS_seq ?_;refine YB ?_;refine @Z6 _ _ _ _ _ _ _ _ rfl ?_;refine @Ql _ _ _ _ h _ _ (.bool false) ?_ ?_
 · go_simp; try exact rfl
 simp only [Act.put, Qa, Qb, Qc];show Code.wpS _ _ _ _ _ _;refine wpS_cond (t := false) rfl ?_;simp only [Bool.false_eq_true, if_false];refine wpS_of_wp (wp_skip ?_);refine ⟨rfl, .returning, ?_, .tuple #[], by simp [results, Tryz.results118], rfl, rfl, (i.mono d).trans (l.below d)⟩;cases j;simp_all
theorem AfT (L : Lay) (hL : DOk L) (t : Tr) (s s' : Ms) (v : Int) (ev : Value) (W : World) (h : DR L s ev W) (hat : At L.p.body 0 t) (hE : EntD L t s v s') :
 Calls Tryz.prog 57 #[.pointer (some ⟨L.M, 0, none⟩)] W fun e W' => e = .returned (.agg #[.int .i64 ((s'.stopped 3 0).out.getD (0, 0)).1, .int .i64 ((s'.stopped 3 0).out.getD (0, 0)).2]) ∧ ∃ ev', DR L s' ev' W' ∧ RChg L ev W ev' W' := by
 have u := Lh hL;have ab := Lh hat;have j := Lh h;have HE := Lh hE;clear hL hat h hE;have ac : ∀ (fn : Fn) (first cap : Array Value) (w : World), (Instr.makeFunc fn first cap).run Tryz.prog w = .ok (.func fn first cap) w := fun _ _ _ _ => rfl
 go_enter_defers Tryz.func57, Tryz.ntmps57
 go_wp2_with (refine QH _ rfl ?_)
 refine Stop.to ?_;refine Qj rfl 37 rfl _ _ Vg rfl ?_;intro P w1 hP rP b1;have hm := j.out.below u.out (b1.mono hP);have HP : Hid (FRow L ev w1 P 37 #[.int .i64 0, .int .i64 0]) := ⟨j.out.far_new hP rP.lt, rP⟩;have HC : Hid (RChg L ev W ev w1) := RChg.below (b1.mono hP);have d := Lh (HE.out 0 ev w1 ab.out hm);clear hm b1 j;go_wp2_with fail
 refine d.out.mono ?_;rintro e W2 ⟨rfl, z, aa, l⟩;have c := Lh (HP.out.go u.out l);have r := Lh (HC.out.trans l);have y := Lh aa;clear aa l d HP HC;cases hs : s'.out with
 | none =>
  rw [QR hs];have Hs := Lh hs;clear hs;go_wp2_with (refine Qs _ _ _ rfl ?_)
  refine Stop.to ?_;refine Qk rfl 37 _ _ rfl P #[.int .i64 3, .int .i64 0] rfl rfl 37 _ c.out.2 (by kernel_rfl) rfl (by simp [Value.oneCell']) ?_;intro W3 r3 o3;go_wp2_with fail
  refine leaves_cons (f := 118) (args := #[.pointer (some ⟨P, 0, none⟩)]) (by simp) (by simp [go_sem]) ?_;refine (Ad1 P W3).mono ?_;rintro e u' w9 ⟨rfl, rfl, bb⟩;refine ⟨_, results_cell_row Tryz.results57 _ _ P 37 _ (0, 0) _ rfl (r3.below bb r3.lt) Tryz.underlying37 rfl (by kernel_rfl), ?_⟩;have g3 : W2.grownBy W3 (some P) := ⟨o3.os, o3.tape, o3.output, LA o3.size.symm, fun k hk q => o3.block k (fun e => q (by rw [e]))⟩;have n := (y.out.grown u.out g3 (fun g e => by cases e; exact ⟨c.out.1.lo, c.out.1.ev⟩)).below u.out bb;have m := (r.out.more g3 (fun g e => by cases e; exact hP)).trans (RChg.below bb);refine ⟨?_, z, n, m⟩;unfold Ms.stopped;rw [Hs.out]; rfl
 | some o =>
  obtain ⟨k, x⟩ := o;rw [Zl hs];simp only [Q7];have Hs := Lh hs;clear hs;go_wp2_with fail
  refine leaves_cons (f := 118) (args := #[.pointer (some ⟨P, 0, none⟩)]) (by simp) (by simp [go_sem]) ?_;refine (Ad2 P k x [] W2 c.out.2).mono ?_;rintro e u' w9 ⟨rfl, rfl, rP, i⟩;refine ⟨_, results_cell_row Tryz.results57 _ _ P 37 _ (0, 0) _ rfl rP Tryz.underlying37 rfl (by kernel_rfl), ?_⟩;have g3 : W2.grownBy w9 (some P) := ⟨i.os, i.tape, i.output, i.size, fun k hk q => i.block k hk (fun e => q (by rw [e]))⟩;have n := y.out.grown u.out g3 (fun g e => by cases e; exact ⟨c.out.1.lo, c.out.1.ev⟩);have m := r.out.more g3 (fun g e => by cases e; exact hP);refine ⟨?_, z, n, m⟩;unfold Ms.stopped;rw [show s'.out.isSome = true from by rw [Hs.out]; rfl, if_pos rfl, Hs.out]; rfl
end Go.Proofs.YtdcmppdhdcjpfaaGreat
