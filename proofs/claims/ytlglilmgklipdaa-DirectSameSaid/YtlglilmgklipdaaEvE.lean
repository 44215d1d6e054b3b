/- The walk over the reference: are events alike? -/
import Derived.Test.YtlglilmgklipdaaKit
import Derived.Test.YtlglilmgklipdaaTrOpen
namespace Go.Proofs.Ytlglilmgklipdaa
set_option linter.unusedVariables false
open Go.RowKit Go.Deep

theorem evcells_at : ∀ (l : List EvV) (k : Nat) (e : EvV), l[k]? = some e → ∀ j u, e.cells[j]? = some u → (l.flatMap EvV.cells)[k * 3 + j]? = some u
  | [], k, e, h, _, _, _ => by simp at h
  | a :: l, 0, e, h, j, u, hj => by
    simp at h; subst h
    have hl : j < a.cells.length := (List.getElem?_eq_some_iff.1 hj).1
    simp only [List.flatMap_cons]
    rw [List.getElem?_append_left (by omega)]
    simpa using hj
  | a :: l, k + 1, e, h, j, u, hj => by
    simp only [List.flatMap_cons]
    rw [List.getElem?_append_right (by simp [EvV.cells]; omega)]
    have := evcells_at l k e (by simpa using h) j u hj
    rw [← this]; congr 1; simp [EvV.cells]; omega
theorem hold_load_at {P : Program} {ops : Array Oper} {S : World → Prop} {Q : Act → Prop} {a : Act} {o : Oper} {rest : List Oper} (hw : Region.wanted o (yielded ops a.tmps) = true) (ty : TypeId) (x : Operand) (ho : o.op = .load ty x) (ad : Addr) (hx : a.eval x = .pointer (some ad)) (cs : List Value) (d : TypeDesc)
    (hr : ∀ W, S W → ∀ j v, cs[j]? = some v → W.cell? (ad.add j) = some v) (hu : P.underlying ty = some d) (hd : (match d with | .struct _ | .array _ _ => true | _ => false) = true) (hi : (P.info? ty).map (·.size) = some cs.length)
    (h : wpHold P ops S Q rest (a.put o.dst (.agg cs.toArray))) : wpHold P ops S Q (o :: rest) a :=
  hold_value hw (.agg cs.toArray) (fun W hW => by
    simp only [execOp, ho, hx, Instr.loadAt, Instr.sureAddr, Sem.run_bind, Sem.run_pure, Result.andThen_ok, run_loadVar_at W ad ty cs d (hr W hW) hu hd hi]) h
theorem run_exec_binop {P : Program} {o : Oper} {w : World} {ρ : Operand → Value} {b : BinOp} {t t' : TypeId} {x y : Operand} (ho : o.op = .binOp b t x y t') (v : Value) (hg : (eqGuard b t x y (ρ x) (ρ y)).run P w = .ok () w) (hv : (binOp b t (ρ x) (ρ y)).run P w = .ok v w) : (execOp ρ o).run P w = .ok (.value v) w := by
  simp only [execOp, ho, Sem.run_bind, hg, hv, Result.andThen_ok, Sem.run_pure]
def evNe (e f : EvV) : Bool := !(e.var == f.var && (e.at_ == f.at_ && e.val == f.val))
theorem evNe_iff (e f : EvV) : evNe e f = false ↔ e = f := by
  cases e; cases f
  simp [evNe]
theorem evNe_iff' (e f : EvV) : evNe e f = true ↔ e ≠ f := by rw [← Bool.not_eq_false, ne_eq, ← evNe_iff]
theorem neq_event (e f : EvV) (W : World) : (binOp .neq 41 (.agg e.cells.toArray) (.agg f.cells.toArray)).run Try.prog W = .ok (.bool (evNe e f)) W := by
  unfold EvV.cells evNe
  simp [go_sem]
  by_cases h1 : e.var = f.var <;> by_cases h2 : e.at_ = f.at_ <;> by_cases h3 : e.val = f.val <;> simp [h1, h2, h3]

/-- Are events alike? -/
def EqAns (a b : List EvV) (w : World) (e : Ending) (w' : World) : Prop := ∃ β : Bool, e = .returned (.bool β) ∧ (β = true ↔ a = b) ∧ Below w.heap.size w w'

set_option maxRecDepth 100000 in
set_option maxHeartbeats 2000000 in
theorem refEvents_any (A B : Option Addr) (c d : Nat) (a b : List EvV) (w : World) (ha : Rd w A (a.flatMap EvV.cells)) (hb : Rd w B (b.flatMap EvV.cells)) (hla : a.length ≤ 1000000) :
    Calls Try.prog 19 #[.slice A a.length c, .slice B b.length d] w (EqAns a b w) := by
  by_cases hl : a.length = b.length
  rotate_left
  · have hlI : ((a.length : Int) != (b.length : Int)) = true := by simp; omega
    have Hl := Lib.hid hl
    clear hl
    go_enter Try.func19, Try.ntmps19
    go_wp2
    go_ret
    exact ⟨false, rfl, ⟨fun h => (by cases h), fun h => absurd (by rw [h]) Hl.out⟩, Below.refl _ _⟩
  obtain ⟨n, hn⟩ : ∃ n, n = a.length := ⟨_, rfl⟩
  rw [← hl, ← hn]
  have Hn := Lib.hid hn
  have Hl := Lib.hid hl
  have hnb : (n : Int) ≤ 1000000 := by omega
  clear hn hl hla
  obtain ⟨S, hSd⟩ : ∃ S, S = (fun W => Rd W A (a.flatMap EvV.cells) ∧ Rd W B (b.flatMap EvV.cells) ∧ Below w.heap.size w W) := ⟨_, rfl⟩
  have stS : St S := by rw [hSd]; infer_instance
  have s0 : ∀ W, S W → Rd W A (a.flatMap EvV.cells) := by rw [hSd]; exact fun W h => h.1
  have s1 : ∀ W, S W → Rd W B (b.flatMap EvV.cells) := by rw [hSd]; exact fun W h => h.2.1
  have s2 : ∀ W, S W → Below w.heap.size w W := by rw [hSd]; exact fun W h => h.2.2
  have hS : S w := by rw [hSd]; exact ⟨ha, hb, Below.refl _ _⟩
  have S0' := Lib.hid s0
  have S1' := Lib.hid s1
  have S2' := Lib.hid s2
  clear hSd s0 s1 s2 ha hb
  go_enter Try.func19, Try.ntmps19
  go_wp2
  go_loopw [5] (fun i wr => ∃ k : Nat, i = .int .i64 (k : Int) ∧ k ≤ n ∧ Hid (a.take k = b.take k) ∧ S wr) (fun i _ => n - (intOf i).toNat)
  case atStart => exact ⟨0, by simp, Nat.zero_le _, by simp [Hid], hS⟩
  case round =>
    clear hS
    obtain ⟨k, rfl, hk, Hk, hS⟩ := hrel
    by_cases hkn : k < n
    · obtain ⟨e, he⟩ : ∃ e, a[k]? = some e := ⟨_, List.getElem?_eq_getElem (by have := Hn.out; omega)⟩
      obtain ⟨f, hf⟩ : ∃ f, b[k]? = some f := ⟨_, List.getElem?_eq_getElem (by have := Hn.out; have := Hl.out; omega)⟩
      obtain ⟨ad, had, _⟩ := (S0'.out _ hS).part (k * 3) e.cells (evcells_at a k e he) (by simp [EvV.cells])
      obtain ⟨bd, hbd, _⟩ := (S1'.out _ hS).part (k * 3) f.cells (evcells_at b k f hf) (by simp [EvV.cells])
      subst had hbd
      have hca : ∀ W, S W → ∀ j v, e.cells[j]? = some v → W.cell? ((ad.add (k * 3)).add j) = some v := fun W h => by
        obtain ⟨ad', h1, h2⟩ := (S0'.out _ h).part (k * 3) e.cells (evcells_at a k e he) (by simp [EvV.cells])
        injection h1 with h1; subst h1; exact h2
      have hcb : ∀ W, S W → ∀ j v, f.cells[j]? = some v → W.cell? ((bd.add (k * 3)).add j) = some v := fun W h => by
        obtain ⟨ad', h1, h2⟩ := (S1'.out _ h).part (k * 3) f.cells (evcells_at b k f hf) (by simp [EvV.cells])
        injection h1 with h1; subst h1; exact h2
      have He := Lib.hid he
      have Hf := Lib.hid hf
      have Hca := Lib.hid hca
      have Hcb := Lib.hid hcb
      have hkn' : (k : Int) < (n : Int) := by omega
      have Hne := Lib.hid (neq_event e f)
      clear he hf hca hcb
      go_wp2
      refine region_hold S (by kernel_rfl) (by kernel_rfl) (St.drew hS) ?_
      clear hS
      iterate 3 (refine hold_value rfl ?_ (fun W hW => ?_) ?_; rotate_left; (focus (go_simp; exact rfl)); simp only [Act.put, List.setIfInBounds_toArray, List.set_cons_zero, List.set_cons_succ])
      (refine hold_load_at rfl 41 _ rfl (ad.add (k * 3)) rfl e.cells _ Hca.out Try.underlying41 rfl (by kernel_rfl) ?_; simp only [Act.put, List.setIfInBounds_toArray, List.set_cons_zero, List.set_cons_succ])
      iterate 3 (refine hold_value rfl ?_ (fun W hW => ?_) ?_; rotate_left; (focus (go_simp; exact rfl)); simp only [Act.put, List.setIfInBounds_toArray, List.set_cons_zero, List.set_cons_succ])
      (refine hold_load_at rfl 41 _ rfl (bd.add (k * 3)) rfl f.cells _ Hcb.out Try.underlying41 rfl (by kernel_rfl) ?_; simp only [Act.put, List.setIfInBounds_toArray, List.set_cons_zero, List.set_cons_succ])
      refine hold_value rfl (.bool (evNe e f)) (fun W _ => run_exec_binop rfl _ (run_eqGuard_agg _ _ _ _ _ _ _ (by kernel_rfl)) (by exact Hne.out W)) ?_
      simp only [Act.put, List.setIfInBounds_toArray, List.set_cons_zero, List.set_cons_succ]
      refine wpHold_nil fun W hS => ?_
      by_cases hef : evNe e f = true
      · rw [hef]
        have Hef := Lib.hid hef
        clear hef
        go_wp2
        go_ret
        have hne : a ≠ b := fun h => (evNe_iff' e f).1 Hef.out (by
          have h1 := He.out
          rw [h, Hf.out] at h1
          exact (Option.some.inj h1).symm)
        exact ⟨false, rfl, ⟨fun h => (by cases h), fun h => absurd h hne⟩, S2'.out _ hS⟩
      · have hef : evNe e f = false := by simpa using hef
        rw [hef]
        have Hef := Lib.hid hef
        clear hef
        go_wp2
        go_roundw
        case rel =>
          refine ⟨k + 1, by go_num, by omega, ?_, hS⟩
          show _ = _
          obtain ⟨h1, h1'⟩ := List.getElem?_eq_some_iff.1 He.out
          obtain ⟨h2, h2'⟩ := List.getElem?_eq_some_iff.1 Hf.out
          rw [List.take_succ_eq_append_getElem h1, List.take_succ_eq_append_getElem h2, h1', h2', Hk.out, (evNe_iff e f).1 Hef.out]
        case measure => simp [intOf]; omega
    · obtain rfl : k = n := by omega
      have heq : a = b := by
        have h := Hk.out
        have h1 := Hn.out
        have h2 := Hl.out
        rw [List.take_of_length_le (by omega), List.take_of_length_le (by omega)] at h
        exact h
      have Heq := Lib.hid heq
      clear heq hkn
      go_wp2
      go_ret
      exact ⟨true, rfl, ⟨fun _ => Heq.out, fun _ => rfl⟩, S2'.out _ hS⟩
end Go.Proofs.Ytlglilmgklipdaa
