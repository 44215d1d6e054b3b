/- Lemmas for JnBll. -/
import Derived.Test.YtcgglolckkeeiaaGreatZk13
import Derived.Test.YtcgglolckkeeiaaGreatZk9
namespace Go.Proofs.YtcgglolckkeeiaaGreat
set_option linter.unusedVariables false
open Go.RowKit Go.Deep
theorem el_at {α : Type} {c : α → List Value} {sz : Nat} (hsz : ∀ x, (c x).length = sz) (h0 : 0 < sz) {W : World} {A : Option Addr} {l : List α} (hr : Rd W A (l.flatMap c)) {k : Nat} {x : α} (hx : l[k]? = some x) :
 ∃ ad, A = some ad ∧ ∀ j u, (c x)[j]? = some u → W.cell? ((ad.add (k * sz)).add j) = some u := by
 have hl : ∀ (l : List α) (k : Nat) (x : α), l[k]? = some x → ∀ j u, (c x)[j]? = some u → (l.flatMap c)[k * sz + j]? = some u := by
  intro l
  induction l with
  | nil => intro k x h; simp at h
  | cons y l ih =>
   intro k x h j u hu
   rw [List.flatMap_cons]
   match k, h with
   | 0, h =>
    simp at h; subst h
    rw [Nat.zero_mul, Nat.zero_add, List.getElem?_append_left (List.getElem?_eq_some_iff.1 hu).1]; exact hu
   | k + 1, h =>
    rw [List.getElem?_cons_succ] at h
    rw [List.getElem?_append_right (by rw [hsz, Nat.add_mul]; omega), hsz, show (k + 1) * sz + j - sz = k * sz + j by rw [Nat.add_mul]; omega]
    exact ih k x h j u hu
 exact hr.part (k * sz) (c x) (hl l k x hx) (fun e => by have := hsz x; rw [e] at this; simp at this; omega)
set_option maxRecDepth 100000 in
set_option maxHeartbeats 2000000 in
theorem eqInts_any (A B : Option Addr) (c d na nb : Nat) (a b : List Int) (w : World) (hna : na = a.length) (hnb : nb = b.length) (ha : Rd w A (ints a)) (hb : Rd w B (ints b)) (hla : a.length ≤ 1000000) :
 Calls Tryz.prog 101 #[.slice A na c, .slice B nb d] w fun e w' => e = .returned (.bool (decide (a = b))) ∧ Below w.heap.size w w' := by
 by_cases hl : na = nb
 rotate_left
 · have hlI : ((na : Int) != (nb : Int)) = true := by simp; omega
   have hne : a ≠ b := fun e => hl (by rw [hna, hnb, e])
   have Hne : Hid (decide (a = b) = false) := by show _ = _; simp [hne]
   clear hl hna hnb hne ha hb hla
   go_enter Tryz.func101, Tryz.ntmps101
   go_wp2
   go_ret
   exact ⟨ret_b Hne.out, Below.refl _ _⟩
 subst hl
 have Ha := Lib.hid hna
 have Hb := Lib.hid hnb
 have hn6 : (na : Int) ≤ 1000000 := by omega
 clear hna hnb hla
 obtain ⟨S, hSd⟩ : ∃ S, S = (fun W => Rd W A (ints a) ∧ Rd W B (ints b) ∧ Below w.heap.size w W) := ⟨_, rfl⟩
 have stS : St S := by rw [hSd]; infer_instance
 have S0' : Hid (∀ W, S W → Rd W A (ints a)) := by show ∀ W, _; rw [hSd]; exact fun W h => h.1
 have S1' : Hid (∀ W, S W → Rd W B (ints b)) := by show ∀ W, _; rw [hSd]; exact fun W h => h.2.1
 have S2' : Hid (∀ W, S W → Below w.heap.size w W) := by show ∀ W, _; rw [hSd]; exact fun W h => h.2.2
 have hS : S w := by rw [hSd]; exact ⟨ha, hb, Below.refl _ _⟩
 clear hSd ha hb
 go_enter Tryz.func101, Tryz.ntmps101
 go_wp2
 go_loopw [13] (fun i wr => ∃ k : Nat, i = .int .i64 (k : Int) ∧ k ≤ na ∧ Hid (a.take k = b.take k) ∧ S wr) (fun i _ => na - (intOf i).toNat)
 case atStart => exact ⟨0, by simp, Nat.zero_le _, by simp [Hid], hS⟩
 case round =>
  clear hS
  obtain ⟨k, rfl, hk, Hk, hS⟩ := hrel
  by_cases hkn : k < na
  · obtain ⟨e, he⟩ : ∃ e, a[k]? = some e := ⟨_, List.getElem?_eq_getElem (by have := Ha.out; omega)⟩
    obtain ⟨f, hf⟩ : ∃ f, b[k]? = some f := ⟨_, List.getElem?_eq_getElem (by have := Hb.out; omega)⟩
    obtain ⟨ad, had, _⟩ := int_at (S0'.out _ hS) he
    obtain ⟨bd, hbd, _⟩ := int_at (S1'.out _ hS) hf
    subst had hbd
    have Hca : Hid (∀ W, S W → W.cell? (ad.add k) = some (.int .i64 e)) := fun W h => by
     obtain ⟨ad', h1, h2⟩ := int_at (S0'.out _ h) he
     injection h1 with h1; subst h1; exact h2
    have Hcb : Hid (∀ W, S W → W.cell? (bd.add k) = some (.int .i64 f)) := fun W h => by
     obtain ⟨ad', h1, h2⟩ := int_at (S1'.out _ h) hf
     injection h1 with h1; subst h1; exact h2
    have He := Lib.hid he
    have Hf := Lib.hid hf
    have hkn' : (k : Int) < (na : Int) := by omega
    have ewk : IntKind.i64.wrap ((k : Int) + 1) = (k : Int) + 1 := IntWalk.i64_in _ (by omega)
    clear he hf
    go_wp2
    refine region_hold S (by kernel_rfl) (by kernel_rfl) (St.drew hS) ?_
    clear hS
    iterate 3 (refine hold_value rfl ?_ (fun W hW => ?_) ?_; rotate_left; (focus (go_simp; exact rfl)); simp only [Act.put, List.setIfInBounds_toArray, List.set_cons_zero, List.set_cons_succ])
    (refine hold_value rfl ?_ (fun W hW => ?_) ?_; rotate_left; (focus (have c := Hca.out W hW; go_simp; exact rfl)); simp only [Act.put, List.setIfInBounds_toArray, List.set_cons_zero, List.set_cons_succ])
    iterate 3 (refine hold_value rfl ?_ (fun W hW => ?_) ?_; rotate_left; (focus (go_simp; exact rfl)); simp only [Act.put, List.setIfInBounds_toArray, List.set_cons_zero, List.set_cons_succ])
    (refine hold_value rfl ?_ (fun W hW => ?_) ?_; rotate_left; (focus (have c := Hcb.out W hW; go_simp; exact rfl)); simp only [Act.put, List.setIfInBounds_toArray, List.set_cons_zero, List.set_cons_succ])
    (refine hold_value rfl ?_ (fun W hW => ?_) ?_; rotate_left; (focus (go_simp; exact rfl)); simp only [Act.put, List.setIfInBounds_toArray, List.set_cons_zero, List.set_cons_succ])
    refine wpHold_nil fun W hS => ?_
    by_cases hef : e = f
    · subst hef
      have hnn : (e != e) = false := by simp
      have Hst : Hid (a.take (k + 1) = b.take (k + 1)) := by
       show _ = _
       rw [List.take_add_one, List.take_add_one, Hk.out, He.out, Hf.out]
      clear Hca Hcb He Hf Hk
      go_wp2
      go_roundw
      case rel => exact ⟨k + 1, by go_num, by omega, Hst, hS⟩
      case measure => simp [intOf]; omega
    · have hnn : (e != f) = true := by simpa using hef
      have Hne : Hid (decide (a = b) = false) := by
       show _ = _
       have : a ≠ b := fun h => hef (by
        have h1 := He.out
        rw [h, Hf.out] at h1
        exact (Option.some.inj h1).symm)
       simp [this]
      clear Hca Hcb He Hf Hk hef
      go_wp2
      go_ret
      exact ⟨ret_b Hne.out, S2'.out _ hS⟩
  · obtain rfl : k = na := by omega
    have Heq : Hid (decide (a = b) = true) := by
     show _ = _
     have h1 := Hk.out
     rw [List.take_of_length_le (by have := Ha.out; omega), List.take_of_length_le (by have := Hb.out; omega)] at h1
     simp [h1]
    clear hkn hk
    go_wp2
    go_ret
    exact ⟨ret_b Heq.out, S2'.out _ hS⟩
theorem nd_eq {x y : Nd} (h1 : x.tag = y.tag) (h2 : x.n = y.n) : x = y := by cases x; cases y; simp_all
instance : DecidableEq Nd := fun x y => decidable_of_iff (x.tag = y.tag ∧ x.n = y.n) ⟨fun h => nd_eq h.1 h.2, fun h => by rw [h]; exact ⟨rfl, rfl⟩⟩
def ndsC (l : List Nd) : List Value := l.flatMap Nd.cells
theorem neq_node (x y : Nd) (W : World) : (binOp .neq 74 (.agg x.cells.toArray) (.agg y.cells.toArray)).run Tryz.prog W = .ok (.bool (!(x.tag == y.tag && x.n == y.n))) W := by
 simp [go_sem, Nd.cells]
 by_cases h1 : x.tag = y.tag <;> by_cases h2 : x.n = y.n <;> simp [h1, h2]
theorem neq_nodeD (x y : Nd) (W : World) : (binOp .neq 74 (.agg x.cells.toArray) (.agg y.cells.toArray)).run Tryz.prog W = .ok (.bool (!decide (x = y))) W := by
 rw [neq_node]
 by_cases h : x = y
 · subst h; simp
 · have : (x.tag == y.tag && x.n == y.n) = false := by
    by_cases h1 : x.tag = y.tag
    · by_cases h2 : x.n = y.n
      · exact absurd (nd_eq h1 h2) h
      · simp [h2]
    · simp [h1]
   rw [this]; simp [h]
theorem run_exec_neq {P : Program} {ρ : Operand → Value} {o : Oper} {x y : Operand} {t u : TypeId} {vx vy v : Value} {W : World} (ho : o.op = .binOp .neq t x y u) (hx : ρ x = vx) (hy : ρ y = vy) (hg : (eqGuard .neq t x y vx vy).run P W = .ok () W) (hv : (binOp .neq t vx vy).run P W = .ok v W) : (execOp ρ o).run P W = .ok (.value v) W := by
 simp only [execOp, ho, hx, hy, Sem.run_bind, Sem.run_pure, hg, hv, Result.andThen_ok]
set_option maxRecDepth 100000 in
set_option maxHeartbeats 2000000 in
theorem eqNodes_any (A B : Option Addr) (c d na nb : Nat) (a b : List Nd) (w : World) (hna : na = a.length) (hnb : nb = b.length) (ha : Rd w A (ndsC a)) (hb : Rd w B (ndsC b)) (hla : a.length ≤ 1000000) :
 Calls Tryz.prog 102 #[.slice A na c, .slice B nb d] w fun e w' => e = .returned (.bool (decide (a = b))) ∧ Below w.heap.size w w' := by
 by_cases hl : na = nb
 rotate_left
 · have hlI : ((na : Int) != (nb : Int)) = true := by simp; omega
   have hne : a ≠ b := fun e => hl (by rw [hna, hnb, e])
   have Hne : Hid (decide (a = b) = false) := by show _ = _; simp [hne]
   clear hl hna hnb hne ha hb hla
   go_enter Tryz.func102, Tryz.ntmps102
   go_wp2
   go_ret
   exact ⟨ret_b Hne.out, Below.refl _ _⟩
 subst hl
 have Ha := Lib.hid hna
 have Hb := Lib.hid hnb
 have hn6 : (na : Int) ≤ 1000000 := by omega
 clear hna hnb hla
 obtain ⟨S, hSd⟩ : ∃ S, S = (fun W => Rd W A (ndsC a) ∧ Rd W B (ndsC b) ∧ Below w.heap.size w W) := ⟨_, rfl⟩
 have stS : St S := by rw [hSd]; infer_instance
 have S0' : Hid (∀ W, S W → Rd W A (ndsC a)) := by show ∀ W, _; rw [hSd]; exact fun W h => h.1
 have S1' : Hid (∀ W, S W → Rd W B (ndsC b)) := by show ∀ W, _; rw [hSd]; exact fun W h => h.2.1
 have S2' : Hid (∀ W, S W → Below w.heap.size w W) := by show ∀ W, _; rw [hSd]; exact fun W h => h.2.2
 have hS : S w := by rw [hSd]; exact ⟨ha, hb, Below.refl _ _⟩
 clear hSd ha hb
 go_enter Tryz.func102, Tryz.ntmps102
 go_wp2
 go_loopw [13] (fun i wr => ∃ k : Nat, i = .int .i64 (k : Int) ∧ k ≤ na ∧ Hid (a.take k = b.take k) ∧ S wr) (fun i _ => na - (intOf i).toNat)
 case atStart => exact ⟨0, by simp, Nat.zero_le _, by simp [Hid], hS⟩
 case round =>
  clear hS
  obtain ⟨k, rfl, hk, Hk, hS⟩ := hrel
  by_cases hkn : k < na
  · obtain ⟨e, he⟩ : ∃ e, a[k]? = some e := ⟨_, List.getElem?_eq_getElem (by have := Ha.out; omega)⟩
    obtain ⟨f, hf⟩ : ∃ f, b[k]? = some f := ⟨_, List.getElem?_eq_getElem (by have := Hb.out; omega)⟩
    obtain ⟨ad, had, _⟩ := nd_at (S0'.out _ hS) he
    obtain ⟨bd, hbd, _⟩ := nd_at (S1'.out _ hS) hf
    subst had hbd
    have Hca : Hid (∀ W, S W → ∀ j u, e.cells[j]? = some u → W.cell? ((ad.add (k * 2)).add j) = some u) := fun W h => by
     obtain ⟨ad', h1, h2⟩ := nd_at (S0'.out _ h) he
     injection h1 with h1; subst h1; exact h2
    have Hcb : Hid (∀ W, S W → ∀ j u, f.cells[j]? = some u → W.cell? ((bd.add (k * 2)).add j) = some u) := fun W h => by
     obtain ⟨ad', h1, h2⟩ := nd_at (S1'.out _ h) hf
     injection h1 with h1; subst h1; exact h2
    have He := Lib.hid he
    have Hf := Lib.hid hf
    have hkn' : (k : Int) < (na : Int) := by omega
    have ewk : IntKind.i64.wrap ((k : Int) + 1) = (k : Int) + 1 := IntWalk.i64_in _ (by omega)
    clear he hf
    have Hnn := Lib.hid (neq_nodeD e f)
    by_cases hef : e = f
    · have hvv : ∀ W, (binOp .neq 74 (.agg e.cells.toArray) (.agg f.cells.toArray)).run Tryz.prog W = .ok (.bool false) W := fun W => by rw [Hnn.out]; simp [hef]
      have Hvv := Lib.hid hvv
      clear hvv Hnn
      go_wp2
      refine region_hold S (by kernel_rfl) (by kernel_rfl) (St.drew hS) ?_
      clear hS
      iterate 3 (refine hold_value rfl ?_ (fun W hW => ?_) ?_; rotate_left; (focus (go_simp; exact rfl)); simp only [Act.put, List.setIfInBounds_toArray, List.set_cons_zero, List.set_cons_succ])
      (refine hold_load_at rfl 74 _ rfl ((ad.add (k * 2))) rfl e.cells _ Hca.out Tryz.underlying74 rfl (by kernel_rfl) ?_; simp only [Act.put, List.setIfInBounds_toArray, List.set_cons_zero, List.set_cons_succ])
      iterate 3 (refine hold_value rfl ?_ (fun W hW => ?_) ?_; rotate_left; (focus (go_simp; exact rfl)); simp only [Act.put, List.setIfInBounds_toArray, List.set_cons_zero, List.set_cons_succ])
      (refine hold_load_at rfl 74 _ rfl ((bd.add (k * 2))) rfl f.cells _ Hcb.out Tryz.underlying74 rfl (by kernel_rfl) ?_; simp only [Act.put, List.setIfInBounds_toArray, List.set_cons_zero, List.set_cons_succ])
      (refine hold_value rfl (.bool false) (fun W hW => run_exec_neq (vx := .agg e.cells.toArray) (vy := .agg f.cells.toArray) rfl rfl rfl (by go_simp) (Hvv.out W)) ?_; simp only [Act.put, List.setIfInBounds_toArray, List.set_cons_zero, List.set_cons_succ])
      refine wpHold_nil fun W hS => ?_
      clear Hvv
      subst hef
      have Hst : Hid (a.take (k + 1) = b.take (k + 1)) := by
       show _ = _
       rw [List.take_add_one, List.take_add_one, Hk.out, He.out, Hf.out]
      clear Hca Hcb He Hf Hk
      go_wp2
      go_roundw
      case rel => exact ⟨k + 1, by go_num, by omega, Hst, hS⟩
      case measure => simp [intOf]; omega
    · have hvv : ∀ W, (binOp .neq 74 (.agg e.cells.toArray) (.agg f.cells.toArray)).run Tryz.prog W = .ok (.bool true) W := fun W => by rw [Hnn.out]; simp [hef]
      have Hvv := Lib.hid hvv
      clear hvv Hnn
      go_wp2
      refine region_hold S (by kernel_rfl) (by kernel_rfl) (St.drew hS) ?_
      clear hS
      iterate 3 (refine hold_value rfl ?_ (fun W hW => ?_) ?_; rotate_left; (focus (go_simp; exact rfl)); simp only [Act.put, List.setIfInBounds_toArray, List.set_cons_zero, List.set_cons_succ])
      (refine hold_load_at rfl 74 _ rfl ((ad.add (k * 2))) rfl e.cells _ Hca.out Tryz.underlying74 rfl (by kernel_rfl) ?_; simp only [Act.put, List.setIfInBounds_toArray, List.set_cons_zero, List.set_cons_succ])
      iterate 3 (refine hold_value rfl ?_ (fun W hW => ?_) ?_; rotate_left; (focus (go_simp; exact rfl)); simp only [Act.put, List.setIfInBounds_toArray, List.set_cons_zero, List.set_cons_succ])
      (refine hold_load_at rfl 74 _ rfl ((bd.add (k * 2))) rfl f.cells _ Hcb.out Tryz.underlying74 rfl (by kernel_rfl) ?_; simp only [Act.put, List.setIfInBounds_toArray, List.set_cons_zero, List.set_cons_succ])
      (refine hold_value rfl (.bool true) (fun W hW => run_exec_neq (vx := .agg e.cells.toArray) (vy := .agg f.cells.toArray) rfl rfl rfl (by go_simp) (Hvv.out W)) ?_; simp only [Act.put, List.setIfInBounds_toArray, List.set_cons_zero, List.set_cons_succ])
      refine wpHold_nil fun W hS => ?_
      clear Hvv
      have Hne : Hid (decide (a = b) = false) := by
       show _ = _
       have : a ≠ b := fun h => hef (by
        have h1 := He.out
        rw [h, Hf.out] at h1
        exact (Option.some.inj h1).symm)
       simp [this]
      clear Hca Hcb He Hf Hk hef
      go_wp2
      go_ret
      exact ⟨ret_b Hne.out, S2'.out _ hS⟩
  · obtain rfl : k = na := by omega
    have Heq : Hid (decide (a = b) = true) := by
     show _ = _
     have h1 := Hk.out
     rw [List.take_of_length_le (by have := Ha.out; omega), List.take_of_length_le (by have := Hb.out; omega)] at h1
     simp [h1]
    clear hkn hk
    go_wp2
    go_ret
    exact ⟨ret_b Heq.out, S2'.out _ hS⟩
set_option maxRecDepth 100000 in
set_option maxHeartbeats 2000000 in
theorem refEqNodes_any (A B : Option Addr) (c d na nb : Nat) (a b : List Nd) (w : World) (hna : na = a.length) (hnb : nb = b.length) (ha : Rd w A (ndsC a)) (hb : Rd w B (ndsC b)) (hla : a.length ≤ 1000000) :
 Calls Tryz.prog 106 #[.slice A na c, .slice B nb d] w fun e w' => e = .returned (.bool (decide (a = b))) ∧ Below w.heap.size w w' := by
 by_cases hl : na = nb
 rotate_left
 · have hlI : ((na : Int) != (nb : Int)) = true := by simp; omega
   have hne : a ≠ b := fun e => hl (by rw [hna, hnb, e])
   have Hne : Hid (decide (a = b) = false) := by show _ = _; simp [hne]
   clear hl hna hnb hne ha hb hla
   go_enter Tryz.func106, Tryz.ntmps106
   go_wp2
   go_ret
   exact ⟨ret_b Hne.out, Below.refl _ _⟩
 subst hl
 have Ha := Lib.hid hna
 have Hb := Lib.hid hnb
 have hn6 : (na : Int) ≤ 1000000 := by omega
 clear hna hnb hla
 obtain ⟨S, hSd⟩ : ∃ S, S = (fun W => Rd W A (ndsC a) ∧ Rd W B (ndsC b) ∧ Below w.heap.size w W) := ⟨_, rfl⟩
 have stS : St S := by rw [hSd]; infer_instance
 have S0' : Hid (∀ W, S W → Rd W A (ndsC a)) := by show ∀ W, _; rw [hSd]; exact fun W h => h.1
 have S1' : Hid (∀ W, S W → Rd W B (ndsC b)) := by show ∀ W, _; rw [hSd]; exact fun W h => h.2.1
 have S2' : Hid (∀ W, S W → Below w.heap.size w W) := by show ∀ W, _; rw [hSd]; exact fun W h => h.2.2
 have hS : S w := by rw [hSd]; exact ⟨ha, hb, Below.refl _ _⟩
 clear hSd ha hb
 go_enter Tryz.func106, Tryz.ntmps106
 go_wp2
 go_loopw [5] (fun i wr => ∃ k : Nat, i = .int .i64 (k : Int) ∧ k ≤ na ∧ Hid (a.take k = b.take k) ∧ S wr) (fun i _ => na - (intOf i).toNat)
 case atStart => exact ⟨0, by simp, Nat.zero_le _, by simp [Hid], hS⟩
 case round =>
  clear hS
  obtain ⟨k, rfl, hk, Hk, hS⟩ := hrel
  by_cases hkn : k < na
  · obtain ⟨e, he⟩ : ∃ e, a[k]? = some e := ⟨_, List.getElem?_eq_getElem (by have := Ha.out; omega)⟩
    obtain ⟨f, hf⟩ : ∃ f, b[k]? = some f := ⟨_, List.getElem?_eq_getElem (by have := Hb.out; omega)⟩
    obtain ⟨ad, had, _⟩ := nd_at (S0'.out _ hS) he
    obtain ⟨bd, hbd, _⟩ := nd_at (S1'.out _ hS) hf
    subst had hbd
    have Hca : Hid (∀ W, S W → ∀ j u, e.cells[j]? = some u → W.cell? ((ad.add (k * 2)).add j) = some u) := fun W h => by
     obtain ⟨ad', h1, h2⟩ := nd_at (S0'.out _ h) he
     injection h1 with h1; subst h1; exact h2
    have Hcb : Hid (∀ W, S W → ∀ j u, f.cells[j]? = some u → W.cell? ((bd.add (k * 2)).add j) = some u) := fun W h => by
     obtain ⟨ad', h1, h2⟩ := nd_at (S1'.out _ h) hf
     injection h1 with h1; subst h1; exact h2
    have He := Lib.hid he
    have Hf := Lib.hid hf
    have hkn' : (k : Int) < (na : Int) := by omega
    have ewk : IntKind.i64.wrap ((k : Int) + 1) = (k : Int) + 1 := IntWalk.i64_in _ (by omega)
    clear he hf
    have Hnn := Lib.hid (neq_nodeD e f)
    by_cases hef : e = f
    · have hvv : ∀ W, (binOp .neq 74 (.agg e.cells.toArray) (.agg f.cells.toArray)).run Tryz.prog W = .ok (.bool false) W := fun W => by rw [Hnn.out]; simp [hef]
      have Hvv := Lib.hid hvv
      clear hvv Hnn
      go_wp2
      refine region_hold S (by kernel_rfl) (by kernel_rfl) (St.drew hS) ?_
      clear hS
      iterate 3 (refine hold_value rfl ?_ (fun W hW => ?_) ?_; rotate_left; (focus (go_simp; exact rfl)); simp only [Act.put, List.setIfInBounds_toArray, List.set_cons_zero, List.set_cons_succ])
      (refine hold_load_at rfl 74 _ rfl ((ad.add (k * 2))) rfl e.cells _ Hca.out Tryz.underlying74 rfl (by kernel_rfl) ?_; simp only [Act.put, List.setIfInBounds_toArray, List.set_cons_zero, List.set_cons_succ])
      iterate 3 (refine hold_value rfl ?_ (fun W hW => ?_) ?_; rotate_left; (focus (go_simp; exact rfl)); simp only [Act.put, List.setIfInBounds_toArray, List.set_cons_zero, List.set_cons_succ])
      (refine hold_load_at rfl 74 _ rfl ((bd.add (k * 2))) rfl f.cells _ Hcb.out Tryz.underlying74 rfl (by kernel_rfl) ?_; simp only [Act.put, List.setIfInBounds_toArray, List.set_cons_zero, List.set_cons_succ])
      (refine hold_value rfl (.bool false) (fun W hW => run_exec_neq (vx := .agg e.cells.toArray) (vy := .agg f.cells.toArray) rfl rfl rfl (by go_simp) (Hvv.out W)) ?_; simp only [Act.put, List.setIfInBounds_toArray, List.set_cons_zero, List.set_cons_succ])
      refine wpHold_nil fun W hS => ?_
      clear Hvv
      subst hef
      have Hst : Hid (a.take (k + 1) = b.take (k + 1)) := by
       show _ = _
       rw [List.take_add_one, List.take_add_one, Hk.out, He.out, Hf.out]
      clear Hca Hcb He Hf Hk
      go_wp2
      go_roundw
      case rel => exact ⟨k + 1, by go_num, by omega, Hst, hS⟩
      case measure => simp [intOf]; omega
    · have hvv : ∀ W, (binOp .neq 74 (.agg e.cells.toArray) (.agg f.cells.toArray)).run Tryz.prog W = .ok (.bool true) W := fun W => by rw [Hnn.out]; simp [hef]
      have Hvv := Lib.hid hvv
      clear hvv Hnn
      go_wp2
      refine region_hold S (by kernel_rfl) (by kernel_rfl) (St.drew hS) ?_
      clear hS
      iterate 3 (refine hold_value rfl ?_ (fun W hW => ?_) ?_; rotate_left; (focus (go_simp; exact rfl)); simp only [Act.put, List.setIfInBounds_toArray, List.set_cons_zero, List.set_cons_succ])
      (refine hold_load_at rfl 74 _ rfl ((ad.add (k * 2))) rfl e.cells _ Hca.out Tryz.underlying74 rfl (by kernel_rfl) ?_; simp only [Act.put, List.setIfInBounds_toArray, List.set_cons_zero, List.set_cons_succ])
      iterate 3 (refine hold_value rfl ?_ (fun W hW => ?_) ?_; rotate_left; (focus (go_simp; exact rfl)); simp only [Act.put, List.setIfInBounds_toArray, List.set_cons_zero, List.set_cons_succ])
      (refine hold_load_at rfl 74 _ rfl ((bd.add (k * 2))) rfl f.cells _ Hcb.out Tryz.underlying74 rfl (by kernel_rfl) ?_; simp only [Act.put, List.setIfInBounds_toArray, List.set_cons_zero, List.set_cons_succ])
      (refine hold_value rfl (.bool true) (fun W hW => run_exec_neq (vx := .agg e.cells.toArray) (vy := .agg f.cells.toArray) rfl rfl rfl (by go_simp) (Hvv.out W)) ?_; simp only [Act.put, List.setIfInBounds_toArray, List.set_cons_zero, List.set_cons_succ])
      refine wpHold_nil fun W hS => ?_
      clear Hvv
      have Hne : Hid (decide (a = b) = false) := by
       show _ = _
       have : a ≠ b := fun h => hef (by
        have h1 := He.out
        rw [h, Hf.out] at h1
        exact (Option.some.inj h1).symm)
       simp [this]
      clear Hca Hcb He Hf Hk hef
      go_wp2
      go_ret
      exact ⟨ret_b Hne.out, S2'.out _ hS⟩
  · obtain rfl : k = na := by omega
    have Heq : Hid (decide (a = b) = true) := by
     show _ = _
     have h1 := Hk.out
     rw [List.take_of_length_le (by have := Ha.out; omega), List.take_of_length_le (by have := Hb.out; omega)] at h1
     simp [h1]
    clear hkn hk
    go_wp2
    go_ret
    exact ⟨ret_b Heq.out, S2'.out _ hS⟩
end Go.Proofs.YtcgglolckkeeiaaGreat
namespace Go.Proofs.YtcgglolckkeeiaaGreat
set_option linter.unusedVariables false
open Go.RowKit Go.Deep
set_option maxRecDepth 100000 in
set_option maxHeartbeats 4000000 in
theorem right_any (x : MtV) (w : World) (hx : MtOk w x) :
 Calls Tryz.prog 66 #[.agg x.cells.toArray] w fun e w' => e = .returned (.bool (rightZ x.m)) ∧ Below w.heap.size w w' := by
 have Ha := Lib.hid hx
 have hdl : x.m.digest.length ≤ 1000000 := hx.dig
 clear hx
 go_enter Tryz.func66, Tryz.ntmps66
 go_wp2_with (refine at_box _ _ rfl ?_)
 refine Stop.to ?_
 refine wpList_box_gen rfl 47 _ rfl x.cells.toArray rfl ?_
 intro G Gw Gh Gr Gb
 have b1 := (Below.refl w.heap.size w).trans (Gb.mono Gh)
 have c1 := Gr.cellv (i := 3) (v := .int .i64 x.m.verdict) rfl
 have c2 := Gr.cellv (i := 4) (v := .int .i64 x.m.test) rfl
 have c3 := Gr.cellv (i := 7) (v := .string ⟨x.m.digest.toArray⟩) rfl
 have c5 := Gr.cellv (i := 5) (v := .int .i64 x.m.kind) rfl
 have c6 := Gr.cellv (i := 6) (v := .int .i64 x.m.value) rfl
 clear Ha Gr Gb Gh
 obtain ⟨A, cap, ⟨d, ver, tst, knd, val, dig⟩⟩ := x
 simp only at c1 c2 c3 c5 c6 hdl ⊢
 go_wp2_with fail
 all_goals
  go_ret
  refine ⟨ret_b ?_, b1⟩
  clear c1 c2 c3 c5 c6 b1
  simp only [beq_iff_eq, beq_eq_false_iff_ne, ne_eq] at *
  unfold rightZ
  first | (simp_all; done) | (simp_all; omega) | ((repeat rw [if_pos (by first | assumption | omega)]); (repeat rw [if_neg (by first | assumption | omega)]); simp_all; first | (cases dig <;> simp; done) | ((have e1 : tst ≤ 19 := by omega); (have e2 : dig.length = 32 := by omega); by_cases e : val = 0 <;> simp_all))
set_option maxRecDepth 100000 in
set_option maxHeartbeats 4000000 in
theorem refRight_any (x : MtV) (w : World) (hx : MtOk w x) :
 Calls Tryz.prog 86 #[.agg x.cells.toArray] w fun e w' => e = .returned (.bool (rightZ x.m)) ∧ Below w.heap.size w w' := by
 have Ha := Lib.hid hx
 have hdl : x.m.digest.length ≤ 1000000 := hx.dig
 clear hx
 go_enter Tryz.func86, Tryz.ntmps86
 go_wp2_with (refine at_box _ _ rfl ?_)
 refine Stop.to ?_
 refine wpList_box_gen rfl 47 _ rfl x.cells.toArray rfl ?_
 intro G Gw Gh Gr Gb
 have b1 := (Below.refl w.heap.size w).trans (Gb.mono Gh)
 have c1 := Gr.cellv (i := 3) (v := .int .i64 x.m.verdict) rfl
 have c2 := Gr.cellv (i := 4) (v := .int .i64 x.m.test) rfl
 have c3 := Gr.cellv (i := 7) (v := .string ⟨x.m.digest.toArray⟩) rfl
 have c5 := Gr.cellv (i := 5) (v := .int .i64 x.m.kind) rfl
 have c6 := Gr.cellv (i := 6) (v := .int .i64 x.m.value) rfl
 clear Ha Gr Gb Gh
 obtain ⟨A, cap, ⟨d, ver, tst, knd, val, dig⟩⟩ := x
 simp only at c1 c2 c3 c5 c6 hdl ⊢
 go_wp2_with fail
 all_goals
  go_ret
  refine ⟨ret_b ?_, b1⟩
  clear c1 c2 c3 c5 c6 b1
  simp only [beq_iff_eq, beq_eq_false_iff_ne, ne_eq] at *
  unfold rightZ
  first | (simp_all; done) | (simp_all; omega) | ((repeat rw [if_pos (by first | assumption | omega)]); (repeat rw [if_neg (by first | assumption | omega)]); simp_all; first | (cases dig <;> simp; done) | ((have e1 : tst ≤ 19 := by omega); (have e2 : dig.length = 32 := by omega); by_cases e : val = 0 <;> simp_all))
end Go.Proofs.YtcgglolckkeeiaaGreat
namespace Go.Proofs.YtcgglolckkeeiaaGreat
set_option linter.unusedVariables false
open Go.ChangeShapes Go.WideShapes Go.RowKit Go.Deep
theorem cells_node : Tryz.prog.cellsOf 74 = 2 := by kernel_rfl
theorem cells_prog : Tryz.prog.cellsOf 25 = 3 := by kernel_rfl
theorem cells_ints : Tryz.prog.cellsOf 22 = 1 := by kernel_rfl
theorem cells_nodes : Tryz.prog.cellsOf 23 = 1 := by kernel_rfl
structure IntsV where
 addr : Option Addr
 cap : Nat
 l : List Int
def IntsV.val (r : IntsV) : Value := .slice r.addr r.l.length r.cap
structure IntsV.ok (r : IntsV) (w : World) : Prop where
 len : r.l.length ≤ r.cap
 cap : r.cap ≤ maxLen
 nil : r.addr = none → r.cap = 0
 reads : Rd w r.addr (ints r.l)
 all : ∀ x ∈ r.l, InI x
theorem IntsV.ok.go {r : IntsV} {w w' : World} (h : r.ok w) (b : Below w.heap.size w w') : r.ok w' := ⟨h.len, h.cap, h.nil, h.reads.go b, h.all⟩
instance St.intsok {r : IntsV} : St (fun W => r.ok W) := ⟨fun h b => h.go b⟩
def PgV.val (p : PgV) : Value := .agg p.cells
section
variable {H : Type} {enc : TypeId × Value → H} {w : World} {base : Nat} {spare : Nat → Bool} {held : Bool}
theorem open_int1 {fuel : Nat} {cs : List Value} {x : DataW H × List MemPlace} (h : DataW.trod enc Tryz.prog w base spare held fuel 3 cs = some x) : ∃ n : Int, cs = [.int .i64 n] ∧ InI n := by
 obtain ⟨n, e, h⟩ := trod_i64 Tryz.underlying3 h
 exact ⟨n, e, h⟩
set_option maxRecDepth 100000 in
theorem open_node {fuel : Nat} {cs : List Value} {x : DataW H × List MemPlace} (h : DataW.trod enc Tryz.prog w base spare held fuel 74 cs = some x) : ∃ e : Nd, cs = e.cells ∧ InI e.tag ∧ InI e.n := by
 obtain ⟨hl, n, hf⟩ := trod_field Tryz.underlying74 h
 have hl2 : cs.length = 2 := hl.trans cells_node
 match cs, hl2 with
 | [a, b], _ =>
  obtain ⟨_, h0⟩ := hf 0 _ rfl
  obtain ⟨_, h1⟩ := hf 1 _ rfl
  obtain ⟨n0, e0, w0⟩ := trod_i64 Tryz.underlying3 h0
  obtain ⟨n1, e1, w1⟩ := trod_i64 Tryz.underlying3 h1
  simp [cells_int] at e0 e1
  exact ⟨⟨n0, n1⟩, by rw [e0, e1]; rfl, w0, w1⟩
theorem ints_flat (l : List Int) : l.flatMap (fun n => [Value.int .i64 n]) = ints l := by
 induction l with
 | nil => rfl
 | cons a l ih => rw [List.flatMap_cons, ih]; rfl
set_option maxRecDepth 100000 in
theorem open_intsC {fuel : Nat} {cs : List Value} {x : DataW H × List MemPlace} (h : DataW.trod enc Tryz.prog w base spare held fuel 22 cs = some x) : ∃ r : IntsV, r.ok w ∧ cs = [r.val] := by
 obtain ⟨A, cap, xss, rfl, h1, h2, hA, h3, h4, h5⟩ := open_rows Tryz.underlying22 h
 obtain ⟨l, rfl, hok⟩ := rows_map (fun n : Int => [Value.int .i64 n]) InI xss (fun xs hxs => by obtain ⟨n, y, hy⟩ := h5 xs hxs; exact open_int1 hy)
 rw [List.length_map] at h1
 refine ⟨⟨A, cap, l⟩, ⟨h1, h2, hA, ?_, hok⟩, by rw [List.length_map]; rfl⟩
 rw [← List.flatMap_def, ints_flat] at h4
 exact h4
set_option maxRecDepth 100000 in
theorem open_nodesC {fuel : Nat} {cs : List Value} {x : DataW H × List MemPlace} (h : DataW.trod enc Tryz.prog w base spare held fuel 23 cs = some x) :
 ∃ (A : Option Addr) (cap : Nat) (l : List Nd), cs = [.slice A l.length cap] ∧ l.length ≤ cap ∧ cap ≤ maxLen ∧ (A = none → cap = 0) ∧ Rd w A (l.flatMap Nd.cells) ∧ ∀ e ∈ l, InI e.tag ∧ InI e.n := by
 obtain ⟨A, cap, xss, rfl, h1, h2, hA, h3, h4, h5⟩ := open_rows Tryz.underlying23 h
 obtain ⟨l, rfl, hok⟩ := rows_map Nd.cells (fun e => InI e.tag ∧ InI e.n) xss (fun xs hxs => by obtain ⟨n, y, hy⟩ := h5 xs hxs; exact open_node hy)
 rw [List.length_map] at h1
 exact ⟨A, cap, l, by rw [List.length_map], h1, h2, hA, by rw [List.flatMap_def]; exact h4, hok⟩
set_option maxRecDepth 100000 in
theorem open_progC {fuel : Nat} {cs : List Value} {x : DataW H × List MemPlace} (h : DataW.trod enc Tryz.prog w base spare held fuel 25 cs = some x) : ∃ p : PgV, p.ok w ∧ cs = p.cells.toList := by
 obtain ⟨hl, n, hf⟩ := trod_field Tryz.underlying25 h
 have hl3 : cs.length = 3 := hl.trans cells_prog
 match cs, hl3 with
 | [a, b, c], _ =>
  obtain ⟨_, h0⟩ := hf 0 _ rfl
  obtain ⟨_, h1⟩ := hf 1 _ rfl
  obtain ⟨_, h2⟩ := hf 2 _ rfl
  obtain ⟨n0, e0, w0⟩ := trod_i64 Tryz.underlying3 h0
  obtain ⟨r, hr, e1⟩ := open_intsC h1
  obtain ⟨A, cap, l, e2, g1, g2, g3, g4, g5⟩ := open_nodesC h2
  simp [cells_int, cells_ints, cells_nodes] at e0 e1 e2
  exact ⟨⟨n0, r.addr, r.cap, r.l, A, cap, l⟩, ⟨w0, hr.len, hr.cap, hr.nil, hr.reads, hr.all, g1, g2, g3, g4, g5⟩, by rw [e0, e1, e2]; rfl⟩
end
end Go.Proofs.YtcgglolckkeeiaaGreat
