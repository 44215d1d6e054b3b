/- Lemmas for CoAll. -/
import Derived.Test.YtcgglolckkeeiaaGreatZo7
import Derived.Test.YtcgglolckkeeiaaGreatZo6
set_option linter.unusedVariables false
set_option linter.unusedSimpArgs false
namespace Go.Proofs.YtcgglolckkeeiaaGreat
open Go.RowKit Go.Deep
theorem el_at {α : Type} {c : α → List Value} {sz : Nat} (hsz : ∀ x, (c x).length = sz) (h0 : 0 < sz) {W : World} {A : Option Addr} {l : List α} (hr : Rd W A (l.flatMap c)) {k : Nat} {x : α} (hx : l[k]? = some x) :
 ∃ ad, A = some ad ∧ ∀ j u, (c x)[j]? = some u → W.cell? ((ad.add (k * sz)).add j) = some u := by
 have hl : ∀ (l : List α) (k : Nat) (x : α), l[k]? = some x → ∀ j u, (c x)[j]? = some u → (l.flatMap c)[k * sz + j]? = some u := by
  intro l
  induction l with
  | nil => intro k x h; simp at h
  | cons y l ih =>
   intro k x h j u hu
   rw [List.flatMap_cons]
   match k, h with
   | 0, h =>
    simp at h; subst h
    rw [Nat.zero_mul, Nat.zero_add, List.getElem?_append_left (List.getElem?_eq_some_iff.1 hu).1]; exact hu
   | k + 1, h =>
    rw [List.getElem?_cons_succ] at h
    rw [List.getElem?_append_right (by rw [hsz, Nat.add_mul]; omega), hsz, show (k + 1) * sz + j - sz = k * sz + j by rw [Nat.add_mul]; omega]
    exact ih k x h j u hu
 exact hr.part (k * sz) (c x) (hl l k x hx) (fun e => by have := hsz x; rw [e] at this; simp at this; omega)
set_option maxRecDepth 100000 in
set_option maxHeartbeats 2000000 in
theorem eqInts_any (A B : Option Addr) (c d na nb : Nat) (a b : List Int) (w : World) (hna : na = a.length) (hnb : nb = b.length) (ha : Rd w A (ints a)) (hb : Rd w B (ints b)) (hla : a.length ≤ 1000000) :
 Calls Tryz.prog 101 #[.slice A na c, .slice B nb d] w fun e w' => e = .returned (.bool (decide (a = b))) ∧ Below w.heap.size w w' := by
 by_cases hl : na = nb
 rotate_left
 · have hlI : ((na : Int) != (nb : Int)) = true := by simp; omega
   have hne : a ≠ b := fun e => hl (by rw [hna, hnb, e])
   have Hne : Hid (decide (a = b) = false) := by show _ = _; simp [hne]
   clear hl hna hnb hne ha hb hla
   go_enter Tryz.func101, Tryz.ntmps101
   go_wp2
   go_ret
   exact ⟨ret_b Hne.out, Below.refl _ _⟩
 subst hl
 have Ha := Lib.hid hna
 have Hb := Lib.hid hnb
 have hn6 : (na : Int) ≤ 1000000 := by omega
 clear hna hnb hla
 obtain ⟨S, hSd⟩ : ∃ S, S = (fun W => Rd W A (ints a) ∧ Rd W B (ints b) ∧ Below w.heap.size w W) := ⟨_, rfl⟩
 have stS : St S := by rw [hSd]; infer_instance
 have S0' : Hid (∀ W, S W → Rd W A (ints a)) := by show ∀ W, _; rw [hSd]; exact fun W h => h.1
 have S1' : Hid (∀ W, S W → Rd W B (ints b)) := by show ∀ W, _; rw [hSd]; exact fun W h => h.2.1
 have S2' : Hid (∀ W, S W → Below w.heap.size w W) := by show ∀ W, _; rw [hSd]; exact fun W h => h.2.2
 have hS : S w := by rw [hSd]; exact ⟨ha, hb, Below.refl _ _⟩
 clear hSd ha hb
 go_enter Tryz.func101, Tryz.ntmps101
 go_wp2
 go_loopw [13] (fun i wr => ∃ k : Nat, i = .int .i64 (k : Int) ∧ k ≤ na ∧ Hid (a.take k = b.take k) ∧ S wr) (fun i _ => na - (intOf i).toNat)
 case atStart => exact ⟨0, by simp, Nat.zero_le _, by simp [Hid], hS⟩
 case round =>
  clear hS
  obtain ⟨k, rfl, hk, Hk, hS⟩ := hrel
  by_cases hkn : k < na
  · obtain ⟨e, he⟩ : ∃ e, a[k]? = some e := ⟨_, List.getElem?_eq_getElem (by have := Ha.out; omega)⟩
    obtain ⟨f, hf⟩ : ∃ f, b[k]? = some f := ⟨_, List.getElem?_eq_getElem (by have := Hb.out; omega)⟩
    obtain ⟨ad, had, _⟩ := int_at (S0'.out _ hS) he
    obtain ⟨bd, hbd, _⟩ := int_at (S1'.out _ hS) hf
    subst had hbd
    have Hca : Hid (∀ W, S W → W.cell? (ad.add k) = some (.int .i64 e)) := fun W h => by
     obtain ⟨ad', h1, h2⟩ := int_at (S0'.out _ h) he
     injection h1 with h1; subst h1; exact h2
    have Hcb : Hid (∀ W, S W → W.cell? (bd.add k) = some (.int .i64 f)) := fun W h => by
     obtain ⟨ad', h1, h2⟩ := int_at (S1'.out _ h) hf
     injection h1 with h1; subst h1; exact h2
    have He := Lib.hid he
    have Hf := Lib.hid hf
    have hkn' : (k : Int) < (na : Int) := by omega
    have ewk : IntKind.i64.wrap ((k : Int) + 1) = (k : Int) + 1 := IntWalk.i64_in _ (by omega)
    clear he hf
    go_wp2
    refine region_hold S (by kernel_rfl) (by kernel_rfl) (St.drew hS) ?_
    clear hS
    iterate 3 (refine hold_value rfl ?_ (fun W hW => ?_) ?_; rotate_left; (focus (go_simp; exact rfl)); simp only [Act.put, List.setIfInBounds_toArray, List.set_cons_zero, List.set_cons_succ])
    (refine hold_value rfl ?_ (fun W hW => ?_) ?_; rotate_left; (focus (have c := Hca.out W hW; go_simp; exact rfl)); simp only [Act.put, List.setIfInBounds_toArray, List.set_cons_zero, List.set_cons_succ])
    iterate 3 (refine hold_value rfl ?_ (fun W hW => ?_) ?_; rotate_left; (focus (go_simp; exact rfl)); simp only [Act.put, List.setIfInBounds_toArray, List.set_cons_zero, List.set_cons_succ])
    (refine hold_value rfl ?_ (fun W hW => ?_) ?_; rotate_left; (focus (have c := Hcb.out W hW; go_simp; exact rfl)); simp only [Act.put, List.setIfInBounds_toArray, List.set_cons_zero, List.set_cons_succ])
    (refine hold_value rfl ?_ (fun W hW => ?_) ?_; rotate_left; (focus (go_simp; exact rfl)); simp only [Act.put, List.setIfInBounds_toArray, List.set_cons_zero, List.set_cons_succ])
    refine wpHold_nil fun W hS => ?_
    by_cases hef : e = f
    · subst hef
      have hnn : (e != e) = false := by simp
      have Hst : Hid (a.take (k + 1) = b.take (k + 1)) := by
       show _ = _
       rw [List.take_add_one, List.take_add_one, Hk.out, He.out, Hf.out]
      clear Hca Hcb He Hf Hk
      go_wp2
      go_roundw
      case rel => exact ⟨k + 1, by go_num, by omega, Hst, hS⟩
      case measure => simp [intOf]; omega
    · have hnn : (e != f) = true := by simpa using hef
      have Hne : Hid (decide (a = b) = false) := by
       show _ = _
       have : a ≠ b := fun h => hef (by
        have h1 := He.out
        rw [h, Hf.out] at h1
        exact (Option.some.inj h1).symm)
       simp [this]
      clear Hca Hcb He Hf Hk hef
      go_wp2
      go_ret
      exact ⟨ret_b Hne.out, S2'.out _ hS⟩
  · obtain rfl : k = na := by omega
    have Heq : Hid (decide (a = b) = true) := by
     show _ = _
     have h1 := Hk.out
     rw [List.take_of_length_le (by have := Ha.out; omega), List.take_of_length_le (by have := Hb.out; omega)] at h1
     simp [h1]
    clear hkn hk
    go_wp2
    go_ret
    exact ⟨ret_b Heq.out, S2'.out _ hS⟩
theorem nd_eq {x y : Nd} (h1 : x.tag = y.tag) (h2 : x.n = y.n) : x = y := by cases x; cases y; simp_all
instance : DecidableEq Nd := fun x y => decidable_of_iff (x.tag = y.tag ∧ x.n = y.n) ⟨fun h => nd_eq h.1 h.2, fun h => by rw [h]; exact ⟨rfl, rfl⟩⟩
def ndsC (l : List Nd) : List Value := l.flatMap Nd.cells
theorem neq_node (x y : Nd) (W : World) : (binOp .neq 74 (.agg x.cells.toArray) (.agg y.cells.toArray)).run Tryz.prog W = .ok (.bool (!(x.tag == y.tag && x.n == y.n))) W := by
 simp [go_sem, Nd.cells]
 by_cases h1 : x.tag = y.tag <;> by_cases h2 : x.n = y.n <;> simp [h1, h2]
theorem neq_nodeD (x y : Nd) (W : World) : (binOp .neq 74 (.agg x.cells.toArray) (.agg y.cells.toArray)).run Tryz.prog W = .ok (.bool (!decide (x = y))) W := by
 rw [neq_node]
 by_cases h : x = y
 · subst h; simp
 · have : (x.tag == y.tag && x.n == y.n) = false := by
    by_cases h1 : x.tag = y.tag
    · by_cases h2 : x.n = y.n
      · exact absurd (nd_eq h1 h2) h
      · simp [h2]
    · simp [h1]
   rw [this]; simp [h]
theorem run_exec_neq {P : Program} {ρ : Operand → Value} {o : Oper} {x y : Operand} {t u : TypeId} {vx vy v : Value} {W : World} (ho : o.op = .binOp .neq t x y u) (hx : ρ x = vx) (hy : ρ y = vy) (hg : (eqGuard .neq t x y vx vy).run P W = .ok () W) (hv : (binOp .neq t vx vy).run P W = .ok v W) : (execOp ρ o).run P W = .ok (.value v) W := by
 simp only [execOp, ho, hx, hy, Sem.run_bind, Sem.run_pure, hg, hv, Result.andThen_ok]
set_option maxRecDepth 100000 in
set_option maxHeartbeats 2000000 in
theorem eqNodes_any (A B : Option Addr) (c d na nb : Nat) (a b : List Nd) (w : World) (hna : na = a.length) (hnb : nb = b.length) (ha : Rd w A (ndsC a)) (hb : Rd w B (ndsC b)) (hla : a.length ≤ 1000000) :
 Calls Tryz.prog 102 #[.slice A na c, .slice B nb d] w fun e w' => e = .returned (.bool (decide (a = b))) ∧ Below w.heap.size w w' := by
 by_cases hl : na = nb
 rotate_left
 · have hlI : ((na : Int) != (nb : Int)) = true := by simp; omega
   have hne : a ≠ b := fun e => hl (by rw [hna, hnb, e])
   have Hne : Hid (decide (a = b) = false) := by show _ = _; simp [hne]
   clear hl hna hnb hne ha hb hla
   go_enter Tryz.func102, Tryz.ntmps102
   go_wp2
   go_ret
   exact ⟨ret_b Hne.out, Below.refl _ _⟩
 subst hl
 have Ha := Lib.hid hna
 have Hb := Lib.hid hnb
 have hn6 : (na : Int) ≤ 1000000 := by omega
 clear hna hnb hla
 obtain ⟨S, hSd⟩ : ∃ S, S = (fun W => Rd W A (ndsC a) ∧ Rd W B (ndsC b) ∧ Below w.heap.size w W) := ⟨_, rfl⟩
 have stS : St S := by rw [hSd]; infer_instance
 have S0' : Hid (∀ W, S W → Rd W A (ndsC a)) := by show ∀ W, _; rw [hSd]; exact fun W h => h.1
 have S1' : Hid (∀ W, S W → Rd W B (ndsC b)) := by show ∀ W, _; rw [hSd]; exact fun W h => h.2.1
 have S2' : Hid (∀ W, S W → Below w.heap.size w W) := by show ∀ W, _; rw [hSd]; exact fun W h => h.2.2
 have hS : S w := by rw [hSd]; exact ⟨ha, hb, Below.refl _ _⟩
 clear hSd ha hb
 go_enter Tryz.func102, Tryz.ntmps102
 go_wp2
 go_loopw [13] (fun i wr => ∃ k : Nat, i = .int .i64 (k : Int) ∧ k ≤ na ∧ Hid (a.take k = b.take k) ∧ S wr) (fun i _ => na - (intOf i).toNat)
 case atStart => exact ⟨0, by simp, Nat.zero_le _, by simp [Hid], hS⟩
 case round =>
  clear hS
  obtain ⟨k, rfl, hk, Hk, hS⟩ := hrel
  by_cases hkn : k < na
  · obtain ⟨e, he⟩ : ∃ e, a[k]? = some e := ⟨_, List.getElem?_eq_getElem (by have := Ha.out; omega)⟩
    obtain ⟨f, hf⟩ : ∃ f, b[k]? = some f := ⟨_, List.getElem?_eq_getElem (by have := Hb.out; omega)⟩
    obtain ⟨ad, had, _⟩ := nd_at (S0'.out _ hS) he
    obtain ⟨bd, hbd, _⟩ := nd_at (S1'.out _ hS) hf
    subst had hbd
    have Hca : Hid (∀ W, S W → ∀ j u, e.cells[j]? = some u → W.cell? ((ad.add (k * 2)).add j) = some u) := fun W h => by
     obtain ⟨ad', h1, h2⟩ := nd_at (S0'.out _ h) he
     injection h1 with h1; subst h1; exact h2
    have Hcb : Hid (∀ W, S W → ∀ j u, f.cells[j]? = some u → W.cell? ((bd.add (k * 2)).add j) = some u) := fun W h => by
     obtain ⟨ad', h1, h2⟩ := nd_at (S1'.out _ h) hf
     injection h1 with h1; subst h1; exact h2
    have He := Lib.hid he
    have Hf := Lib.hid hf
    have hkn' : (k : Int) < (na : Int) := by omega
    have ewk : IntKind.i64.wrap ((k : Int) + 1) = (k : Int) + 1 := IntWalk.i64_in _ (by omega)
    clear he hf
    have Hnn := Lib.hid (neq_nodeD e f)
    by_cases hef : e = f
    · have hvv : ∀ W, (binOp .neq 74 (.agg e.cells.toArray) (.agg f.cells.toArray)).run Tryz.prog W = .ok (.bool false) W := fun W => by rw [Hnn.out]; simp [hef]
      have Hvv := Lib.hid hvv
      clear hvv Hnn
      go_wp2
      refine region_hold S (by kernel_rfl) (by kernel_rfl) (St.drew hS) ?_
      clear hS
      iterate 3 (refine hold_value rfl ?_ (fun W hW => ?_) ?_; rotate_left; (focus (go_simp; exact rfl)); simp only [Act.put, List.setIfInBounds_toArray, List.set_cons_zero, List.set_cons_succ])
      (refine hold_load_at rfl 74 _ rfl ((ad.add (k * 2))) rfl e.cells _ Hca.out Tryz.underlying74 rfl (by kernel_rfl) ?_; simp only [Act.put, List.setIfInBounds_toArray, List.set_cons_zero, List.set_cons_succ])
      iterate 3 (refine hold_value rfl ?_ (fun W hW => ?_) ?_; rotate_left; (focus (go_simp; exact rfl)); simp only [Act.put, List.setIfInBounds_toArray, List.set_cons_zero, List.set_cons_succ])
      (refine hold_load_at rfl 74 _ rfl ((bd.add (k * 2))) rfl f.cells _ Hcb.out Tryz.underlying74 rfl (by kernel_rfl) ?_; simp only [Act.put, List.setIfInBounds_toArray, List.set_cons_zero, List.set_cons_succ])
      (refine hold_value rfl (.bool false) (fun W hW => run_exec_neq (vx := .agg e.cells.toArray) (vy := .agg f.cells.toArray) rfl rfl rfl (by go_simp) (Hvv.out W)) ?_; simp only [Act.put, List.setIfInBounds_toArray, List.set_cons_zero, List.set_cons_succ])
      refine wpHold_nil fun W hS => ?_
      clear Hvv
      subst hef
      have Hst : Hid (a.take (k + 1) = b.take (k + 1)) := by
       show _ = _
       rw [List.take_add_one, List.take_add_one, Hk.out, He.out, Hf.out]
      clear Hca Hcb He Hf Hk
      go_wp2
      go_roundw
      case rel => exact ⟨k + 1, by go_num, by omega, Hst, hS⟩
      case measure => simp [intOf]; omega
    · have hvv : ∀ W, (binOp .neq 74 (.agg e.cells.toArray) (.agg f.cells.toArray)).run Tryz.prog W = .ok (.bool true) W := fun W => by rw [Hnn.out]; simp [hef]
      have Hvv := Lib.hid hvv
      clear hvv Hnn
      go_wp2
      refine region_hold S (by kernel_rfl) (by kernel_rfl) (St.drew hS) ?_
      clear hS
      iterate 3 (refine hold_value rfl ?_ (fun W hW => ?_) ?_; rotate_left; (focus (go_simp; exact rfl)); simp only [Act.put, List.setIfInBounds_toArray, List.set_cons_zero, List.set_cons_succ])
      (refine hold_load_at rfl 74 _ rfl ((ad.add (k * 2))) rfl e.cells _ Hca.out Tryz.underlying74 rfl (by kernel_rfl) ?_; simp only [Act.put, List.setIfInBounds_toArray, List.set_cons_zero, List.set_cons_succ])
      iterate 3 (refine hold_value rfl ?_ (fun W hW => ?_) ?_; rotate_left; (focus (go_simp; exact rfl)); simp only [Act.put, List.setIfInBounds_toArray, List.set_cons_zero, List.set_cons_succ])
      (refine hold_load_at rfl 74 _ rfl ((bd.add (k * 2))) rfl f.cells _ Hcb.out Tryz.underlying74 rfl (by kernel_rfl) ?_; simp only [Act.put, List.setIfInBounds_toArray, List.set_cons_zero, List.set_cons_succ])
      (refine hold_value rfl (.bool true) (fun W hW => run_exec_neq (vx := .agg e.cells.toArray) (vy := .agg f.cells.toArray) rfl rfl rfl (by go_simp) (Hvv.out W)) ?_; simp only [Act.put, List.setIfInBounds_toArray, List.set_cons_zero, List.set_cons_succ])
      refine wpHold_nil fun W hS => ?_
      clear Hvv
      have Hne : Hid (decide (a = b) = false) := by
       show _ = _
       have : a ≠ b := fun h => hef (by
        have h1 := He.out
        rw [h, Hf.out] at h1
        exact (Option.some.inj h1).symm)
       simp [this]
      clear Hca Hcb He Hf Hk hef
      go_wp2
      go_ret
      exact ⟨ret_b Hne.out, S2'.out _ hS⟩
  · obtain rfl : k = na := by omega
    have Heq : Hid (decide (a = b) = true) := by
     show _ = _
     have h1 := Hk.out
     rw [List.take_of_length_le (by have := Ha.out; omega), List.take_of_length_le (by have := Hb.out; omega)] at h1
     simp [h1]
    clear hkn hk
    go_wp2
    go_ret
    exact ⟨ret_b Heq.out, S2'.out _ hS⟩
end Go.Proofs.YtcgglolckkeeiaaGreat
namespace Go.Proofs.YtcgglolckkeeiaaGreat
open Go.RowKit Go.Deep
set_option maxRecDepth 100000 in
set_option maxHeartbeats 4000000 in
theorem right_any (x : MtV) (w : World) (hx : MtOk w x) :
 Calls Tryz.prog 66 #[.agg x.cells.toArray] w fun e w' => e = .returned (.bool (rightZ x.m)) ∧ Below w.heap.size w w' := by
 have Ha := Lib.hid hx
 have hdl : x.m.digest.length ≤ 1000000 := hx.dig
 clear hx
 go_enter Tryz.func66, Tryz.ntmps66
 go_wp2_with (refine at_box _ _ rfl ?_)
 refine Stop.to ?_
 refine wpList_box_gen rfl 47 _ rfl x.cells.toArray rfl ?_
 intro G Gw Gh Gr Gb
 have b1 := (Below.refl w.heap.size w).trans (Gb.mono Gh)
 have c1 := Gr.cellv (i := 3) (v := .int .i64 x.m.verdict) rfl
 have c2 := Gr.cellv (i := 4) (v := .int .i64 x.m.test) rfl
 have c3 := Gr.cellv (i := 7) (v := .string ⟨x.m.digest.toArray⟩) rfl
 have c5 := Gr.cellv (i := 5) (v := .int .i64 x.m.kind) rfl
 have c6 := Gr.cellv (i := 6) (v := .int .i64 x.m.value) rfl
 clear Ha Gr Gb Gh
 obtain ⟨A, cap, ⟨d, ver, tst, knd, val, dig⟩⟩ := x
 simp only at c1 c2 c3 c5 c6 hdl ⊢
 go_wp2_with fail
 all_goals
  go_ret
  refine ⟨ret_b ?_, b1⟩
  clear c1 c2 c3 c5 c6 b1
  simp only [beq_iff_eq, beq_eq_false_iff_ne, ne_eq] at *
  unfold rightZ
  first | (simp_all; done) | (simp_all; omega) | ((repeat rw [if_pos (by first | assumption | omega)]); (repeat rw [if_neg (by first | assumption | omega)]); simp_all; first | (cases dig <;> simp; done) | ((have e1 : tst ≤ 19 := by omega); (have e2 : dig.length = 32 := by omega); by_cases e : val = 0 <;> simp_all))
set_option maxRecDepth 100000 in
set_option maxHeartbeats 4000000 in
theorem refRight_any (x : MtV) (w : World) (hx : MtOk w x) :
 Calls Tryz.prog 86 #[.agg x.cells.toArray] w fun e w' => e = .returned (.bool (rightZ x.m)) ∧ Below w.heap.size w w' := by
 have Ha := Lib.hid hx
 have hdl : x.m.digest.length ≤ 1000000 := hx.dig
 clear hx
 go_enter Tryz.func86, Tryz.ntmps86
 go_wp2_with (refine at_box _ _ rfl ?_)
 refine Stop.to ?_
 refine wpList_box_gen rfl 47 _ rfl x.cells.toArray rfl ?_
 intro G Gw Gh Gr Gb
 have b1 := (Below.refl w.heap.size w).trans (Gb.mono Gh)
 have c1 := Gr.cellv (i := 3) (v := .int .i64 x.m.verdict) rfl
 have c2 := Gr.cellv (i := 4) (v := .int .i64 x.m.test) rfl
 have c3 := Gr.cellv (i := 7) (v := .string ⟨x.m.digest.toArray⟩) rfl
 have c5 := Gr.cellv (i := 5) (v := .int .i64 x.m.kind) rfl
 have c6 := Gr.cellv (i := 6) (v := .int .i64 x.m.value) rfl
 clear Ha Gr Gb Gh
 obtain ⟨A, cap, ⟨d, ver, tst, knd, val, dig⟩⟩ := x
 simp only at c1 c2 c3 c5 c6 hdl ⊢
 go_wp2_with fail
 all_goals
  go_ret
  refine ⟨ret_b ?_, b1⟩
  clear c1 c2 c3 c5 c6 b1
  simp only [beq_iff_eq, beq_eq_false_iff_ne, ne_eq] at *
  unfold rightZ
  first | (simp_all; done) | (simp_all; omega) | ((repeat rw [if_pos (by first | assumption | omega)]); (repeat rw [if_neg (by first | assumption | omega)]); simp_all; first | (cases dig <;> simp; done) | ((have e1 : tst ≤ 19 := by omega); (have e2 : dig.length = 32 := by omega); by_cases e : val = 0 <;> simp_all))
end Go.Proofs.YtcgglolckkeeiaaGreat
namespace Go.Proofs.YtcgglolckkeeiaaGreat
open Go.RowKit Go.Deep
theorem rd_map_at {α : Type} {c : α → Value} {W : World} {A : Option Addr} {l : List α} (hr : Rd W A (l.map c)) {k : Nat} {x : α} (hx : l[k]? = some x) : ∃ ad, A = some ad ∧ W.cell? (ad.add k) = some (c x) :=
 hr k _ (by simp [hx])
instance St.intsok_all {l : List IntsV} : St (fun W => ∀ x ∈ l, x.ok W) := ⟨fun h b x hx => (h x hx).go b⟩
theorem mt_at {W : World} {A : Option Addr} {l : List MtV} (hr : Rd W A (l.flatMap MtV.cells)) {k : Nat} {x : MtV} (hx : l[k]? = some x) : ∃ ad, A = some ad ∧ ∀ j u, x.cells[j]? = some u → W.cell? ((ad.add (k * 8)).add j) = some u :=
 el_at (sz := 8) (fun _ => rfl) (by decide) hr hx
theorem map_take_step {α β : Type} {f : α → β} {a b : List α} {k : Nat} {x y : α} (h : (a.take k).map f = (b.take k).map f) (hx : a[k]? = some x) (hy : b[k]? = some y) (e : f x = f y) : (a.take (k + 1)).map f = (b.take (k + 1)).map f := by
 rw [List.take_add_one, List.take_add_one, List.map_append, List.map_append, h, hx, hy]; simp [e]
theorem map_take_no {α β : Type} {f : α → β} {a b : List α} {k : Nat} {x y : α} (hx : a[k]? = some x) (hy : b[k]? = some y) (e : f x ≠ f y) : a.map f ≠ b.map f := fun h => by
 have h1 : (a.map f)[k]? = (b.map f)[k]? := by rw [h]
 rw [List.getElem?_map, List.getElem?_map, hx, hy] at h1
 exact e (by simpa using h1)
instance : DecidableEq Mt := fun a b => decidable_of_iff (sameM a b = true) sameM_iff
def tstC (l : List IntsV) : List Value := l.map IntsV.val
def mtsC (l : List MtV) : List Value := l.flatMap MtV.cells
set_option maxRecDepth 100000 in
set_option maxHeartbeats 2000000 in
theorem eqTests_any (A B : Option Addr) (c d na nb : Nat) (a b : List IntsV) (w : World) (hna : na = a.length) (hnb : nb = b.length) (ha : Rd w A (tstC a)) (hb : Rd w B (tstC b)) (hoa : ∀ x ∈ a, x.ok w) (hob : ∀ x ∈ b, x.ok w) (hla : a.length ≤ 1000000) (hsa : ∀ x ∈ a, x.l.length ≤ 1000000) :
 Calls Tryz.prog 103 #[.slice A na c, .slice B nb d, .func (.func 101) #[] #[]] w fun e w' => e = .returned (.bool (decide (a.map IntsV.l = b.map IntsV.l))) ∧ Below w.heap.size w w' := by
 have Hsa := Lib.hid hsa
 clear hsa
 by_cases hl : na = nb
 rotate_left
 · have hlI : ((na : Int) != (nb : Int)) = true := by simp; omega
   have hne : a.map IntsV.l ≠ b.map IntsV.l := fun e => hl (by rw [hna, hnb]; simpa using congrArg List.length e)
   have Hne : Hid (decide (a.map IntsV.l = b.map IntsV.l) = false) := by show _ = _; simp [hne]
   clear hl hna hnb hne ha hb hla hoa hob
   go_enter Tryz.func103, Tryz.ntmps103
   go_wp2
   go_ret
   exact ⟨ret_b Hne.out, Below.refl _ _⟩
 subst hl
 have Ha := Lib.hid hna
 have Hb := Lib.hid hnb
 have hn6 : (na : Int) ≤ 1000000 := by omega
 clear hna hnb hla
 obtain ⟨S, hSd⟩ : ∃ S, S = (fun W => Rd W A (tstC a) ∧ Rd W B (tstC b) ∧ (∀ x ∈ a, x.ok W) ∧ (∀ x ∈ b, x.ok W) ∧ Below w.heap.size w W) := ⟨_, rfl⟩
 have stS : St S := by rw [hSd]; infer_instance
 have S0' : Hid (∀ W, S W → Rd W A (tstC a)) := by show ∀ W, _; rw [hSd]; exact fun W h => h.1
 have S1' : Hid (∀ W, S W → Rd W B (tstC b)) := by show ∀ W, _; rw [hSd]; exact fun W h => h.2.1
 have S3' : Hid (∀ W, S W → ∀ x ∈ a, x.ok W) := by show ∀ W, _; rw [hSd]; exact fun W h => h.2.2.1
 have S4' : Hid (∀ W, S W → ∀ x ∈ b, x.ok W) := by show ∀ W, _; rw [hSd]; exact fun W h => h.2.2.2.1
 have S2' : Hid (∀ W, S W → Below w.heap.size w W) := by show ∀ W, _; rw [hSd]; exact fun W h => h.2.2.2.2
 have hS : S w := by rw [hSd]; exact ⟨ha, hb, hoa, hob, Below.refl _ _⟩
 clear hSd ha hb hoa hob
 go_enter Tryz.func103, Tryz.ntmps103
 go_wp2
 go_loopw [17] (fun i wr => ∃ k : Nat, i = .int .i64 (k : Int) ∧ k ≤ na ∧ Hid ((a.take k).map IntsV.l = (b.take k).map IntsV.l) ∧ S wr) (fun i _ => na - (intOf i).toNat)
 case atStart => exact ⟨0, by simp, Nat.zero_le _, by simp [Hid], hS⟩
 case round =>
  clear hS
  obtain ⟨k, rfl, hk, Hk, hS⟩ := hrel
  by_cases hkn : k < na
  · obtain ⟨e, he⟩ : ∃ e, a[k]? = some e := ⟨_, List.getElem?_eq_getElem (by have := Ha.out; omega)⟩
    obtain ⟨f, hf⟩ : ∃ f, b[k]? = some f := ⟨_, List.getElem?_eq_getElem (by have := Hb.out; omega)⟩
    obtain ⟨ad, had, _⟩ := rd_map_at (S0'.out _ hS) he
    obtain ⟨bd, hbd, _⟩ := rd_map_at (S1'.out _ hS) hf
    subst had hbd
    have Hca : Hid (∀ W, S W → W.cell? (ad.add k) = some (.slice e.addr e.l.length e.cap)) := fun W h => by
     obtain ⟨ad', h1, h2⟩ := rd_map_at (S0'.out _ h) he
     injection h1 with h1; subst h1; exact h2
    have Hcb : Hid (∀ W, S W → W.cell? (bd.add k) = some (.slice f.addr f.l.length f.cap)) := fun W h => by
     obtain ⟨ad', h1, h2⟩ := rd_map_at (S1'.out _ h) hf
     injection h1 with h1; subst h1; exact h2
    have He := Lib.hid he
    have Hf := Lib.hid hf
    have Hea := Lib.hid (List.mem_of_getElem? he)
    have Hfb := Lib.hid (List.mem_of_getElem? hf)
    have hkn' : (k : Int) < (na : Int) := by omega
    have ewk : IntKind.i64.wrap ((k : Int) + 1) = (k : Int) + 1 := IntWalk.i64_in _ (by omega)
    clear he hf
    have hc1 := Hca.out _ hS
    have hc2 := Hcb.out _ hS
    have Hcall := Lib.hid (eqInts_any e.addr f.addr e.cap f.cap _ _ e.l f.l wr rfl rfl (S3'.out _ hS e Hea.out).reads (S4'.out _ hS f Hfb.out).reads (Hsa.out e Hea.out))
    go_wp2_with fail
    refine Hcall.out.mono ?_
    rintro e' w1 ⟨rfl, b1⟩
    replace hS := stS.go hS b1
    clear Hcall hc1 hc2 b1
    by_cases hef : e.l = f.l
    · have hd : decide (e.l = f.l) = true := by simp [hef]
      rw [hd]
      clear hd
      have Hst := Lib.hid (map_take_step (f := IntsV.l) Hk.out He.out Hf.out hef)
      clear Hca Hcb He Hf Hk hef Hea Hfb
      go_wp2
      go_roundw
      case rel => exact ⟨k + 1, by go_num, by omega, Hst, hS⟩
      case measure => simp [intOf]; omega
    · have hd : decide (e.l = f.l) = false := by simp [hef]
      rw [hd]
      clear hd
      have Hne : Hid (decide (a.map IntsV.l = b.map IntsV.l) = false) := by
       show _ = _
       have := map_take_no (f := IntsV.l) He.out Hf.out hef
       simp [this]
      clear Hca Hcb He Hf Hk hef Hea Hfb
      go_wp2
      go_ret
      exact ⟨ret_b Hne.out, S2'.out _ hS⟩
  · obtain rfl : k = na := by omega
    have Heq : Hid (decide (a.map IntsV.l = b.map IntsV.l) = true) := by
     show _ = _
     have h1 := Hk.out
     rw [List.take_of_length_le (by have := Ha.out; omega), List.take_of_length_le (by have := Hb.out; omega)] at h1
     simp [h1]
    clear hkn hk Hk
    go_wp2
    go_ret
    exact ⟨ret_b Heq.out, S2'.out _ hS⟩
theorem zero_mut (w : World) : (zeroValue 47).run Tryz.prog w = .ok (.agg #[.slice none 0 0, .int .i64 0, .int .i64 0, .int .i64 0, .int .i64 0, .int .i64 0, .int .i64 0, .string ByteArray.empty]) w := by kernel_rfl
theorem mt_one (x : MtV) : x.cells.toArray.all (·.oneCell') = true := by simp [MtV.cells, Value.oneCell']
set_option maxRecDepth 100000 in
set_option maxHeartbeats 2000000 in
theorem eqMuts_any (A B : Option Addr) (c d na nb : Nat) (a b : List MtV) (w : World) (hna : na = a.length) (hnb : nb = b.length) (ha : Rd w A (mtsC a)) (hb : Rd w B (mtsC b)) (hoa : ∀ x ∈ a, MtOk w x) (hob : ∀ x ∈ b, MtOk w x) (hla : a.length ≤ 1000000) :
 Calls Tryz.prog 79 #[.slice A na c, .slice B nb d, .func (.func 47) #[] #[]] w fun e w' => e = .returned (.bool (decide (a.map MtV.m = b.map MtV.m))) ∧ Below w.heap.size w w' := by
 by_cases hl : na = nb
 rotate_left
 · have hlI : ((na : Int) != (nb : Int)) = true := by simp; omega
   have hne : a.map MtV.m ≠ b.map MtV.m := fun e => hl (by rw [hna, hnb]; simpa using congrArg List.length e)
   have Hne : Hid (decide (a.map MtV.m = b.map MtV.m) = false) := by show _ = _; simp [hne]
   clear hl hna hnb hne ha hb hla hoa hob
   go_enter Tryz.func79, Tryz.ntmps79
   go_wp2
   go_ret
   exact ⟨ret_b Hne.out, Below.refl _ _⟩
 subst hl
 have Ha := Lib.hid hna
 have Hb := Lib.hid hnb
 have hn6 : (na : Int) ≤ 1000000 := by omega
 clear hna hnb hla
 obtain ⟨S, hSd⟩ : ∃ S, S = (fun W => Rd W A (mtsC a) ∧ Rd W B (mtsC b) ∧ (∀ x ∈ a, MtOk W x) ∧ (∀ x ∈ b, MtOk W x) ∧ Below w.heap.size w W) := ⟨_, rfl⟩
 have stS : St S := by rw [hSd]; infer_instance
 have S0' : Hid (∀ W, S W → Rd W A (mtsC a)) := by show ∀ W, _; rw [hSd]; exact fun W h => h.1
 have S1' : Hid (∀ W, S W → Rd W B (mtsC b)) := by show ∀ W, _; rw [hSd]; exact fun W h => h.2.1
 have S3' : Hid (∀ W, S W → ∀ x ∈ a, MtOk W x) := by show ∀ W, _; rw [hSd]; exact fun W h => h.2.2.1
 have S4' : Hid (∀ W, S W → ∀ x ∈ b, MtOk W x) := by show ∀ W, _; rw [hSd]; exact fun W h => h.2.2.2.1
 have S2' : Hid (∀ W, S W → Below w.heap.size w W) := by show ∀ W, _; rw [hSd]; exact fun W h => h.2.2.2.2
 have hS : S w := by rw [hSd]; exact ⟨ha, hb, hoa, hob, Below.refl _ _⟩
 clear hSd ha hb hoa hob
 go_enter Tryz.func79, Tryz.ntmps79
 go_wp2
 go_loopw [17] (fun i wr => ∃ k : Nat, i = .int .i64 (k : Int) ∧ k ≤ na ∧ Hid ((a.take k).map MtV.m = (b.take k).map MtV.m) ∧ S wr) (fun i _ => na - (intOf i).toNat)
 case atStart => exact ⟨0, by simp, Nat.zero_le _, by simp [Hid], hS⟩
 case round =>
  clear hS
  obtain ⟨k, rfl, hk, Hk, hS⟩ := hrel
  by_cases hkn : k < na
  · obtain ⟨e, he⟩ : ∃ e, a[k]? = some e := ⟨_, List.getElem?_eq_getElem (by have := Ha.out; omega)⟩
    obtain ⟨f, hf⟩ : ∃ f, b[k]? = some f := ⟨_, List.getElem?_eq_getElem (by have := Hb.out; omega)⟩
    obtain ⟨ad, had, _⟩ := mt_at (S0'.out _ hS) he
    obtain ⟨bd, hbd, _⟩ := mt_at (S1'.out _ hS) hf
    subst had hbd
    have Hca : Hid (∀ W, S W → ∀ j u, e.cells[j]? = some u → W.cell? ((ad.add (k * 8)).add j) = some u) := fun W h => by
     obtain ⟨ad', h1, h2⟩ := mt_at (S0'.out _ h) he
     injection h1 with h1; subst h1; exact h2
    have Hcb : Hid (∀ W, S W → ∀ j u, f.cells[j]? = some u → W.cell? ((bd.add (k * 8)).add j) = some u) := fun W h => by
     obtain ⟨ad', h1, h2⟩ := mt_at (S1'.out _ h) hf
     injection h1 with h1; subst h1; exact h2
    have He := Lib.hid he
    have Hf := Lib.hid hf
    have Hea := Lib.hid (List.mem_of_getElem? he)
    have Hfb := Lib.hid (List.mem_of_getElem? hf)
    have hkn' : (k : Int) < (na : Int) := by omega
    have ewk : IntKind.i64.wrap ((k : Int) + 1) = (k : Int) + 1 := IntWalk.i64_in _ (by omega)
    clear he hf
    go_wp2_with (first | (refine wpList_load_at rfl 47 _ rfl (ad.add (k * 8)) rfl e.cells _ (Hca.out _ hS) Tryz.underlying47 rfl (by kernel_rfl) ?_) | (refine at_alloc _ rfl ?_))
    refine Stop.to ?_
    refine wpList_alloc_gen rfl 47 rfl _ _ (zero_mut _) rfl ?_
    intro G Gw Gh Gr Gb
    go_wp2_with (refine at_store _ _ _ rfl ?_)
    refine Stop.to ?_
    refine wpList_store_gen rfl 47 _ _ rfl G e.cells.toArray rfl rfl 47 _ Gr (by kernel_rfl) rfl (mt_one _) ?_
    intro Gx Gs Go
    have Gc := (Gb.mono Gh).trans (Go.below Gh)
    clear Gb Gr Go
    replace hS := stS.go hS Gc
    go_wp2_with (first | (refine wpList_load_at rfl 47 _ rfl (bd.add (k * 8)) rfl f.cells _ (Hcb.out _ hS) Tryz.underlying47 rfl (by kernel_rfl) ?_) | (refine at_alloc _ rfl ?_))
    refine Stop.to ?_
    refine wpList_alloc_gen rfl 47 rfl _ _ (zero_mut _) rfl ?_
    intro J Jw Jh Jr Jb
    go_wp2_with (refine at_store _ _ _ rfl ?_)
    refine Stop.to ?_
    refine wpList_store_gen rfl 47 _ _ rfl J f.cells.toArray rfl rfl 47 _ Jr (by kernel_rfl) rfl (mt_one _) ?_
    intro Jx Js Jo
    have Jc := (Jb.mono Jh).trans (Jo.below Jh)
    clear Jb Jr Jo
    replace hS := stS.go hS Jc
    have rG := Gs.below Jc Gs.lt
    have Hcall := Lib.hid (mtSame_any e f Jx (S3'.out _ hS e Hea.out) (S4'.out _ hS f Hfb.out))
    clear Gs Gh Gc Jh Jc
    go_wp2_with (first | (refine wpList_load_row rfl 47 _ rfl G rfl 47 e.cells.toArray (0, 0) _ rG Tryz.underlying47 rfl (by kernel_rfl) ?_) | (refine wpList_load_row rfl 47 _ rfl J rfl 47 f.cells.toArray (0, 0) _ Js Tryz.underlying47 rfl (by kernel_rfl) ?_))
    refine Hcall.out.mono ?_
    rintro e' w1 ⟨rfl, b1⟩
    replace hS := stS.go hS b1
    clear Hcall b1 rG Js
    by_cases hef : e.m = f.m
    · have hd : sameM e.m f.m = true := sameM_iff.2 hef
      rw [hd]
      clear hd
      have Hst := Lib.hid (map_take_step (f := MtV.m) Hk.out He.out Hf.out hef)
      clear Hca Hcb He Hf Hk hef Hea Hfb
      go_wp2
      go_roundw
      case rel => exact ⟨k + 1, by go_num, by omega, Hst, hS⟩
      case measure => simp [intOf]; omega
    · have hd : sameM e.m f.m = false := by
       cases h : sameM e.m f.m
       · rfl
       · exact absurd (sameM_iff.1 h) hef
      rw [hd]
      clear hd
      have Hne : Hid (decide (a.map MtV.m = b.map MtV.m) = false) := by
       show _ = _
       have := map_take_no (f := MtV.m) He.out Hf.out hef
       simp [this]
      clear Hca Hcb He Hf Hk hef Hea Hfb
      go_wp2
      go_ret
      exact ⟨ret_b Hne.out, S2'.out _ hS⟩
  · obtain rfl : k = na := by omega
    have Heq : Hid (decide (a.map MtV.m = b.map MtV.m) = true) := by
     show _ = _
     have h1 := Hk.out
     rw [List.take_of_length_le (by have := Ha.out; omega), List.take_of_length_le (by have := Hb.out; omega)] at h1
     simp [h1]
    clear hkn hk Hk
    go_wp2
    go_ret
    exact ⟨ret_b Heq.out, S2'.out _ hS⟩
set_option maxRecDepth 100000 in
set_option maxHeartbeats 2000000 in
theorem refAllMuts_any (A B : Option Addr) (c d na nb : Nat) (a b : List MtV) (w : World) (hna : na = a.length) (hnb : nb = b.length) (ha : Rd w A (mtsC a)) (hb : Rd w B (mtsC b)) (hoa : ∀ x ∈ a, MtOk w x) (hob : ∀ x ∈ b, MtOk w x) (hla : a.length ≤ 1000000) :
 Calls Tryz.prog 41 #[.slice A na c, .slice B nb d] w fun e w' => e = .returned (.bool (decide (a.map MtV.m = b.map MtV.m))) ∧ Below w.heap.size w w' := by
 by_cases hl : na = nb
 rotate_left
 · have hlI : ((na : Int) != (nb : Int)) = true := by simp; omega
   have hne : a.map MtV.m ≠ b.map MtV.m := fun e => hl (by rw [hna, hnb]; simpa using congrArg List.length e)
   have Hne : Hid (decide (a.map MtV.m = b.map MtV.m) = false) := by show _ = _; simp [hne]
   clear hl hna hnb hne ha hb hla hoa hob
   go_enter Tryz.func41, Tryz.ntmps41
   go_wp2
   go_ret
   exact ⟨ret_b Hne.out, Below.refl _ _⟩
 subst hl
 have Ha := Lib.hid hna
 have Hb := Lib.hid hnb
 have hn6 : (na : Int) ≤ 1000000 := by omega
 clear hna hnb hla
 obtain ⟨S, hSd⟩ : ∃ S, S = (fun W => Rd W A (mtsC a) ∧ Rd W B (mtsC b) ∧ (∀ x ∈ a, MtOk W x) ∧ (∀ x ∈ b, MtOk W x) ∧ Below w.heap.size w W) := ⟨_, rfl⟩
 have stS : St S := by rw [hSd]; infer_instance
 have S0' : Hid (∀ W, S W → Rd W A (mtsC a)) := by show ∀ W, _; rw [hSd]; exact fun W h => h.1
 have S1' : Hid (∀ W, S W → Rd W B (mtsC b)) := by show ∀ W, _; rw [hSd]; exact fun W h => h.2.1
 have S3' : Hid (∀ W, S W → ∀ x ∈ a, MtOk W x) := by show ∀ W, _; rw [hSd]; exact fun W h => h.2.2.1
 have S4' : Hid (∀ W, S W → ∀ x ∈ b, MtOk W x) := by show ∀ W, _; rw [hSd]; exact fun W h => h.2.2.2.1
 have S2' : Hid (∀ W, S W → Below w.heap.size w W) := by show ∀ W, _; rw [hSd]; exact fun W h => h.2.2.2.2
 have hS : S w := by rw [hSd]; exact ⟨ha, hb, hoa, hob, Below.refl _ _⟩
 clear hSd ha hb hoa hob
 go_enter Tryz.func41, Tryz.ntmps41
 go_wp2
 go_loopw [5] (fun i wr => ∃ k : Nat, i = .int .i64 (k : Int) ∧ k ≤ na ∧ Hid ((a.take k).map MtV.m = (b.take k).map MtV.m) ∧ S wr) (fun i _ => na - (intOf i).toNat)
 case atStart => exact ⟨0, by simp, Nat.zero_le _, by simp [Hid], hS⟩
 case round =>
  clear hS
  obtain ⟨k, rfl, hk, Hk, hS⟩ := hrel
  by_cases hkn : k < na
  · obtain ⟨e, he⟩ : ∃ e, a[k]? = some e := ⟨_, List.getElem?_eq_getElem (by have := Ha.out; omega)⟩
    obtain ⟨f, hf⟩ : ∃ f, b[k]? = some f := ⟨_, List.getElem?_eq_getElem (by have := Hb.out; omega)⟩
    obtain ⟨ad, had, _⟩ := mt_at (S0'.out _ hS) he
    obtain ⟨bd, hbd, _⟩ := mt_at (S1'.out _ hS) hf
    subst had hbd
    have Hca : Hid (∀ W, S W → ∀ j u, e.cells[j]? = some u → W.cell? ((ad.add (k * 8)).add j) = some u) := fun W h => by
     obtain ⟨ad', h1, h2⟩ := mt_at (S0'.out _ h) he
     injection h1 with h1; subst h1; exact h2
    have Hcb : Hid (∀ W, S W → ∀ j u, f.cells[j]? = some u → W.cell? ((bd.add (k * 8)).add j) = some u) := fun W h => by
     obtain ⟨ad', h1, h2⟩ := mt_at (S1'.out _ h) hf
     injection h1 with h1; subst h1; exact h2
    have He := Lib.hid he
    have Hf := Lib.hid hf
    have Hea := Lib.hid (List.mem_of_getElem? he)
    have Hfb := Lib.hid (List.mem_of_getElem? hf)
    have hkn' : (k : Int) < (na : Int) := by omega
    have ewk : IntKind.i64.wrap ((k : Int) + 1) = (k : Int) + 1 := IntWalk.i64_in _ (by omega)
    clear he hf
    go_wp2
    refine region_hold S (by kernel_rfl) (by kernel_rfl) (St.drew hS) ?_
    clear hS
    iterate 3 (refine hold_value rfl ?_ (fun W hW => ?_) ?_; rotate_left; (focus (go_simp; exact rfl)); simp only [Act.put, List.setIfInBounds_toArray, List.set_cons_zero, List.set_cons_succ])
    (refine hold_load_at rfl 47 _ rfl ((ad.add (k * 8))) rfl e.cells _ Hca.out Tryz.underlying47 rfl (by kernel_rfl) ?_; simp only [Act.put, List.setIfInBounds_toArray, List.set_cons_zero, List.set_cons_succ])
    iterate 3 (refine hold_value rfl ?_ (fun W hW => ?_) ?_; rotate_left; (focus (go_simp; exact rfl)); simp only [Act.put, List.setIfInBounds_toArray, List.set_cons_zero, List.set_cons_succ])
    (refine hold_load_at rfl 47 _ rfl ((bd.add (k * 8))) rfl f.cells _ Hcb.out Tryz.underlying47 rfl (by kernel_rfl) ?_; simp only [Act.put, List.setIfInBounds_toArray, List.set_cons_zero, List.set_cons_succ])
    (refine hold_call_new rfl 52 _ (fun W => by (go_simp; try rfl)) (.bool (sameM e.m f.m)) (fun W hW => refMtSame_any e f W (S3'.out _ hW e Hea.out) (S4'.out _ hW f Hfb.out)) ?_; simp only [Act.put, List.setIfInBounds_toArray, List.set_cons_zero, List.set_cons_succ])
    (refine hold_value rfl ?_ (fun W hW => ?_) ?_; rotate_left; (focus (go_simp; exact rfl)); simp only [Act.put, List.setIfInBounds_toArray, List.set_cons_zero, List.set_cons_succ])
    refine wpHold_nil fun W hS => ?_
    by_cases hef : e.m = f.m
    · have hd : sameM e.m f.m = true := sameM_iff.2 hef
      rw [hd]
      clear hd
      have Hst := Lib.hid (map_take_step (f := MtV.m) Hk.out He.out Hf.out hef)
      clear Hca Hcb He Hf Hk hef Hea Hfb
      go_wp2
      go_roundw
      case rel => exact ⟨k + 1, by go_num, by omega, Hst, hS⟩
      case measure => simp [intOf]; omega
    · have hd : sameM e.m f.m = false := by
       cases h : sameM e.m f.m
       · rfl
       · exact absurd (sameM_iff.1 h) hef
      rw [hd]
      clear hd
      have Hne : Hid (decide (a.map MtV.m = b.map MtV.m) = false) := by
       show _ = _
       have := map_take_no (f := MtV.m) He.out Hf.out hef
       simp [this]
      clear Hca Hcb He Hf Hk hef Hea Hfb
      go_wp2
      go_ret
      exact ⟨ret_b Hne.out, S2'.out _ hS⟩
  · obtain rfl : k = na := by omega
    have Heq : Hid (decide (a.map MtV.m = b.map MtV.m) = true) := by
     show _ = _
     have h1 := Hk.out
     rw [List.take_of_length_le (by have := Ha.out; omega), List.take_of_length_le (by have := Hb.out; omega)] at h1
     simp [h1]
    clear hkn hk Hk
    go_wp2
    go_ret
    exact ⟨ret_b Heq.out, S2'.out _ hS⟩
end Go.Proofs.YtcgglolckkeeiaaGreat
namespace Go.Proofs.YtcgglolckkeeiaaGreat
open Go.RowKit Go.Deep
structure CpV where
 p : PgV
 tA : Option Addr
 tcap : Nat
 tests : List IntsV
 fuel : Int
 mA : Option Addr
 mcap : Nat
 mts : List MtV
 sc : Sc
def CpV.cells (c : CpV) : Array Value := #[.int .i64 c.p.params, .slice c.p.va c.p.V.length c.p.vcap, .slice c.p.ba c.p.body.length c.p.bcap, .slice c.tA c.tests.length c.tcap, .int .i64 c.fuel, .slice c.mA c.mts.length c.mcap, .int .i64 c.sc.alive, .int .i64 c.sc.killed, .int .i64 c.sc.timeout]
structure CpOk (W : World) (c : CpV) : Prop where
 pok : c.p.ok W
 bl : c.p.body.length ≤ 1000
 vl : c.p.V.length ≤ 1000
 trd : Rd W c.tA (tstC c.tests)
 tok : ∀ x ∈ c.tests, x.ok W
 tlen : c.tests.length ≤ 1000
 tl : ∀ x ∈ c.tests, x.l.length ≤ 1000
 tnil : c.tA = none → c.tests = []
 mrd : Rd W c.mA (mtsC c.mts)
 mok : ∀ x ∈ c.mts, MtOk W x
 mlen : c.mts.length ≤ 100000
 mnil : c.mA = none → c.mts = []
theorem CpOk.go {W W' : World} {c : CpV} (h : CpOk W c) (b : Below W.heap.size W W') : CpOk W' c :=
 ⟨h.pok.go b, h.bl, h.vl, h.trd.go b, fun x hx => (h.tok x hx).go b, h.tlen, h.tl, h.tnil, h.mrd.go b, fun x hx => (h.mok x hx).go b, h.mlen, h.mnil⟩
instance St.cpok {c : CpV} : St (fun W => CpOk W c) := ⟨fun h b => h.go b⟩
def sameP (p q : PgV) : Bool := decide (p.params = q.params ∧ p.V = q.V ∧ p.body = q.body)
def CpV.testsL (c : CpV) : List (List Int) := c.tests.map IntsV.l
def CpV.muts (c : CpV) : List Mt := c.mts.map MtV.m
theorem sameP_no1 {p q : PgV} (h : ¬ p.params = q.params) : sameP p q = false := by unfold sameP; simp [h]
theorem sameP_no2 {p q : PgV} (h : ¬ p.V = q.V) : sameP p q = false := by unfold sameP; simp [h]
theorem sameP_yes {p q : PgV} (h : p.params = q.params) (h2 : p.V = q.V) : sameP p q = decide (p.body = q.body) := by unfold sameP; simp [h, h2]
set_option maxRecDepth 100000 in
set_option maxHeartbeats 2000000 in
theorem pgSame_any (p q : PgV) (w : World) (hx : p.ok w) (hy : q.ok w) (hpl : p.body.length ≤ 1000) (hvl : p.V.length ≤ 1000) :
 Calls Tryz.prog 43 #[.agg p.cells, .agg q.cells] w fun e w' => e = .returned (.bool (sameP p q)) ∧ Below w.heap.size w w' := by
 have Ha := Lib.hid hx
 have Hb := Lib.hid hy
 clear hx hy
 go_enter Tryz.func43, Tryz.ntmps43
 go_wp2_with (refine at_box _ _ rfl ?_)
 refine Stop.to ?_
 refine wpList_box_gen rfl 25 _ rfl p.cells rfl ?_
 intro G Gw Gh Gr Gb
 go_wp2_with (refine at_box _ _ rfl ?_)
 refine Stop.to ?_
 refine wpList_box_gen rfl 25 _ rfl q.cells rfl ?_
 intro J Jw Jh Jr Jb
 have rG := Gr.below Jb (Nat.lt_of_lt_of_le Gr.lt Jh)
 have b1 := (Below.refl w.heap.size w).trans (Gb.mono Gh)
 have b2 := b1.trans ((Jb.mono Jh).mono b1.size)
 have c0 := rG.cellv (i := 0) (v := .int .i64 p.params) rfl
 have c1 := rG.cellv (i := 1) (v := .slice p.va p.V.length p.vcap) rfl
 have c2 := rG.cellv (i := 2) (v := .slice p.ba p.body.length p.bcap) rfl
 have d0 := Jr.cellv (i := 0) (v := .int .i64 q.params) rfl
 have d1 := Jr.cellv (i := 1) (v := .slice q.va q.V.length q.vcap) rfl
 have d2 := Jr.cellv (i := 2) (v := .slice q.ba q.body.length q.bcap) rfl
 by_cases h1 : p.params = q.params
 rotate_left
 · clear Gr Gb Gh Jb Jh Jr rG
   go_wp2_with fail
   go_ret
   exact ⟨ret_b (sameP_no1 h1), b2⟩
 have H1 := Lib.hid h1
 have h1' : (p.params == q.params) = true := by simpa using h1
 clear h1
 have Hv := Lib.hid (eqInts_any p.va q.va p.vcap q.vcap _ _ p.V q.V Jw rfl rfl (Ha.out.go b2).vrd (Hb.out.go b2).vrd (by omega))
 have rJ := Jr
 clear Gr Gb Gh Jb Jh Jr
 go_wp2_with fail
 refine Hv.out.mono ?_
 rintro e w1 ⟨rfl, b3⟩
 have b4 := b2.trans (b3.mono b2.size)
 have rG' := rG.below b3 rG.lt
 have rJ' := rJ.below b3 rJ.lt
 clear Hv b3 c0 c1 c2 d0 d1 d2 rG rJ
 have c2 := rG'.cellv (i := 2) (v := .slice p.ba p.body.length p.bcap) rfl
 have d2 := rJ'.cellv (i := 2) (v := .slice q.ba q.body.length q.bcap) rfl
 by_cases h2 : p.V = q.V
 rotate_left
 · have hd : decide (p.V = q.V) = false := by simp [h2]
   rw [hd]
   clear hd
   go_wp2_with fail
   go_ret
   exact ⟨ret_b (sameP_no2 h2), b4⟩
 have H2 := Lib.hid h2
 have hd : decide (p.V = q.V) = true := by simp [h2]
 rw [hd]
 clear hd h2
 have Hn := Lib.hid (eqNodes_any p.ba q.ba p.bcap q.bcap _ _ p.body q.body w1 rfl rfl (Ha.out.go b4).brd (Hb.out.go b4).brd (by omega))
 clear rG' rJ'
 go_wp2_with fail
 refine Hn.out.mono ?_
 rintro e w2 ⟨rfl, b5⟩
 have b6 := b4.trans (b5.mono b4.size)
 clear Hn b5 c2 d2
 go_wp2_with fail
 go_ret
 exact ⟨ret_b (by rw [sameP_yes H1.out H2.out]), b6⟩
set_option maxRecDepth 100000 in
set_option maxHeartbeats 2000000 in
theorem tsSame_any (A B : Option Addr) (c d : Nat) (a b : List IntsV) (w : World) (ha : Rd w A (tstC a)) (hb : Rd w B (tstC b)) (hoa : ∀ x ∈ a, x.ok w) (hob : ∀ x ∈ b, x.ok w) (hla : a.length ≤ 1000000) (hsa : ∀ x ∈ a, x.l.length ≤ 1000000) :
 Calls Tryz.prog 44 #[.slice A a.length c, .slice B b.length d] w fun e w' => e = .returned (.bool (decide (a.map IntsV.l = b.map IntsV.l))) ∧ Below w.heap.size w w' := by
 have Hc := Lib.hid (eqTests_any A B c d _ _ a b w rfl rfl ha hb hoa hob hla hsa)
 clear ha hb hoa hob hla hsa
 go_enter Tryz.func44, Tryz.ntmps44
 go_wp2_with fail
 refine Hc.out.mono ?_
 rintro e w1 ⟨rfl, b1⟩
 go_wp2_with fail
 go_ret
 exact ⟨rfl, b1⟩
end Go.Proofs.YtcgglolckkeeiaaGreat
