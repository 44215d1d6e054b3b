/- The walks over machine.Check and its reference: whether a program may be run. Conditions: stated in each theorem. -/
import Derived.Test.YtlglilmgklipdaaKdP
import Derived.Test.YtlglilmgklipdaaKdX
namespace Go.Proofs.Ytlglilmgklipdaa
set_option linter.unusedVariables false
open Go.RowKit Go.Deep

/-- The program is one typed tree. -/
structure Good (p : PgV) (t : Tr) : Prop where
  hat : At p.body 0 t
  size : t.size = p.body.length
  vars : varsOk p.params p.V
  tag : t.root.tag = 20
  kind : ofT p.V t = 2
open Classical in
noncomputable def checkZ (p : PgV) (n : Nat) (fuel : Int) : Int := if ∃ t, Good p t then (if (n : Int) ≠ p.params then 18 else if fuel < 0 ∨ 10000 < fuel then 19 else 0) else 23
theorem checkZ_no {p : PgV} {n : Nat} {fuel : Int} (h : ∀ t, ¬ Good p t) : checkZ p n fuel = 23 := by unfold checkZ; rw [if_neg (fun ⟨t, ht⟩ => h t ht)]
theorem checkZ_good {p : PgV} {n : Nat} {fuel : Int} {t : Tr} (h : Good p t) : checkZ p n fuel = if (n : Int) ≠ p.params then 18 else if fuel < 0 ∨ 10000 < fuel then 19 else 0 := by unfold checkZ; rw [if_pos ⟨t, h⟩]
theorem At.uniq {l : List Nd} {q : Nat} {a b : Tr} (ha : At l q a) (hb : At l q b) : a = b := by
  have key : ∀ n, (∀ (a b : Tr) (r s : List Nd), a.size ≤ n → a.fits → b.fits → a.flat ++ r = b.flat ++ s → a = b) ∧ (∀ (ls ms : List Tr) (r s : List Nd), (flats ls).length ≤ n → ls.length = ms.length → (∀ t ∈ ls, t.fits) → (∀ t ∈ ms, t.fits) → flats ls ++ r = flats ms ++ s → ls = ms) := by
    intro n
    induction n with
    | zero =>
      refine ⟨fun a b r s h => by have := a.size_eq; omega, fun ls ms r s h hl _ _ _ => ?_⟩
      cases ls with
      | nil => exact (List.eq_nil_of_length_eq_zero (by simpa using hl.symm)).symm
      | cons t ts => rw [flats, List.length_append] at h; have := t.size_eq; have hsz : t.size = t.flat.length := rfl; omega
    | succ n ih =>
      have one : ∀ (a b : Tr) (r s : List Nd), a.size ≤ n + 1 → a.fits → b.fits → a.flat ++ r = b.flat ++ s → a = b := by
        rintro ⟨x, ks⟩ ⟨y, js⟩ r s h fa fb e
        have e' := e
        rw [Tr.flat_eq, Tr.flat_eq, List.cons_append, List.cons_append] at e'
        injection e' with e1 e2
        simp only [Tr.root, Tr.kids] at e1 e2
        subst e1
        have hl : ks.length = js.length := by
          have h1 := fa.arity
          have h2 := fb.arity
          simp only [Tr.root, Tr.kids] at h1 h2
          omega
        have h4 := (Tr.node x ks).size_eq
        simp only [Tr.kids] at h4
        rw [ih.2 ks js r s (by omega) hl fa.kid fb.kid e2]
      refine ⟨one, fun ls ms => ?_⟩
      induction ls generalizing ms with
      | nil => intro r s _ hl _ _ _; exact (List.eq_nil_of_length_eq_zero (by simpa using hl.symm)).symm
      | cons t ts iht =>
        intro r s h hl fa fb e
        cases ms with
        | nil => simp at hl
        | cons u us =>
          rw [flats, flats, List.append_assoc, List.append_assoc] at e
          rw [flats, List.length_append] at h
          have ht : t = u := one t u _ _ (by unfold Tr.size; omega) (fa t (by simp)) (fb u (by simp)) e
          subst ht
          rw [iht us r s (by omega) (by simpa using hl) (fun k hk => fa k (by simp [hk])) (fun k hk => fb k (by simp [hk])) (List.append_cancel_left e)]
  obtain ⟨r, hr⟩ := ha.here
  obtain ⟨s, hs⟩ := hb.here
  exact (key a.size).1 a b r s (Nat.le_refl _) ha.fits hb.fits (by rw [← hr, hs])
theorem not_good_tree {p : PgV} {t : Tr} (hat : At p.body 0 t) (h : ¬ (t.root.tag = 20 ∧ ofT p.V t = 2)) : ∀ t', ¬ Good p t' := fun t' g => by
  have := hat.uniq g.hat
  subst this
  exact h ⟨g.tag, g.kind⟩
theorem not_good_vars {p : PgV} (h : varsE p.params p.V ≠ 0) : ∀ t', ¬ Good p t' := fun t' g => h (by unfold varsE; rw [if_pos g.vars])
theorem not_good_end {p : PgV} (h : endZ p.body 0 ≠ (p.body.length : Int)) : ∀ t', ¬ Good p t' := fun t' g => h (by
  have := g.hat.endZ
  rw [g.size, Nat.zero_add] at this
  exact this)
theorem not_good_nil {p : PgV} (h : p.body.length = 0) : ∀ t', ¬ Good p t' := fun t' g => by have := g.hat.lt; omega
theorem varsE_cases (a : Int) (V : List Int) : varsE a V = 0 ∧ varsOk a V ∨ varsE a V = 14 := by
  unfold varsE
  by_cases h : varsOk a V
  · rw [if_pos h]; exact .inl ⟨rfl, h⟩
  · rw [if_neg h]; exact .inr rfl

set_option maxRecDepth 100000 in
set_option maxHeartbeats 8000000 in
theorem mCheck_any (p : PgV) (aa : Option Addr) (acap n : Nat) (fuel : Int) (hbl : p.body.length ≤ 1000) (hn : n ≤ 1000) (w : World) (hok : p.ok w) : Calls Try.prog 18 #[.agg p.cells, .slice aa n acap, .int .i64 fuel] w fun e w' => e = .returned (.int .i64 (checkZ p n fuel)) ∧ Below w.heap.size w w' := by
  have Hbl := Lib.hid hbl
  have Hok := Lib.hid hok
  clear hbl hok
  go_enter Try.func18, Try.ntmps18
  go_wp2_with (refine at_box _ _ rfl ?_)
  refine Stop.to ?_
  refine wpList_box_gen rfl 25 _ rfl p.cells rfl ?_
  intro G w1 hG r1 b1
  have b1 := (Below.refl w.heap.size w).trans (b1.mono hG)
  obtain ⟨S, hSd⟩ : ∃ S, S = (fun W => Row W G 25 p.cells ∧ p.ok W ∧ Below w.heap.size w W) := ⟨_, rfl⟩
  have stS : St S := by rw [hSd]; infer_instance
  have s0 : ∀ W, S W → Row W G 25 p.cells := by rw [hSd]; exact fun W h => h.1
  have S1 : Hid (∀ W, S W → p.ok W) := by show ∀ W, _; rw [hSd]; exact fun W h => h.2.1
  have S2 : Hid (∀ W, S W → Below w.heap.size w W) := by show ∀ W, _; rw [hSd]; exact fun W h => h.2.2
  have hS : S w1 := by rw [hSd]; exact ⟨r1, Hok.out.go b1, b1⟩
  have S0 := Lib.hid s0
  clear hSd r1 b1 hG Hok s0
  go_wp2_with fail
  refine region_hold S (by kernel_rfl) (by kernel_rfl) (St.drew hS) ?_
  clear hS
  (refine hold_load_row rfl 25 _ rfl (G) rfl 25 _ _ S0.out Try.underlying25 rfl (by kernel_rfl) ?_; simp only [Act.put, List.setIfInBounds_toArray, List.set_cons_zero, List.set_cons_succ])
  (refine hold_call_new rfl 41 _ (fun W => by (go_simp; try rfl)) _ (fun W hW => vars_any p W (S1.out _ hW)) ?_; simp only [Act.put, List.setIfInBounds_toArray, List.set_cons_zero, List.set_cons_succ])
  have hve := varsE_cases p.params p.V
  generalize hve0 : varsE p.params p.V = ve at hve
  have Hve := Lib.hid hve0
  clear hve0
  rcases hve with ⟨rfl, hvok⟩ | rfl
  rotate_left
  · have hz := Lib.hid (checkZ_no (n := n) (fuel := fuel) (not_good_vars (p := p) (by rw [Hve.out]; omega)))
    iterate 2 (refine hold_value rfl ?_ (fun W hW => ?_) ?_; rotate_left; (focus (go_simp; exact rfl)); simp only [Act.put, List.setIfInBounds_toArray, List.set_cons_zero, List.set_cons_succ])
    iterate 4 (refine hold_skip rfl ?_; simp only [Act.put, List.setIfInBounds_toArray, List.set_cons_zero, List.set_cons_succ])
    iterate 2 (refine hold_value rfl ?_ (fun W hW => ?_) ?_; rotate_left; (focus (go_simp; exact rfl)); simp only [Act.put, List.setIfInBounds_toArray, List.set_cons_zero, List.set_cons_succ])
    iterate 7 (refine hold_skip rfl ?_; simp only [Act.put, List.setIfInBounds_toArray, List.set_cons_zero, List.set_cons_succ])
    iterate 2 (refine hold_value rfl ?_ (fun W hW => ?_) ?_; rotate_left; (focus (go_simp; exact rfl)); simp only [Act.put, List.setIfInBounds_toArray, List.set_cons_zero, List.set_cons_succ])
    refine wpHold_nil fun W hW => ?_
    go_wp2
    go_ret
    exact ⟨ret_i hz.out, S2.out _ hW⟩
  have Hvok := Lib.hid hvok
  clear hvok
  by_cases hl : p.body.length = 0
  · have hz := Lib.hid (checkZ_no (n := n) (fuel := fuel) (not_good_nil hl))
    have hl' : ((p.body.length : Int) == 0) = true := by simp [hl]
    clear hl
    iterate 3 (refine hold_value rfl ?_ (fun W hW => ?_) ?_; rotate_left; (focus (go_simp; exact rfl)); simp only [Act.put, List.setIfInBounds_toArray, List.set_cons_zero, List.set_cons_succ])
    (refine hold_value rfl ?_ (fun W hW => ?_) ?_; rotate_left; (focus (have c := (S0.out _ hW).cellv (i := 2) (v := .slice p.ba p.body.length p.bcap) rfl; go_simp; exact rfl)); simp only [Act.put, List.setIfInBounds_toArray, List.set_cons_zero, List.set_cons_succ])
    iterate 4 (refine hold_value rfl ?_ (fun W hW => ?_) ?_; rotate_left; (focus (go_simp; exact rfl)); simp only [Act.put, List.setIfInBounds_toArray, List.set_cons_zero, List.set_cons_succ])
    iterate 7 (refine hold_skip rfl ?_; simp only [Act.put, List.setIfInBounds_toArray, List.set_cons_zero, List.set_cons_succ])
    iterate 2 (refine hold_value rfl ?_ (fun W hW => ?_) ?_; rotate_left; (focus (go_simp; exact rfl)); simp only [Act.put, List.setIfInBounds_toArray, List.set_cons_zero, List.set_cons_succ])
    refine wpHold_nil fun W hW => ?_
    go_wp2
    go_ret
    exact ⟨ret_i hz.out, S2.out _ hW⟩
  have hl' : ((p.body.length : Int) == 0) = false := by simpa using hl
  have Hl := Lib.hid hl
  clear hl
  iterate 3 (refine hold_value rfl ?_ (fun W hW => ?_) ?_; rotate_left; (focus (go_simp; exact rfl)); simp only [Act.put, List.setIfInBounds_toArray, List.set_cons_zero, List.set_cons_succ])
  (refine hold_value rfl ?_ (fun W hW => ?_) ?_; rotate_left; (focus (have c := (S0.out _ hW).cellv (i := 2) (v := .slice p.ba p.body.length p.bcap) rfl; go_simp; exact rfl)); simp only [Act.put, List.setIfInBounds_toArray, List.set_cons_zero, List.set_cons_succ])
  iterate 5 (refine hold_value rfl ?_ (fun W hW => ?_) ?_; rotate_left; (focus (go_simp; exact rfl)); simp only [Act.put, List.setIfInBounds_toArray, List.set_cons_zero, List.set_cons_succ])
  (refine hold_value rfl ?_ (fun W hW => ?_) ?_; rotate_left; (focus (have c := (S0.out _ hW).cellv (i := 2) (v := .slice p.ba p.body.length p.bcap) rfl; go_simp; exact rfl)); simp only [Act.put, List.setIfInBounds_toArray, List.set_cons_zero, List.set_cons_succ])
  (refine hold_call_new rfl 42 _ (fun W => by (go_simp; try rfl)) _ (fun W hW => end_any p.ba p.bcap p.body 0 W (S1.out _ hW).brd Hbl.out) ?_; simp only [Act.put, List.setIfInBounds_toArray, List.set_cons_zero, List.set_cons_succ])
  iterate 1 (refine hold_value rfl ?_ (fun W hW => ?_) ?_; rotate_left; (focus (go_simp; exact rfl)); simp only [Act.put, List.setIfInBounds_toArray, List.set_cons_zero, List.set_cons_succ])
  (refine hold_value rfl ?_ (fun W hW => ?_) ?_; rotate_left; (focus (have c := (S0.out _ hW).cellv (i := 2) (v := .slice p.ba p.body.length p.bcap) rfl; go_simp; exact rfl)); simp only [Act.put, List.setIfInBounds_toArray, List.set_cons_zero, List.set_cons_succ])
  iterate 1 (refine hold_value rfl ?_ (fun W hW => ?_) ?_; rotate_left; (focus (go_simp; exact rfl)); simp only [Act.put, List.setIfInBounds_toArray, List.set_cons_zero, List.set_cons_succ])
  by_cases he : endZ p.body 0 = (p.body.length : Int)
  rotate_left
  · have hz := Lib.hid (checkZ_no (n := n) (fuel := fuel) (not_good_end he))
    have he' : (endZ p.body 0 != (p.body.length : Int)) = true := by simpa using he
    clear he
    iterate 3 (refine hold_value rfl ?_ (fun W hW => ?_) ?_; rotate_left; (focus (go_simp; exact rfl)); simp only [Act.put, List.setIfInBounds_toArray, List.set_cons_zero, List.set_cons_succ])
    refine wpHold_nil fun W hW => ?_
    go_wp2
    go_ret
    exact ⟨ret_i hz.out, S2.out _ hW⟩
  have he' : (endZ p.body 0 != (p.body.length : Int)) = false := by simp [he]
  have He := Lib.hid he
  clear he
  iterate 3 (refine hold_value rfl ?_ (fun W hW => ?_) ?_; rotate_left; (focus (go_simp; exact rfl)); simp only [Act.put, List.setIfInBounds_toArray, List.set_cons_zero, List.set_cons_succ])
  refine wpHold_nil fun W hW => ?_
  obtain ⟨t, hat, _⟩ := at_of_endZ (l := p.body) (a := 0) (by rw [He.out]; omega)
  have hat : At p.body 0 t := hat
  have hsz : t.size = p.body.length := by have h1 := hat.endZ; have h2 := He.out; simp only [Nat.zero_add] at h1; have h3 : endZ p.body 0 = (t.size : Int) := h1; omega
  have Hat := Lib.hid hat
  have Hsz := Lib.hid hsz
  have c2 := (S0.out _ hW).cellv (i := 2) (v := .slice p.ba p.body.length p.bcap) rfl
  obtain ⟨bd, hbd, hcx⟩ := nd_at (S1.out _ hW).brd (k := 0) hat.root
  have hc0 := hcx 0 (.int .i64 t.root.tag) rfl
  rw [show (bd.add (0 * 2)).add 0 = bd by rw [add_add']; simp [Addr.add]] at hc0
  rw [hbd] at c2
  have hlpos : (0 : Int) < (p.body.length : Int) := by have := Hl.out; omega
  have hlpos' : 0 < p.body.length := by omega
  clear hcx hbd hat hsz
  by_cases ht : t.root.tag = 20
  rotate_left
  · have hz := Lib.hid (checkZ_no (n := n) (fuel := fuel) (not_good_tree Hat.out (fun h => ht h.1)))
    have ht' : (t.root.tag != 20) = true := by simpa using ht
    clear ht
    go_wp2
    go_ret
    exact ⟨ret_i hz.out, S2.out _ hW⟩
  have ht' : (t.root.tag != 20) = false := by simp [ht]
  have Ht := Lib.hid ht
  clear ht
  go_wp2_with (refine wpList_load_rowG rfl 25 _ rfl G rfl 25 p.cells (0, 0) _ (S0.out _ hW) Try.underlying25 rfl (by kernel_rfl) ?_)
  refine (kOf_tree p Hbl.out t 0 Hat.out W (S1.out _ hW)).mono ?_
  rintro e W2 ⟨rfl, b2⟩
  have hW2 := stS.go hW b2
  clear c2 hc0 b2 hW
  by_cases hk : ofT p.V t = 2
  rotate_left
  · have hz := Lib.hid (checkZ_no (n := n) (fuel := fuel) (not_good_tree Hat.out (fun h => hk h.2)))
    have hk' : (ofT p.V t != 2) = true := by simpa using hk
    clear hk
    go_wp2
    go_ret
    exact ⟨ret_i hz.out, S2.out _ hW2⟩
  have hk' : (ofT p.V t != 2) = false := by simp [hk]
  have hz := Lib.hid (checkZ_good (n := n) (fuel := fuel) (⟨Hat.out, Hsz.out, Hvok.out, Ht.out, hk⟩ : Good p t))
  have c0 := (S0.out _ hW2).cellv (i := 0) (v := .int .i64 p.params) rfl
  clear hk
  by_cases hp : (n : Int) = p.params
  rotate_left
  · have hp' : ((n : Int) != p.params) = true := by simpa using hp
    have Hp := Lib.hid hp
    clear hp
    go_wp2
    go_ret
    exact ⟨ret_i (by rw [hz.out, if_pos Hp.out]), S2.out _ hW2⟩
  have hp' : ((n : Int) != p.params) = false := by simp [hp]
  have Hp := Lib.hid hp
  clear hp
  by_cases hf : fuel < 0
  · go_wp2
    go_ret
    exact ⟨ret_i (by rw [hz.out, if_neg (fun h => h Hp.out), if_pos (.inl hf)]), S2.out _ hW2⟩
  have hf0 : 0 ≤ fuel := by omega
  by_cases hf2 : 10000 < fuel
  · clear hf
    go_wp2
    go_ret
    exact ⟨ret_i (by rw [hz.out, if_neg (fun h => h Hp.out), if_pos (.inr hf2)]), S2.out _ hW2⟩
  have hf3 : fuel ≤ 10000 := by omega
  clear hf hf2
  go_wp2
  go_ret
  exact ⟨ret_i (by rw [hz.out, if_neg (fun h => h Hp.out), if_neg (by omega)]), S2.out _ hW2⟩

set_option maxRecDepth 100000 in
set_option maxHeartbeats 8000000 in
theorem refCheck_any (p : PgV) (aa : Option Addr) (acap n : Nat) (fuel : Int) (hbl : p.body.length ≤ 1000) (hn : n ≤ 1000) (w : World) (hok : p.ok w) : Calls Try.prog 37 #[.agg p.cells, .slice aa n acap, .int .i64 fuel] w fun e w' => e = .returned (.int .i64 (checkZ p n fuel)) ∧ Below w.heap.size w w' := by
  have Hbl := Lib.hid hbl
  have Hok := Lib.hid hok
  clear hbl hok
  go_enter Try.func37, Try.ntmps37
  go_wp2_with (refine at_box _ _ rfl ?_)
  refine Stop.to ?_
  refine wpList_box_gen rfl 25 _ rfl p.cells rfl ?_
  intro G w1 hG r1 b1
  have b1 := (Below.refl w.heap.size w).trans (b1.mono hG)
  obtain ⟨S, hSd⟩ : ∃ S, S = (fun W => Row W G 25 p.cells ∧ p.ok W ∧ Below w.heap.size w W) := ⟨_, rfl⟩
  have stS : St S := by rw [hSd]; infer_instance
  have s0 : ∀ W, S W → Row W G 25 p.cells := by rw [hSd]; exact fun W h => h.1
  have S1 : Hid (∀ W, S W → p.ok W) := by show ∀ W, _; rw [hSd]; exact fun W h => h.2.1
  have S2 : Hid (∀ W, S W → Below w.heap.size w W) := by show ∀ W, _; rw [hSd]; exact fun W h => h.2.2
  have hS : S w1 := by rw [hSd]; exact ⟨r1, Hok.out.go b1, b1⟩
  have S0 := Lib.hid s0
  clear hSd r1 b1 hG Hok s0
  go_wp2_with fail
  refine region_hold S (by kernel_rfl) (by kernel_rfl) (St.drew hS) ?_
  clear hS
  (refine hold_load_row rfl 25 _ rfl (G) rfl 25 _ _ S0.out Try.underlying25 rfl (by kernel_rfl) ?_; simp only [Act.put, List.setIfInBounds_toArray, List.set_cons_zero, List.set_cons_succ])
  (refine hold_call_new rfl 54 _ (fun W => by (go_simp; try rfl)) _ (fun W hW => refVars_any p W (S1.out _ hW)) ?_; simp only [Act.put, List.setIfInBounds_toArray, List.set_cons_zero, List.set_cons_succ])
  have hve := varsE_cases p.params p.V
  generalize hve0 : varsE p.params p.V = ve at hve
  have Hve := Lib.hid hve0
  clear hve0
  rcases hve with ⟨rfl, hvok⟩ | rfl
  rotate_left
  · have hz := Lib.hid (checkZ_no (n := n) (fuel := fuel) (not_good_vars (p := p) (by rw [Hve.out]; omega)))
    iterate 2 (refine hold_value rfl ?_ (fun W hW => ?_) ?_; rotate_left; (focus (go_simp; exact rfl)); simp only [Act.put, List.setIfInBounds_toArray, List.set_cons_zero, List.set_cons_succ])
    iterate 7 (refine hold_skip rfl ?_; simp only [Act.put, List.setIfInBounds_toArray, List.set_cons_zero, List.set_cons_succ])
    iterate 2 (refine hold_value rfl ?_ (fun W hW => ?_) ?_; rotate_left; (focus (go_simp; exact rfl)); simp only [Act.put, List.setIfInBounds_toArray, List.set_cons_zero, List.set_cons_succ])
    iterate 4 (refine hold_skip rfl ?_; simp only [Act.put, List.setIfInBounds_toArray, List.set_cons_zero, List.set_cons_succ])
    iterate 1 (refine hold_value rfl ?_ (fun W hW => ?_) ?_; rotate_left; (focus (go_simp; exact rfl)); simp only [Act.put, List.setIfInBounds_toArray, List.set_cons_zero, List.set_cons_succ])
    refine wpHold_nil fun W hW => ?_
    go_wp2
    go_ret
    exact ⟨ret_i hz.out, S2.out _ hW⟩
  have Hvok := Lib.hid hvok
  clear hvok
  iterate 3 (refine hold_value rfl ?_ (fun W hW => ?_) ?_; rotate_left; (focus (go_simp; exact rfl)); simp only [Act.put, List.setIfInBounds_toArray, List.set_cons_zero, List.set_cons_succ])
  (refine hold_value rfl ?_ (fun W hW => ?_) ?_; rotate_left; (focus (have c := (S0.out _ hW).cellv (i := 2) (v := .slice p.ba p.body.length p.bcap) rfl; go_simp; exact rfl)); simp only [Act.put, List.setIfInBounds_toArray, List.set_cons_zero, List.set_cons_succ])
  (refine hold_call_new rfl 55 _ (fun W => by (go_simp; try rfl)) _ (fun W hW => refEnd_any p.ba p.bcap p.body 0 W (S1.out _ hW).brd Hbl.out) ?_; simp only [Act.put, List.setIfInBounds_toArray, List.set_cons_zero, List.set_cons_succ])
  iterate 1 (refine hold_value rfl ?_ (fun W hW => ?_) ?_; rotate_left; (focus (go_simp; exact rfl)); simp only [Act.put, List.setIfInBounds_toArray, List.set_cons_zero, List.set_cons_succ])
  (refine hold_value rfl ?_ (fun W hW => ?_) ?_; rotate_left; (focus (have c := (S0.out _ hW).cellv (i := 2) (v := .slice p.ba p.body.length p.bcap) rfl; go_simp; exact rfl)); simp only [Act.put, List.setIfInBounds_toArray, List.set_cons_zero, List.set_cons_succ])
  iterate 1 (refine hold_value rfl ?_ (fun W hW => ?_) ?_; rotate_left; (focus (go_simp; exact rfl)); simp only [Act.put, List.setIfInBounds_toArray, List.set_cons_zero, List.set_cons_succ])
  by_cases he : endZ p.body 0 = (p.body.length : Int)
  rotate_left
  · have hz := Lib.hid (checkZ_no (n := n) (fuel := fuel) (not_good_end he))
    have he' : (endZ p.body 0 != (p.body.length : Int)) = true := by simpa using he
    clear he
    iterate 3 (refine hold_value rfl ?_ (fun W hW => ?_) ?_; rotate_left; (focus (go_simp; exact rfl)); simp only [Act.put, List.setIfInBounds_toArray, List.set_cons_zero, List.set_cons_succ])
    iterate 4 (refine hold_skip rfl ?_; simp only [Act.put, List.setIfInBounds_toArray, List.set_cons_zero, List.set_cons_succ])
    iterate 1 (refine hold_value rfl ?_ (fun W hW => ?_) ?_; rotate_left; (focus (go_simp; exact rfl)); simp only [Act.put, List.setIfInBounds_toArray, List.set_cons_zero, List.set_cons_succ])
    refine wpHold_nil fun W hW => ?_
    go_wp2
    go_ret
    exact ⟨ret_i hz.out, S2.out _ hW⟩
  have he' : (endZ p.body 0 != (p.body.length : Int)) = false := by simp [he]
  have He := Lib.hid he
  clear he
  iterate 4 (refine hold_value rfl ?_ (fun W hW => ?_) ?_; rotate_left; (focus (go_simp; exact rfl)); simp only [Act.put, List.setIfInBounds_toArray, List.set_cons_zero, List.set_cons_succ])
  (refine hold_value rfl ?_ (fun W hW => ?_) ?_; rotate_left; (focus (have c := (S0.out _ hW).cellv (i := 2) (v := .slice p.ba p.body.length p.bcap) rfl; go_simp; exact rfl)); simp only [Act.put, List.setIfInBounds_toArray, List.set_cons_zero, List.set_cons_succ])
  iterate 1 (refine hold_value rfl ?_ (fun W hW => ?_) ?_; rotate_left; (focus (go_simp; exact rfl)); simp only [Act.put, List.setIfInBounds_toArray, List.set_cons_zero, List.set_cons_succ])
  by_cases hl : p.body.length = 0
  · have hz := Lib.hid (checkZ_no (n := n) (fuel := fuel) (not_good_nil hl))
    have hl' : ((p.body.length : Int) == 0) = true := by simp [hl]
    clear hl
    iterate 2 (refine hold_value rfl ?_ (fun W hW => ?_) ?_; rotate_left; (focus (go_simp; exact rfl)); simp only [Act.put, List.setIfInBounds_toArray, List.set_cons_zero, List.set_cons_succ])
    refine wpHold_nil fun W hW => ?_
    go_wp2
    go_ret
    exact ⟨ret_i hz.out, S2.out _ hW⟩
  have hl' : ((p.body.length : Int) == 0) = false := by simpa using hl
  have Hl := Lib.hid hl
  clear hl
  iterate 2 (refine hold_value rfl ?_ (fun W hW => ?_) ?_; rotate_left; (focus (go_simp; exact rfl)); simp only [Act.put, List.setIfInBounds_toArray, List.set_cons_zero, List.set_cons_succ])
  refine wpHold_nil fun W hW => ?_
  obtain ⟨t, hat, _⟩ := at_of_endZ (l := p.body) (a := 0) (by rw [He.out]; omega)
  have hat : At p.body 0 t := hat
  have hsz : t.size = p.body.length := by have h1 := hat.endZ; have h2 := He.out; simp only [Nat.zero_add] at h1; have h3 : endZ p.body 0 = (t.size : Int) := h1; omega
  have Hat := Lib.hid hat
  have Hsz := Lib.hid hsz
  have c2 := (S0.out _ hW).cellv (i := 2) (v := .slice p.ba p.body.length p.bcap) rfl
  obtain ⟨bd, hbd, hcx⟩ := nd_at (S1.out _ hW).brd (k := 0) hat.root
  have hc0 := hcx 0 (.int .i64 t.root.tag) rfl
  rw [show (bd.add (0 * 2)).add 0 = bd by rw [add_add']; simp [Addr.add]] at hc0
  rw [hbd] at c2
  have hlpos : (0 : Int) < (p.body.length : Int) := by have := Hl.out; omega
  have hlpos' : 0 < p.body.length := by omega
  clear hcx hbd hat hsz
  by_cases ht : t.root.tag = 20
  rotate_left
  · have hz := Lib.hid (checkZ_no (n := n) (fuel := fuel) (not_good_tree Hat.out (fun h => ht h.1)))
    have ht' : (t.root.tag != 20) = true := by simpa using ht
    clear ht
    go_wp2
    go_ret
    exact ⟨ret_i hz.out, S2.out _ hW⟩
  have ht' : (t.root.tag != 20) = false := by simp [ht]
  have Ht := Lib.hid ht
  clear ht
  go_wp2_with (refine wpList_load_rowG rfl 25 _ rfl G rfl 25 p.cells (0, 0) _ (S0.out _ hW) Try.underlying25 rfl (by kernel_rfl) ?_)
  refine (refOf_tree p Hbl.out t.size t 0 (Nat.le_refl _) Hat.out W (S1.out _ hW)).mono ?_
  rintro e W2 ⟨rfl, b2⟩
  have hW2 := stS.go hW b2
  clear c2 hc0 b2 hW
  by_cases hk : ofT p.V t = 2
  rotate_left
  · have hz := Lib.hid (checkZ_no (n := n) (fuel := fuel) (not_good_tree Hat.out (fun h => hk h.2)))
    have hk' : (ofT p.V t != 2) = true := by simpa using hk
    clear hk
    go_wp2
    go_ret
    exact ⟨ret_i hz.out, S2.out _ hW2⟩
  have hk' : (ofT p.V t != 2) = false := by simp [hk]
  have hz := Lib.hid (checkZ_good (n := n) (fuel := fuel) (⟨Hat.out, Hsz.out, Hvok.out, Ht.out, hk⟩ : Good p t))
  have c0 := (S0.out _ hW2).cellv (i := 0) (v := .int .i64 p.params) rfl
  clear hk
  by_cases hp : (n : Int) = p.params
  rotate_left
  · have hp' : ((n : Int) != p.params) = true := by simpa using hp
    have Hp := Lib.hid hp
    clear hp
    go_wp2
    go_ret
    exact ⟨ret_i (by rw [hz.out, if_pos Hp.out]), S2.out _ hW2⟩
  have hp' : ((n : Int) != p.params) = false := by simp [hp]
  have Hp := Lib.hid hp
  clear hp
  by_cases hf : fuel < 0
  · go_wp2
    go_ret
    exact ⟨ret_i (by rw [hz.out, if_neg (fun h => h Hp.out), if_pos (.inl hf)]), S2.out _ hW2⟩
  have hf0 : 0 ≤ fuel := by omega
  by_cases hf2 : 10000 < fuel
  · clear hf
    go_wp2
    go_ret
    exact ⟨ret_i (by rw [hz.out, if_neg (fun h => h Hp.out), if_pos (.inr hf2)]), S2.out _ hW2⟩
  have hf3 : fuel ≤ 10000 := by omega
  clear hf hf2
  go_wp2
  go_ret
  exact ⟨ret_i (by rw [hz.out, if_neg (fun h => h Hp.out), if_neg (by omega)]), S2.out _ hW2⟩
end Go.Proofs.Ytlglilmgklipdaa
