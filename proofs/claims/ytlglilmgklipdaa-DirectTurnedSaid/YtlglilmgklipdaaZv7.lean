/- Lemmas for DirectTurnedP. -/
import Derived.Test.YtlglilmgklipdaaZv6
import Derived.Test.YtlglilmgklipdaaZv4
import Derived.Test.YtlglilmgklipdaaZv3
import Derived.Test.YtlglilmgklipdaaZv1
import Derived.Test.YtlglilmgklipdaaZv2
import Derived.Test.YtlglilmgklipdaaZv5
import Derived.WalkMore
import Derived.Maps.AppendAt
namespace Go.Proofs.Ytlglilmgklipdaa
set_option linter.unusedVariables false
open Go.RowKit Go.Deep
theorem RS.rb {w W : World} {M : Nat} {D : List Int} (h : RS w W M D) (hD : ∀ k, k ∈ D ↔ (1 ≤ k ∧ k ≤ 26 ∧ k ≠ 20)) : RB M W := by
 obtain ⟨es, h1, h2, h3⟩ := h.map
 subst h2
 exact ⟨es, h1, h3, hD⟩
set_option maxRecDepth 100000 in
set_option maxHeartbeats 4000000 in
theorem kOf_tree (p : PgV) (hbl : p.body.length ≤ 1000) (t : Tr) (q : Nat) (hat : At p.body q t) (w : World) (hok : p.ok w) : Calls Try.prog 43 #[.agg p.cells, .int .i64 (q : Int)] w fun e w' => e = .returned (.int .i64 (ofT p.V t)) ∧ Below w.heap.size w w' := by
 have Hbl := Lib.hid hbl
 have Hat := Lib.hid hat
 have Hok := Lib.hid hok
 have Hend : Hid (endZ p.body (q : Int) = ((q + t.size : Nat) : Int)) := hat.endZ
 have hpos0 : 0 ≤ ((q + t.size : Nat) : Int) := by omega
 clear hbl hat hok
 go_enter Try.func43, Try.ntmps43
 go_wp2_with (refine at_box _ _ rfl ?_)
 refine Stop.to ?_
 refine wpList_box_gen rfl 25 _ rfl p.cells rfl ?_
 intro G w1 hG r1 b1
 have b1 := (Below.refl w.heap.size w).trans (b1.mono hG)
 have c2 := r1.cellv (i := 2) (v := .slice p.ba p.body.length p.bcap) rfl
 have Hok1 := Lib.hid (Hok.out.go b1)
 clear hG Hok
 go_wp2_with fail
 refine (end_any p.ba p.bcap p.body (q : Int) w1 Hok1.out.brd Hbl.out).mono ?_
 rintro e w2 ⟨rfl, b2⟩
 rw [Hend.out]
 obtain ⟨S, hSd⟩ : ∃ S, S = (fun W => Row W G 25 p.cells ∧ p.ok W ∧ Below w.heap.size w W) := ⟨_, rfl⟩
 have stS : St S := by rw [hSd]; infer_instance
 have S0 : Hid (∀ W, S W → Row W G 25 p.cells) := by show ∀ W, _; rw [hSd]; exact fun W h => h.1
 have S1 : Hid (∀ W, S W → p.ok W) := by show ∀ W, _; rw [hSd]; exact fun W h => h.2.1
 have S2 : Hid (∀ W, S W → Below w.heap.size w W) := by show ∀ W, _; rw [hSd]; exact fun W h => h.2.2
 have hS2 : S w2 := by rw [hSd]; exact ⟨r1.below b2 r1.lt, Hok1.out.go b2, b1.trans (b2.mono b1.size)⟩
 clear hSd r1 b1 b2 c2 Hok1
 go_wp2_with fail
 refine wp_region_held (S := S) (by kernel_rfl) ?_
 simp only [List.size_toArray, List.length_cons, List.length_nil, Nat.reduceAdd, Array.replicate_succ, Array.replicate_zero, List.push_toArray, List.nil_append, List.cons_append]
 show wpAnyH _ _ _ _ _ _ _ _ w2.drew
 have hS : S w2.drew := St.drew hS2
 clear hS2
 generalize w2.drew = wd at hS ⊢
 (refine takeH (i := 0) (v := _) rfl (by kernel_rfl) (by kernel_rfl) (by kernel_rfl) (fun _ _ _ h => h) (yields_row rfl 25 _ rfl G rfl 25 p.cells _ S0.out Try.underlying25 rfl (by kernel_rfl)) (by assumption) ?_; simp only [Act.put, List.setIfInBounds_toArray, List.set_cons_zero, List.set_cons_succ])
 (refine takeH (i := 3) (v := .int .i64 (q : Int)) rfl (by kernel_rfl) (by kernel_rfl) (by kernel_rfl) (fun _ _ _ h => h) (yields_val rfl (fun W hW => by (go_simp))) (by assumption) ?_; simp only [Act.put, List.setIfInBounds_toArray, List.set_cons_zero, List.set_cons_succ])
 (refine wpAnyH_all (rs := [1]) (by kernel_rfl) (by simp) (fun i hi => ?_); obtain rfl : i = 1 := by simpa using hi)
 refine wpOp_plain rfl rfl (fun K2 hK2 => ?_)
 refine wp_call_gen (w1 := wd) 61 #[] (by go_simp; try rfl) ?_
 refine (rules_any wd).mono ?_
 rintro e wr ⟨M, D, rfl, hrs, hD⟩
 refine ⟨_, rfl, hK2 _ _ ?_⟩
 clear hK2 K2
 have hS := stS.go hS hrs.below
 have hrb := hrs.rb hD
 have Hrb := Lib.hid hrb
 clear hrb hrs hD
 simp only [Act.put, List.setIfInBounds_toArray, List.set_cons_zero, List.set_cons_succ]
 refine ⟨hS, ?_⟩
 (refine takeH (i := 2) (v := .agg (checkC p M)) rfl (by kernel_rfl) (by kernel_rfl) (by kernel_rfl) (fun _ _ _ h => h) (yields_val rfl (fun W hW => by (go_simp; try rfl))) (by assumption) ?_; simp only [Act.put, List.setIfInBounds_toArray, List.set_cons_zero, List.set_cons_succ])
 (refine wpAnyH_all (rs := [4]) (by kernel_rfl) (by simp) (fun i hi => ?_); obtain rfl : i = 4 := by simpa using hi)
 refine wpOp_plain rfl rfl (fun K2 hK2 => ?_)
 refine wp_call_gen (w1 := wr) 62 #[.agg (checkC p M), .int .i64 (q : Int)] (by go_simp; try rfl) ?_
 refine (of_tree p M Hbl.out t.size t q (Nat.le_refl _) Hat.out wr (S1.out _ hS) Hrb.out).mono ?_
 rintro e w6 ⟨rfl, b6⟩
 refine ⟨_, rfl, hK2 _ _ ?_⟩
 clear hK2 K2
 have hS := stS.go hS b6
 simp only [Act.put, List.setIfInBounds_toArray, List.set_cons_zero, List.set_cons_succ]
 refine ⟨hS, ?_⟩
 (refine takeH (i := 5) (v := .int .i64 (ofT p.V t)) rfl (by kernel_rfl) (by kernel_rfl) (by kernel_rfl) (fun _ _ _ h => h) (yields_val rfl (fun W hW => by (go_simp))) (by assumption) ?_; simp only [Act.put, List.setIfInBounds_toArray, List.set_cons_zero, List.set_cons_succ])
 refine wpAnyH_done (by kernel_rfl) ?_ _
 go_wp2
 go_ret
 exact ⟨rfl, S2.out _ hS⟩
end Go.Proofs.Ytlglilmgklipdaa
namespace Go.Proofs.Ytlglilmgklipdaa
set_option linter.unusedVariables false
open Go.RowKit Go.Deep
structure Good (p : PgV) (t : Tr) : Prop where
 hat : At p.body 0 t
 size : t.size = p.body.length
 vars : varsOk p.params p.V
 tag : t.root.tag = 20
 kind : ofT p.V t = 2
open Classical in
noncomputable def checkZ (p : PgV) (n : Nat) (fuel : Int) : Int := if ∃ t, Good p t then (if (n : Int) ≠ p.params then 18 else if fuel < 0 ∨ 10000 < fuel then 19 else 0) else 23
theorem checkZ_no {p : PgV} {n : Nat} {fuel : Int} (h : ∀ t, ¬ Good p t) : checkZ p n fuel = 23 := by unfold checkZ; rw [if_neg (fun ⟨t, ht⟩ => h t ht)]
theorem checkZ_good {p : PgV} {n : Nat} {fuel : Int} {t : Tr} (h : Good p t) : checkZ p n fuel = if (n : Int) ≠ p.params then 18 else if fuel < 0 ∨ 10000 < fuel then 19 else 0 := by unfold checkZ; rw [if_pos ⟨t, h⟩]
theorem At.uniq {l : List Nd} {q : Nat} {a b : Tr} (ha : At l q a) (hb : At l q b) : a = b := by
 have key : ∀ n, (∀ (a b : Tr) (r s : List Nd), a.size ≤ n → a.fits → b.fits → a.flat ++ r = b.flat ++ s → a = b) ∧ (∀ (ls ms : List Tr) (r s : List Nd), (flats ls).length ≤ n → ls.length = ms.length → (∀ t ∈ ls, t.fits) → (∀ t ∈ ms, t.fits) → flats ls ++ r = flats ms ++ s → ls = ms) := by
  intro n
  induction n with
  | zero =>
   refine ⟨fun a b r s h => by have := a.size_eq; omega, fun ls ms r s h hl _ _ _ => ?_⟩
   cases ls with
   | nil => exact (List.eq_nil_of_length_eq_zero (by simpa using hl.symm)).symm
   | cons t ts => rw [flats, List.length_append] at h; have := t.size_eq; have hsz : t.size = t.flat.length := rfl; omega
  | succ n ih =>
   have one : ∀ (a b : Tr) (r s : List Nd), a.size ≤ n + 1 → a.fits → b.fits → a.flat ++ r = b.flat ++ s → a = b := by
    rintro ⟨x, ks⟩ ⟨y, js⟩ r s h fa fb e
    have e' := e
    rw [Tr.flat_eq, Tr.flat_eq, List.cons_append, List.cons_append] at e'
    injection e' with e1 e2
    simp only [Tr.root, Tr.kids] at e1 e2
    subst e1
    have hl : ks.length = js.length := by
     have h1 := fa.arity
     have h2 := fb.arity
     simp only [Tr.root, Tr.kids] at h1 h2
     omega
    have h4 := (Tr.node x ks).size_eq
    simp only [Tr.kids] at h4
    rw [ih.2 ks js r s (by omega) hl fa.kid fb.kid e2]
   refine ⟨one, fun ls ms => ?_⟩
   induction ls generalizing ms with
   | nil => intro r s _ hl _ _ _; exact (List.eq_nil_of_length_eq_zero (by simpa using hl.symm)).symm
   | cons t ts iht =>
    intro r s h hl fa fb e
    cases ms with
    | nil => simp at hl
    | cons u us =>
     rw [flats, flats, List.append_assoc, List.append_assoc] at e
     rw [flats, List.length_append] at h
     have ht : t = u := one t u _ _ (by unfold Tr.size; omega) (fa t (by simp)) (fb u (by simp)) e
     subst ht
     rw [iht us r s (by omega) (by simpa using hl) (fun k hk => fa k (by simp [hk])) (fun k hk => fb k (by simp [hk])) (List.append_cancel_left e)]
 obtain ⟨r, hr⟩ := ha.here
 obtain ⟨s, hs⟩ := hb.here
 exact (key a.size).1 a b r s (Nat.le_refl _) ha.fits hb.fits (by rw [← hr, hs])
theorem not_good_tree {p : PgV} {t : Tr} (hat : At p.body 0 t) (h : ¬ (t.root.tag = 20 ∧ ofT p.V t = 2)) : ∀ t', ¬ Good p t' := fun t' g => by
 have := hat.uniq g.hat
 subst this
 exact h ⟨g.tag, g.kind⟩
theorem not_good_vars {p : PgV} (h : varsE p.params p.V ≠ 0) : ∀ t', ¬ Good p t' := fun t' g => h (by unfold varsE; rw [if_pos g.vars])
theorem not_good_end {p : PgV} (h : endZ p.body 0 ≠ (p.body.length : Int)) : ∀ t', ¬ Good p t' := fun t' g => h (by
 have := g.hat.endZ
 rw [g.size, Nat.zero_add] at this
 exact this)
theorem not_good_nil {p : PgV} (h : p.body.length = 0) : ∀ t', ¬ Good p t' := fun t' g => by have := g.hat.lt; omega
theorem varsE_cases (a : Int) (V : List Int) : varsE a V = 0 ∧ varsOk a V ∨ varsE a V = 14 := by
 unfold varsE
 by_cases h : varsOk a V
 · rw [if_pos h]; exact .inl ⟨rfl, h⟩
 · rw [if_neg h]; exact .inr rfl
set_option maxRecDepth 100000 in
set_option maxHeartbeats 8000000 in
theorem mCheck_any (p : PgV) (aa : Option Addr) (acap n : Nat) (fuel : Int) (hbl : p.body.length ≤ 1000) (hn : n ≤ 1000) (w : World) (hok : p.ok w) : Calls Try.prog 18 #[.agg p.cells, .slice aa n acap, .int .i64 fuel] w fun e w' => e = .returned (.int .i64 (checkZ p n fuel)) ∧ Below w.heap.size w w' := by
 have Hbl := Lib.hid hbl
 have Hok := Lib.hid hok
 clear hbl hok
 go_enter Try.func18, Try.ntmps18
 go_wp2_with (refine at_box _ _ rfl ?_)
 refine Stop.to ?_
 refine wpList_box_gen rfl 25 _ rfl p.cells rfl ?_
 intro G w1 hG r1 b1
 have b1 := (Below.refl w.heap.size w).trans (b1.mono hG)
 obtain ⟨S, hSd⟩ : ∃ S, S = (fun W => Row W G 25 p.cells ∧ p.ok W ∧ Below w.heap.size w W) := ⟨_, rfl⟩
 have stS : St S := by rw [hSd]; infer_instance
 have s0 : ∀ W, S W → Row W G 25 p.cells := by rw [hSd]; exact fun W h => h.1
 have S1 : Hid (∀ W, S W → p.ok W) := by show ∀ W, _; rw [hSd]; exact fun W h => h.2.1
 have S2 : Hid (∀ W, S W → Below w.heap.size w W) := by show ∀ W, _; rw [hSd]; exact fun W h => h.2.2
 have hS : S w1 := by rw [hSd]; exact ⟨r1, Hok.out.go b1, b1⟩
 have S0 := Lib.hid s0
 clear hSd r1 b1 hG Hok s0
 go_wp2_with fail
 refine region_hold S (by kernel_rfl) (by kernel_rfl) (St.drew hS) ?_
 clear hS
 (refine hold_load_row rfl 25 _ rfl (G) rfl 25 _ _ S0.out Try.underlying25 rfl (by kernel_rfl) ?_; simp only [Act.put, List.setIfInBounds_toArray, List.set_cons_zero, List.set_cons_succ])
 (refine hold_call_new rfl 41 _ (fun W => by (go_simp; try rfl)) _ (fun W hW => vars_any p W (S1.out _ hW)) ?_; simp only [Act.put, List.setIfInBounds_toArray, List.set_cons_zero, List.set_cons_succ])
 have hve := varsE_cases p.params p.V
 generalize hve0 : varsE p.params p.V = ve at hve
 have Hve := Lib.hid hve0
 clear hve0
 rcases hve with ⟨rfl, hvok⟩ | rfl
 rotate_left
 · have hz := Lib.hid (checkZ_no (n := n) (fuel := fuel) (not_good_vars (p := p) (by rw [Hve.out]; omega)))
   iterate 2 (refine hold_value rfl ?_ (fun W hW => ?_) ?_; rotate_left; (focus (go_simp; exact rfl)); simp only [Act.put, List.setIfInBounds_toArray, List.set_cons_zero, List.set_cons_succ])
   iterate 4 (refine hold_skip rfl ?_; simp only [Act.put, List.setIfInBounds_toArray, List.set_cons_zero, List.set_cons_succ])
   iterate 2 (refine hold_value rfl ?_ (fun W hW => ?_) ?_; rotate_left; (focus (go_simp; exact rfl)); simp only [Act.put, List.setIfInBounds_toArray, List.set_cons_zero, List.set_cons_succ])
   iterate 7 (refine hold_skip rfl ?_; simp only [Act.put, List.setIfInBounds_toArray, List.set_cons_zero, List.set_cons_succ])
   iterate 2 (refine hold_value rfl ?_ (fun W hW => ?_) ?_; rotate_left; (focus (go_simp; exact rfl)); simp only [Act.put, List.setIfInBounds_toArray, List.set_cons_zero, List.set_cons_succ])
   refine wpHold_nil fun W hW => ?_
   go_wp2
   go_ret
   exact ⟨ret_i hz.out, S2.out _ hW⟩
 have Hvok := Lib.hid hvok
 clear hvok
 by_cases hl : p.body.length = 0
 · have hz := Lib.hid (checkZ_no (n := n) (fuel := fuel) (not_good_nil hl))
   have hl' : ((p.body.length : Int) == 0) = true := by simp [hl]
   clear hl
   iterate 3 (refine hold_value rfl ?_ (fun W hW => ?_) ?_; rotate_left; (focus (go_simp; exact rfl)); simp only [Act.put, List.setIfInBounds_toArray, List.set_cons_zero, List.set_cons_succ])
   (refine hold_value rfl ?_ (fun W hW => ?_) ?_; rotate_left; (focus (have c := (S0.out _ hW).cellv (i := 2) (v := .slice p.ba p.body.length p.bcap) rfl; go_simp; exact rfl)); simp only [Act.put, List.setIfInBounds_toArray, List.set_cons_zero, List.set_cons_succ])
   iterate 4 (refine hold_value rfl ?_ (fun W hW => ?_) ?_; rotate_left; (focus (go_simp; exact rfl)); simp only [Act.put, List.setIfInBounds_toArray, List.set_cons_zero, List.set_cons_succ])
   iterate 7 (refine hold_skip rfl ?_; simp only [Act.put, List.setIfInBounds_toArray, List.set_cons_zero, List.set_cons_succ])
   iterate 2 (refine hold_value rfl ?_ (fun W hW => ?_) ?_; rotate_left; (focus (go_simp; exact rfl)); simp only [Act.put, List.setIfInBounds_toArray, List.set_cons_zero, List.set_cons_succ])
   refine wpHold_nil fun W hW => ?_
   go_wp2
   go_ret
   exact ⟨ret_i hz.out, S2.out _ hW⟩
 have hl' : ((p.body.length : Int) == 0) = false := by simpa using hl
 have Hl := Lib.hid hl
 clear hl
 iterate 3 (refine hold_value rfl ?_ (fun W hW => ?_) ?_; rotate_left; (focus (go_simp; exact rfl)); simp only [Act.put, List.setIfInBounds_toArray, List.set_cons_zero, List.set_cons_succ])
 (refine hold_value rfl ?_ (fun W hW => ?_) ?_; rotate_left; (focus (have c := (S0.out _ hW).cellv (i := 2) (v := .slice p.ba p.body.length p.bcap) rfl; go_simp; exact rfl)); simp only [Act.put, List.setIfInBounds_toArray, List.set_cons_zero, List.set_cons_succ])
 iterate 5 (refine hold_value rfl ?_ (fun W hW => ?_) ?_; rotate_left; (focus (go_simp; exact rfl)); simp only [Act.put, List.setIfInBounds_toArray, List.set_cons_zero, List.set_cons_succ])
 (refine hold_value rfl ?_ (fun W hW => ?_) ?_; rotate_left; (focus (have c := (S0.out _ hW).cellv (i := 2) (v := .slice p.ba p.body.length p.bcap) rfl; go_simp; exact rfl)); simp only [Act.put, List.setIfInBounds_toArray, List.set_cons_zero, List.set_cons_succ])
 (refine hold_call_new rfl 42 _ (fun W => by (go_simp; try rfl)) _ (fun W hW => end_any p.ba p.bcap p.body 0 W (S1.out _ hW).brd Hbl.out) ?_; simp only [Act.put, List.setIfInBounds_toArray, List.set_cons_zero, List.set_cons_succ])
 iterate 1 (refine hold_value rfl ?_ (fun W hW => ?_) ?_; rotate_left; (focus (go_simp; exact rfl)); simp only [Act.put, List.setIfInBounds_toArray, List.set_cons_zero, List.set_cons_succ])
 (refine hold_value rfl ?_ (fun W hW => ?_) ?_; rotate_left; (focus (have c := (S0.out _ hW).cellv (i := 2) (v := .slice p.ba p.body.length p.bcap) rfl; go_simp; exact rfl)); simp only [Act.put, List.setIfInBounds_toArray, List.set_cons_zero, List.set_cons_succ])
 iterate 1 (refine hold_value rfl ?_ (fun W hW => ?_) ?_; rotate_left; (focus (go_simp; exact rfl)); simp only [Act.put, List.setIfInBounds_toArray, List.set_cons_zero, List.set_cons_succ])
 by_cases he : endZ p.body 0 = (p.body.length : Int)
 rotate_left
 · have hz := Lib.hid (checkZ_no (n := n) (fuel := fuel) (not_good_end he))
   have he' : (endZ p.body 0 != (p.body.length : Int)) = true := by simpa using he
   clear he
   iterate 3 (refine hold_value rfl ?_ (fun W hW => ?_) ?_; rotate_left; (focus (go_simp; exact rfl)); simp only [Act.put, List.setIfInBounds_toArray, List.set_cons_zero, List.set_cons_succ])
   refine wpHold_nil fun W hW => ?_
   go_wp2
   go_ret
   exact ⟨ret_i hz.out, S2.out _ hW⟩
 have he' : (endZ p.body 0 != (p.body.length : Int)) = false := by simp [he]
 have He := Lib.hid he
 clear he
 iterate 3 (refine hold_value rfl ?_ (fun W hW => ?_) ?_; rotate_left; (focus (go_simp; exact rfl)); simp only [Act.put, List.setIfInBounds_toArray, List.set_cons_zero, List.set_cons_succ])
 refine wpHold_nil fun W hW => ?_
 obtain ⟨t, hat, _⟩ := at_of_endZ (l := p.body) (a := 0) (by rw [He.out]; omega)
 have hat : At p.body 0 t := hat
 have hsz : t.size = p.body.length := by have h1 := hat.endZ; have h2 := He.out; simp only [Nat.zero_add] at h1; have h3 : endZ p.body 0 = (t.size : Int) := h1; omega
 have Hat := Lib.hid hat
 have Hsz := Lib.hid hsz
 have c2 := (S0.out _ hW).cellv (i := 2) (v := .slice p.ba p.body.length p.bcap) rfl
 obtain ⟨bd, hbd, hcx⟩ := nd_at (S1.out _ hW).brd (k := 0) hat.root
 have hc0 := hcx 0 (.int .i64 t.root.tag) rfl
 rw [show (bd.add (0 * 2)).add 0 = bd by rw [add_add']; simp [Addr.add]] at hc0
 rw [hbd] at c2
 have hlpos : (0 : Int) < (p.body.length : Int) := by have := Hl.out; omega
 have hlpos' : 0 < p.body.length := by omega
 clear hcx hbd hat hsz
 by_cases ht : t.root.tag = 20
 rotate_left
 · have hz := Lib.hid (checkZ_no (n := n) (fuel := fuel) (not_good_tree Hat.out (fun h => ht h.1)))
   have ht' : (t.root.tag != 20) = true := by simpa using ht
   clear ht
   go_wp2
   go_ret
   exact ⟨ret_i hz.out, S2.out _ hW⟩
 have ht' : (t.root.tag != 20) = false := by simp [ht]
 have Ht := Lib.hid ht
 clear ht
 go_wp2_with (refine wpList_load_rowG rfl 25 _ rfl G rfl 25 p.cells (0, 0) _ (S0.out _ hW) Try.underlying25 rfl (by kernel_rfl) ?_)
 refine (kOf_tree p Hbl.out t 0 Hat.out W (S1.out _ hW)).mono ?_
 rintro e W2 ⟨rfl, b2⟩
 have hW2 := stS.go hW b2
 clear c2 hc0 b2 hW
 by_cases hk : ofT p.V t = 2
 rotate_left
 · have hz := Lib.hid (checkZ_no (n := n) (fuel := fuel) (not_good_tree Hat.out (fun h => hk h.2)))
   have hk' : (ofT p.V t != 2) = true := by simpa using hk
   clear hk
   go_wp2
   go_ret
   exact ⟨ret_i hz.out, S2.out _ hW2⟩
 have hk' : (ofT p.V t != 2) = false := by simp [hk]
 have hz := Lib.hid (checkZ_good (n := n) (fuel := fuel) (⟨Hat.out, Hsz.out, Hvok.out, Ht.out, hk⟩ : Good p t))
 have c0 := (S0.out _ hW2).cellv (i := 0) (v := .int .i64 p.params) rfl
 clear hk
 by_cases hp : (n : Int) = p.params
 rotate_left
 · have hp' : ((n : Int) != p.params) = true := by simpa using hp
   have Hp := Lib.hid hp
   clear hp
   go_wp2
   go_ret
   exact ⟨ret_i (by rw [hz.out, if_pos Hp.out]), S2.out _ hW2⟩
 have hp' : ((n : Int) != p.params) = false := by simp [hp]
 have Hp := Lib.hid hp
 clear hp
 by_cases hf : fuel < 0
 · go_wp2
   go_ret
   exact ⟨ret_i (by rw [hz.out, if_neg (fun h => h Hp.out), if_pos (.inl hf)]), S2.out _ hW2⟩
 have hf0 : 0 ≤ fuel := by omega
 by_cases hf2 : 10000 < fuel
 · clear hf
   go_wp2
   go_ret
   exact ⟨ret_i (by rw [hz.out, if_neg (fun h => h Hp.out), if_pos (.inr hf2)]), S2.out _ hW2⟩
 have hf3 : fuel ≤ 10000 := by omega
 clear hf hf2
 go_wp2
 go_ret
 exact ⟨ret_i (by rw [hz.out, if_neg (fun h => h Hp.out), if_neg (by omega)]), S2.out _ hW2⟩
end Go.Proofs.Ytlglilmgklipdaa
namespace Go.Proofs.Ytlglilmgklipdaa
set_option linter.unusedVariables false
open Go.RowKit Go.Deep
structure Lay where
 p : PgV
 M : Nat
 ka : Option Addr
 kcap : Nat
 vv : Value
 aa : Option Addr
 acap : Nat
 ab : List Nat
 PB : Nat
 F : Nat
 b0 : Nat
 b1 : Nat
 Im : World → Prop
structure FrV where
 f : Fr
 v : Value
def FrV.cells (x : FrV) : List Value := [.int .i64 (x.f.at_ : Int), .int .i64 (x.f.kid : Int), x.v]
def Lay.cells (L : Lay) (s : Ms) (sv ev : Value) : Array Value :=
 #[.int .i64 L.p.params, .slice L.p.va L.p.V.length L.p.vcap, .slice L.p.ba L.p.body.length L.p.bcap, .slice L.ka L.p.body.length L.kcap, L.vv, .slice L.aa L.ab.length L.acap, .int .i64 (L.F : Int), sv,
  .int .i64 (s.out.getD (0, 0)).1, .int .i64 (s.out.getD (0, 0)).2, .int .i64 (s.steps : Int), ev, .bool s.out.isSome, .map (some L.PB)]
structure Chg (L : Lay) (W W' : World) : Prop where
 os : W'.os = W.os
 tape : W'.tape = W.tape
 output : W'.output = W.output
 size : W.heap.size ≤ W'.heap.size
 block : ∀ k, k < L.b1 → k ≠ L.M → L.vv.ownBlock ≠ some k → k ∉ L.ab → W'.heap[k]? = W.heap[k]?
theorem Chg.refl (L : Lay) (W : World) : Chg L W W := ⟨rfl, rfl, rfl, Nat.le_refl _, fun _ _ _ _ _ => rfl⟩
theorem Chg.trans {L : Lay} {A B C : World} (h : Chg L A B) (k : Chg L B C) : Chg L A C :=
 ⟨k.os.trans h.os, k.tape.trans h.tape, k.output.trans h.output, Nat.le_trans h.size k.size, fun i h1 h2 h3 h4 => (k.block i h1 h2 h3 h4).trans (h.block i h1 h2 h3 h4)⟩
theorem Chg.only {L : Lay} {A B : World} {g : Nat} (o : Only g A B) (h : L.b1 ≤ g ∨ g = L.M ∨ L.vv.ownBlock = some g ∨ g ∈ L.ab) : Chg L A B :=
 ⟨o.os, o.tape, o.output, Nat.le_of_eq o.size.symm, fun k h1 h2 h3 h4 => o.block k (fun e => by subst e; rcases h with h | h | h | h; omega; exact h2 h; exact h3 h; exact h4 h)⟩
theorem Chg.below {L : Lay} {A B : World} (b : Below L.b1 A B) : Chg L A B := ⟨b.os, b.tape, b.output, b.size, fun k h1 _ _ _ => b.block k h1⟩
theorem Chg.grown {L : Lay} {A B : World} {g : Option Nat} (h : A.grownBy B g) (hs : L.b1 ≤ A.heap.size) (hg : ∀ k, g = some k → L.b1 ≤ k) : Chg L A B :=
 ⟨h.os, h.tape, h.output, h.size, fun k h1 _ _ _ => h.block k (by omega) (fun e => by have := hg k e.symm; omega)⟩
structure MC (L : Lay) (s : Ms) (fs : List FrV) (ev : Value) (W : World) : Prop where
 evs : W.ownsRow L.b1 41 3 ev s.evs.length (s.evs.flatMap EvV.cells)
 vals : W.ownsRow L.b0 3 1 L.vv s.vals.length (ints s.vals)
 arrs : ∀ (i g : Nat) (a : List Int), L.ab[i]? = some g → s.arrs[i]? = some a → Row W g 3 (ints a).toArray
 fr : ∀ x ∈ fs, W.ownsRow L.b1 3 1 x.v x.f.vals.length (ints x.f.vals)
 dist : fs.Pairwise fun x y => x.v.ownBlock = none ∨ x.v.ownBlock ≠ y.v.ownBlock
 im : L.Im W
 size : L.b1 ≤ W.heap.size
 sum : s.steps + s.fuel = L.F
 few : s.evs.length + fs.length ≤ s.steps
structure LOk0 (L : Lay) : Prop where
 im : ∀ W W', L.Im W → Chg L W W' → L.Im W'
 lt : L.M < L.b1
 vlt : ∀ g, L.vv.ownBlock = some g → g < L.b1 ∧ g ≠ L.M ∧ g ∉ L.ab
 alt : ∀ g ∈ L.ab, g < L.b1 ∧ g ≠ L.M
 and : L.ab.Nodup
 F : L.F ≤ 20000
 blen : L.p.body.length ≤ 1000
 b0 : L.b0 ≤ L.M
 bb : L.b0 ≤ L.b1
theorem Only.trans {A B C : World} {g : Nat} (h : Only g A B) (k : Only g B C) : Only g A C := ⟨k.os.trans h.os, k.tape.trans h.tape, k.output.trans h.output, k.size.trans h.size, fun i hi => (k.block i hi).trans (h.block i hi)⟩
theorem own_grown {w w' : World} {base size n : Nat} {e : TypeId} {v : Value} {xs : List Value} {row : Option Nat} (h : w.ownsRow base e size v n xs) (hg : w.grownBy w' row) (hne : row = none ∨ v.ownBlock ≠ row) : w'.ownsRow base e size v n xs := by
 refine h.kept hg ?_
 rcases hne with rfl | h
 · cases v.ownBlock <;> simp
 · exact .inr h
section
variable {L : Lay} {s : Ms} {fs : List FrV} {sv ev : Value} {W W' : World}
theorem MC.only (h : MC L s fs ev W) (hL : LOk0 L) (o : Only L.M W W') : MC L s fs ev W' := by
 have lo : ∀ {e : TypeId} {size n : Nat} {v : Value} {xs : List Value}, W.ownsRow L.b1 e size v n xs → W'.ownsRow L.b1 e size v n xs := fun h => own_only h o (fun e => by have := own_lo h e; have := hL.lt; omega)
 exact ⟨lo h.evs, own_only h.vals o (fun e => (hL.vlt _ e).2.1 rfl), fun i g a hi ha => (h.arrs i g a hi ha).only o (hL.alt g (List.mem_of_getElem? hi)).2, fun x hx => lo (h.fr x hx), h.dist,
  hL.im _ _ h.im (.only o (.inr (.inl rfl))), by rw [o.size]; exact h.size, h.sum, h.few⟩
theorem MC.below (h : MC L s fs ev W) (hL : LOk0 L) (b : Below W.heap.size W W') : MC L s fs ev W' :=
 ⟨own_below h.evs b, own_below h.vals b, fun i g a hi ha => (h.arrs i g a hi ha).below b (h.arrs i g a hi ha).lt, fun x hx => own_below (h.fr x hx) b, h.dist, hL.im _ _ h.im (.below (b.mono h.size)), Nat.le_trans h.size b.size, h.sum, h.few⟩
theorem MC.state {s' : Ms} (h : MC L s fs ev W) (h1 : s'.vals = s.vals) (h2 : s'.arrs = s.arrs) (h3 : s'.evs = s.evs) (h4 : s'.steps + s'.fuel = L.F) (h5 : s.steps ≤ s'.steps) : MC L s' fs ev W :=
 ⟨by rw [h3]; exact h.evs, by rw [h1]; exact h.vals, by rw [h2]; exact h.arrs, h.fr, h.dist, h.im, h.size, h4, by rw [h3]; have := h.few; omega⟩
end
theorem own_ov {w : World} {base n size : Nat} {e : TypeId} {v : Value} {xs : List Value} (h : w.ownsRow base e size v n xs) : v.oneCell' = true := by
 rcases h.2 with ⟨rfl, _⟩ | ⟨g, cap, cur, rfl, _⟩ <;> rfl
theorem MC.push {L : Lay} {s : Ms} {fs : List FrV} {ev : Value} {W : World} (h : MC L s fs ev W) (hf : 0 < s.fuel) (q : Nat) (t : Tr) : MC L s.tick (⟨⟨q, t, 0, []⟩, .slice none 0 0⟩ :: fs) ev W :=
 ⟨h.evs, h.vals, h.arrs, fun x hx => by
  rcases List.mem_cons.1 hx with rfl | hx
  · exact World.ownsRow_nil _ _ _ _
  · exact h.fr x hx,
 List.pairwise_cons.2 ⟨fun _ _ => .inl rfl, h.dist⟩, h.im, h.size, by have := h.sum; simp only [Ms.tick]; omega, by have := h.few; simp only [Ms.tick, List.length_cons]; omega⟩
end Go.Proofs.Ytlglilmgklipdaa
namespace Go.Proofs.Ytlglilmgklipdaa
set_option linter.unusedVariables false
open Go.RowKit Go.Deep
theorem info_ev : (Try.prog.info? 41).map (fun i => (i.zero, i.size, i.bytes)) = some (some (.agg #[.int .i64 0, .int .i64 0, .int .i64 0]), 3, 24) := by kernel_rfl
theorem evcells_one1 (e : EvV) : ∀ u ∈ e.cells, u.oneCell' = true := by
 intro u hu
 simp only [EvV.cells, List.mem_cons, List.not_mem_nil, or_false] at hu
 rcases hu with rfl | rfl | rfl <;> rfl
theorem putL_one (cur : Array Value) (k : Nat) (u : Value) (hk : k < cur.size) : putL cur k [u] = cur.setIfInBounds k u := by
 unfold putL
 apply Array.toList_inj.1
 simp only [List.length_singleton, Array.toList_setIfInBounds]
 rw [List.set_eq_take_append_cons_drop, if_pos (by simpa using hk)]; simp
end Go.Proofs.Ytlglilmgklipdaa
namespace Go.Proofs.Ytlglilmgklipdaa
set_option linter.unusedVariables false
open Go.RowKit Go.Deep
section
variable {L : Lay} {s : Ms} {x : FrV} {rs : List FrV} {sv ev : Value} {W W' : World} {SB cap : Nat} {cur : Array Value}
theorem MC.drop (h : MC L s (x :: rs) ev W) : MC L s rs ev W :=
 ⟨h.evs, h.vals, h.arrs, fun y hy => h.fr y (List.mem_cons_of_mem _ hy), (List.pairwise_cons.1 h.dist).2, h.im, h.size, h.sum, by have := h.few; simp at this; omega⟩
theorem Chg.drew1 (h : Chg L W W') : Chg L W W'.drew := h.trans ⟨rfl, rfl, rfl, Nat.le_refl _, fun _ _ _ _ _ => rfl⟩
end
end Go.Proofs.Ytlglilmgklipdaa
namespace Go.Proofs.Ytlglilmgklipdaa
set_option linter.unusedVariables false
open Go.RowKit Go.Deep
def Lay.rcells (L : Lay) (s : Ms) (ev : Value) : Array Value :=
 #[.int .i64 L.p.params, .slice L.p.va L.p.V.length L.p.vcap, .slice L.p.ba L.p.body.length L.p.bcap, L.vv, .slice L.aa L.ab.length L.acap, .int .i64 (s.fuel : Int), .int .i64 (s.steps : Int), ev,
  .int .i64 (s.out.getD (0, 0)).1, .int .i64 (s.out.getD (0, 0)).2, .bool s.out.isSome]
structure RChg (L : Lay) (ev : Value) (W : World) (ev' : Value) (W' : World) : Prop where
 os : W'.os = W.os
 tape : W'.tape = W.tape
 output : W'.output = W.output
 size : W.heap.size ≤ W'.heap.size
 block : ∀ k, k < W.heap.size → k ≠ L.M → L.vv.ownBlock ≠ some k → k ∉ L.ab → ev.ownBlock ≠ some k → W'.heap[k]? = W.heap[k]?
 evb : ∀ k, ev'.ownBlock = some k → ev.ownBlock = some k ∨ W.heap.size ≤ k
theorem RChg.refl (L : Lay) (ev : Value) (W : World) : RChg L ev W ev W := ⟨rfl, rfl, rfl, Nat.le_refl _, fun _ _ _ _ _ _ => rfl, fun _ h => .inl h⟩
theorem RChg.trans {L : Lay} {a b c : Value} {A B C : World} (h : RChg L a A b B) (k : RChg L b B c C) : RChg L a A c C :=
 ⟨k.os.trans h.os, k.tape.trans h.tape, k.output.trans h.output, Nat.le_trans h.size k.size, fun i h0 h1 h2 h3 h4 => (k.block i (Nat.lt_of_lt_of_le h0 h.size) h1 h2 h3 (fun e => (h.evb i e).elim h4 (fun e => by omega))).trans (h.block i h0 h1 h2 h3 h4), fun i e => (k.evb i e).elim (fun e => h.evb i e) (fun e => .inr (Nat.le_trans h.size e))⟩
theorem RChg.only {L : Lay} {ev : Value} {A B : World} {g : Nat} (o : Only g A B) (h : g = L.M ∨ L.vv.ownBlock = some g ∨ g ∈ L.ab) : RChg L ev A ev B :=
 ⟨o.os, o.tape, o.output, Nat.le_of_eq o.size.symm, fun k _ h2 h3 h4 _ => o.block k (fun e => by subst e; rcases h with h | h | h; exact h2 h; exact h3 h; exact h4 h), fun _ h => .inl h⟩
theorem RChg.below {L : Lay} {ev : Value} {A B : World} (b : Below A.heap.size A B) : RChg L ev A ev B := ⟨b.os, b.tape, b.output, b.size, fun k h1 _ _ _ _ => b.block k h1, fun _ h => .inl h⟩
theorem RChg.grown {L : Lay} {ev ev' : Value} {A B : World} (h : A.grownBy B ev.ownBlock) (ha : ∀ k, ev'.ownBlock = some k → ev.ownBlock = some k ∨ A.heap.size ≤ k) : RChg L ev A ev' B :=
 ⟨h.os, h.tape, h.output, h.size, fun k h1 _ _ _ h4 => h.block k h1 (fun e => h4 e.symm), ha⟩
structure Far (L : Lay) (ev : Value) (W : World) (k : Nat) : Prop where
 lo : L.b1 ≤ k
 ev : ev.ownBlock ≠ some k
 lt : k < W.heap.size
theorem Far.go {L : Lay} {ev ev' : Value} {W W' : World} {k : Nat} (h : Far L ev W k) (c : RChg L ev W ev' W') : Far L ev' W' k :=
 ⟨h.lo, fun e => (c.evb k e).elim h.ev (fun e => by have := h.lt; omega), Nat.lt_of_lt_of_le h.lt c.size⟩
theorem Far.same {L : Lay} {ev ev' : Value} {W W' : World} {k : Nat} (h : Far L ev W k) (hL : LOk0 L) (c : RChg L ev W ev' W') : W'.heap[k]? = W.heap[k]? :=
 c.block k h.lt (by have := hL.lt; have := h.lo; omega) (fun e => by have := (hL.vlt k e).1; have := h.lo; omega) (fun e => by have := (hL.alt k e).1; have := h.lo; omega) h.ev
def FRow (L : Lay) (ev : Value) (W : World) (k : Nat) (t : TypeId) (cs : Array Value) : Prop := Far L ev W k ∧ Row W k t cs
theorem FRow.go {L : Lay} {ev ev' : Value} {W W' : World} {k : Nat} {t : TypeId} {cs : Array Value} (h : FRow L ev W k t cs) (hL : LOk0 L) (c : RChg L ev W ev' W') : FRow L ev' W' k t cs := ⟨h.1.go c, (h.1.same hL c).trans h.2⟩
def FRd (L : Lay) (ev : Value) (W : World) (A : Option Addr) (xs : List Value) : Prop := Rd W A xs ∧ ∀ ad, A = some ad → Far L ev W ad.block
theorem FRd.go {L : Lay} {ev ev' : Value} {W W' : World} {A : Option Addr} {xs : List Value} (h : FRd L ev W A xs) (hL : LOk0 L) (c : RChg L ev W ev' W') : FRd L ev' W' A xs := by
 refine ⟨fun j u hj => ?_, fun ad e => (h.2 ad e).go c⟩
 obtain ⟨ad, e, hc⟩ := h.1 j u hj
 refine ⟨ad, e, ?_⟩
 have := (h.2 ad e).same hL c
 simp only [World.cell?, add_block] at hc ⊢
 rw [this]; exact hc
structure RR (L : Lay) (s : Ms) (ev : Value) (W : World) : Prop where
 row : Row W L.M 68 (L.rcells s ev)
 core : MC L s [] ev W
section
variable {L : Lay} {s s' : Ms} {ev : Value} {W W' : World}
theorem RR.below (h : RR L s ev W) (hL : LOk0 L) (b : Below W.heap.size W W') : RR L s ev W' := ⟨h.row.below b h.row.lt, h.core.below hL b⟩
theorem RR.drew (h : RR L s ev W) (hL : LOk0 L) (n : Nat) : RR L s ev (W.drewN n) := h.below hL ⟨rfl, rfl, rfl, Nat.le_refl _, fun _ _ => rfl⟩
theorem RR.setM (h : RR L s ev W) (hL : LOk0 L) (o : Only L.M W W') (hr : Row W' L.M 68 (L.rcells s' ev))
 (h1 : s'.vals = s.vals) (h2 : s'.arrs = s.arrs) (h3 : s'.evs = s.evs) (h4 : s'.steps + s'.fuel = L.F) (h5 : s.steps ≤ s'.steps) : RR L s' ev W' :=
 ⟨hr, (h.core.only hL o).state h1 h2 h3 h4 h5⟩
theorem RR.few (h : RR L s ev W) : s.evs.length ≤ s.steps := by have := h.core.few; simpa using this
theorem RR.far_new (h : RR L s ev W) {g : Nat} {W' : World} (hg : W.heap.size ≤ g) (hlt : g < W'.heap.size) : Far L ev W' g :=
 ⟨Nat.le_trans h.core.size hg, fun e => by have := h.core.evs.lt _ e; omega, hlt⟩
end
end Go.Proofs.Ytlglilmgklipdaa
namespace Go.Proofs.Ytlglilmgklipdaa
set_option linter.unusedVariables false
open Go.RowKit Go.Deep
def vals0 (V args : List Int) : List Int := (List.range V.length).map fun i => args.getD i 0
def arrs0 (V : List Int) : List (List Int) := V.map fun t => List.replicate (sizeZ t).toNat 0
def initS (V args : List Int) (F : Nat) : Ms := ⟨vals0 V args, arrs0 V, F, 0, [], none⟩
structure LNew (B : Nat) (L : Lay) : Prop where
 m : B ≤ L.M
 b1 : B ≤ L.b1
 vv : ∀ g, L.vv.ownBlock = some g → B ≤ g
 ab : ∀ g ∈ L.ab, B ≤ g
theorem Chg.new {L : Lay} {B : Nat} {W W' : World} (h : Chg L W W') (n : LNew B L) : Below B W W' :=
 ⟨h.os, h.tape, h.output, h.size, fun k hk => h.block k (by have := n.b1; omega) (by have := n.m; omega) (fun e => by have := n.vv k e; omega) (fun e => by have := n.ab k e; omega)⟩
theorem LenS.init (V args : List Int) (F : Nat) : LenS V (initS V args F) := by
 refine ⟨by simp [initS, vals0], by simp [initS, arrs0], fun i t a h1 h2 => ?_⟩
 simp only [initS, arrs0, List.getElem?_map, h1, Option.map_some, Option.some.injEq] at h2
 subst h2
 rw [List.length_replicate]
 unfold sizeZ
 split <;> omega
end Go.Proofs.Ytlglilmgklipdaa
namespace Go.Proofs.Ytlglilmgklipdaa
set_option linter.unusedVariables false
open Go.RowKit Go.Deep
theorem zero_run2 {w : World} : (zeroValue 32).run Try.prog w = .ok (.agg #[.int .i64 0, .int .i64 0, .int .i64 0, .slice none 0 0]) w := by kernel_rfl
theorem run_one (a b c : Int) {ev : Value} (h : ev.oneCell' = true) : (#[.int .i64 a, .int .i64 b, .int .i64 c, ev] : Array Value).all (·.oneCell') = true := by
 have : ([.int .i64 a, .int .i64 b, .int .i64 c, ev] : List Value).all (·.oneCell') = true := by
  rw [List.all_eq_true]
  intro u hu
  simp only [List.mem_cons, List.not_mem_nil, or_false] at hu
  rcases hu with rfl | rfl | rfl | rfl
  · rfl
  · rfl
  · rfl
  · exact h
 simpa only [List.all_toArray] using this
theorem results_cell_tmp {P : Program} {fn : Func} {p t' : Tmp} {ty : TypeId} (h : fn.results = #[.cell p ty, .tmp t']) (tmps : Array Value) (w : World) (g : Nat) (t : TypeId) (cs : Array Value) (fr : Nat × Nat) (d : TypeDesc)
 (hp : tmps.getD p undef = .pointer (some ⟨g, 0, none⟩)) (hg : w.heap[g]? = some (.cells cs t fr))
 (hu : P.underlying ty = some d) (hd : (match d with | .struct _ | .array _ _ => true | _ => false) = true) (hi : (P.info? ty).map (·.size) = some cs.size) :
 (results fn tmps).run P w = .ok (.tuple #[.agg cs, tmps.getD t' undef]) w := by
 have hp' : tmps[p]?.getD undef = .pointer (some ⟨g, 0, none⟩) := by simpa using hp
 simp [results, h, hp', asAddr, run_loadVar_row w g t ty cs fr d hg hu hd hi]
structure RunR (fin : Mm) (w w' : World) (e : Ending) : Prop where
 ex : ∃ ev, e = .returned (.tuple #[.agg #[.int .i64 (fin.s.out.getD (0, 0)).1, .int .i64 (fin.s.out.getD (0, 0)).2, .int .i64 (fin.s.steps : Int), ev], .int .i64 0]) ∧ w'.ownsRow w.heap.size 41 3 ev fin.s.evs.length (fin.s.evs.flatMap EvV.cells) ∧ Below w.heap.size w w'
end Go.Proofs.Ytlglilmgklipdaa
namespace Go.Proofs.Ytlglilmgklipdaa
set_option linter.unusedVariables false
open Go.RowKit Go.Deep
structure ChM (M B : Nat) (W W' : World) : Prop where
 os : W'.os = W.os
 tape : W'.tape = W.tape
 output : W'.output = W.output
 size : W.heap.size ≤ W'.heap.size
 block : ∀ k, k < B → k ≠ M → W'.heap[k]? = W.heap[k]?
section
variable {M B : Nat} {A W W' : World}
theorem ChM.refl (M B : Nat) (W : World) : ChM M B W W := ⟨rfl, rfl, rfl, Nat.le_refl _, fun _ _ _ => rfl⟩
theorem ChM.trans (h : ChM M B A W) (k : ChM M B W W') : ChM M B A W' := ⟨k.os.trans h.os, k.tape.trans h.tape, k.output.trans h.output, Nat.le_trans h.size k.size, fun i h1 h2 => (k.block i h1 h2).trans (h.block i h1 h2)⟩
theorem ChM.below (b : Below B W W') : ChM M B W W' := ⟨b.os, b.tape, b.output, b.size, fun k h1 _ => b.block k h1⟩
theorem ChM.only (o : Only M W W') : ChM M B W W' := ⟨o.os, o.tape, o.output, Nat.le_of_eq o.size.symm, fun k _ h => o.block k h⟩
theorem ChM.grown {g : Option Nat} (h : W.grownBy W' g) (hs : B ≤ W.heap.size) (hg : ∀ k, g = some k → B ≤ k) : ChM M B W W' :=
 ⟨h.os, h.tape, h.output, h.size, fun k h1 _ => h.block k (by omega) (fun e => by have := hg k e.symm; omega)⟩
theorem Row.chm {g : Nat} {t : TypeId} {cs : Array Value} (h : Row W g t cs) (c : ChM M B W W') (hg : g < B) (hne : g ≠ M) : Row W' g t cs := (c.block g hg hne).trans h
end
def mkCells (p : PgV) (kv vv av : Value) (F : Int) (PB : Nat) : Array Value :=
 #[.int .i64 p.params, .slice p.va p.V.length p.vcap, .slice p.ba p.body.length p.bcap, kv, vv, av, .int .i64 F, .slice none 0 0, .int .i64 0, .int .i64 0, .int .i64 0, .slice none 0 0, .bool false, .map (some PB)]
theorem ChM.to_below {M B b : Nat} {A W : World} (h : ChM M B A W) (hB : b ≤ B) (hM : b ≤ M) : Below b A W := ⟨h.os, h.tape, h.output, h.size, fun k hk => h.block k (by omega) (by omega)⟩
def asL (gs : List Nat) (V : List Int) : List Value := (gs.zip V).map fun x => Value.slice (some ⟨x.1, 0, none⟩) (sizeZ x.2).toNat (sizeZ x.2).toNat
structure K2 (p : PgV) (M Bk PB : Nat) (F : Int) (kv : Value) (args : List Int) (W1 : World) (k : Nat) (W : World) : Prop where
 ex : ∃ vv av gs, Row W M 60 (mkCells p kv vv av F PB) ∧ gs.length = k ∧ W.ownsRow Bk 3 1 vv k (ints ((vals0 p.V args).take k)) ∧ W.ownsRow Bk 22 1 av k (asL gs p.V) ∧ (∀ (i g : Nat) (t : Int), gs[i]? = some g → p.V[i]? = some t → Row W g 3 (ints (List.replicate (sizeZ t).toNat 0)).toArray) ∧ (∀ g ∈ gs, Bk ≤ g) ∧ gs.Nodup ∧ (∀ g ∈ gs, vv.ownBlock ≠ some g) ∧ ChM M Bk W1 W
theorem own_hi {w : World} {b size n g : Nat} {e : TypeId} {v : Value} {xs : List Value} (h : w.ownsRow b e size v n xs) (hv : v.ownBlock = some g) : g < w.heap.size := by
 rcases h.2 with ⟨rfl, _⟩ | ⟨g', cap, cur, rfl, _, hh, _⟩
 · simp [Value.ownBlock] at hv
 · simp [Value.ownBlock] at hv; subst hv
   exact (Array.getElem?_eq_some_iff.1 hh).1
theorem at_stop {ops : Array Oper} {rest : List Oper} {o : Oper} {a : Act} {w : World} {Q : Exit → Act → World → Prop} (h : Stop (wpList Try.prog ops Q (o :: rest) a w) id) : wpList Try.prog ops Q (o :: rest) a w := h.out
theorem own_shape {w : World} {b n : Nat} {e : TypeId} {v : Value} {xs : List Value} (h : w.ownsRow b e 1 v n xs) : ∃ A c, v = .slice A n c ∧ Rd w A xs := by
 rcases h.2 with ⟨rfl, rfl⟩ | ⟨g, cap, cur, rfl, _, hh, _, _, _, ht⟩
 · have := h.1
   simp at this
   subst this
   exact ⟨_, _, rfl, Rd.nil _ _⟩
 · refine ⟨_, _, rfl, fun j u hj => ⟨_, rfl, ?_⟩⟩
   have hr : Row w g e cur := hh
   have hjl : j < xs.length := (List.getElem?_eq_some_iff.1 hj).1
   have hl := h.1
   rw [← ht, List.getElem?_take_of_lt (by omega)] at hj
   have : w.cell? ⟨g, j, none⟩ = some u := hr.cellv (by rw [← Array.getElem?_toList]; exact hj)
   unfold Addr.add
   by_cases h0 : j = 0
   · subst h0; exact this
   · rw [if_neg h0]; simpa using this
theorem own_chg {L : Lay} {W W' : World} {b size n : Nat} {e : TypeId} {v : Value} {xs : List Value} (h : W.ownsRow b e size v n xs) (c : Chg L W W') (hv : ∀ g, v.ownBlock = some g → g < L.b1 ∧ g ≠ L.M ∧ L.vv.ownBlock ≠ some g ∧ g ∉ L.ab) : W'.ownsRow b e size v n xs := by
 refine ⟨h.1, ?_⟩
 rcases h.2 with h | ⟨g, cap, cur, h1, h2, h3, h4⟩
 · exact .inl h
 · have := hv g (by rw [h1]; rfl)
   exact .inr ⟨g, cap, cur, h1, h2, (c.block g this.1 this.2.1 this.2.2.1 this.2.2.2).trans h3, h4⟩
end Go.Proofs.Ytlglilmgklipdaa
namespace Go.Proofs.Ytlglilmgklipdaa
set_option linter.unusedVariables false
open Go.RowKit Go.Deep
theorem checkZ_zero {p : PgV} {n : Nat} {fuel : Int} (h : checkZ p n fuel = 0) : ∃ t, Good p t ∧ (n : Int) = p.params ∧ 0 ≤ fuel ∧ fuel ≤ 10000 := by
 by_cases hg : ∃ t, Good p t
 · obtain ⟨t, ht⟩ := hg
   rw [checkZ_good ht] at h
   refine ⟨t, ht, ?_⟩
   split at h
   · cases h
   · split at h
     · cases h
     · omega
 · rw [checkZ_no (fun t ht => hg ⟨t, ht⟩)] at h; cases h
end Go.Proofs.Ytlglilmgklipdaa
