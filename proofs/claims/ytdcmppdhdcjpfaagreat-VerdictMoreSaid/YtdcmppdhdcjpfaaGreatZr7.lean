/- Lemmas for VerdictMoreP. -/
import Derived.Test.YtdcmppdhdcjpfaaGreatZr6
import Derived.Test.YtdcmppdhdcjpfaaGreatZr4
import Derived.Test.YtdcmppdhdcjpfaaGreatZr3
import Derived.Test.YtdcmppdhdcjpfaaGreatZr1
import Derived.Maps.AppendAt
import Derived.Deep.Cut
import Derived.Lib.AppendZerosOnto
import Derived.Test.YtdcmppdhdcjpfaaGreatRows
import Derived.Great.BuildSlice
set_option linter.unusedVariables false
set_option linter.unusedSimpArgs false
set_option maxRecDepth 100000
set_option maxHeartbeats 16000000
namespace Go.Proofs.YtdcmppdhdcjpfaaGreat
open Go.RowKit Go.Deep
theorem RS.rb {w W : World} {M : Nat} {D : List Int} (h : RS w W M D) (hD : ∀ k, k ∈ D ↔ (1 ≤ k ∧ k ≤ 26 ∧ k ≠ 20)) : RB M W := by
 obtain ⟨es, h1, h2, h3⟩ := h.map
 subst h2
 exact ⟨es, h1, h3, hD⟩
theorem Ab6 (p : PgV) (hbl : p.body.length ≤ 1000) (t : Tr) (q : Nat) (hat : At p.body q t) (w : World) (hok : p.ok w) : Calls Tryz.prog 66 #[.agg p.cells, .int .i64 (q : Int)] w fun e w' => e = .returned (.int .i64 (ofT p.V t)) ∧ Below w.heap.size w w' := by
 have Hbl := Lh hbl
 have Hat := Lh hat
 have Hok := Lh hok
 have Hend : Hid (endZ p.body (q : Int) = ((q + t.size : Nat) : Int)) := hat.endZ
 have hpos0 : 0 ≤ ((q + t.size : Nat) : Int) := by omega
 clear hbl hat hok
 go_enter Tryz.func66, Tryz.ntmps66
 go_wp2_with (refine Qp _ _ rfl ?_)
 refine Stop.to ?_
 refine Qf rfl 25 _ rfl p.cells rfl ?_
 intro G w1 hG r1 b1
 have b1 := (Below.refl w.heap.size w).trans (b1.mono hG)
 have c2 := r1.cellv (i := 2) (v := .slice p.ba p.body.length p.bcap) rfl
 have Hok1 := Lh (Hok.out.go b1)
 clear hG Hok
 go_wp2_with fail
 refine (JH p.ba p.bcap p.body (q : Int) w1 Hok1.out.brd Hbl.out).mono ?_
 rintro e w2 ⟨rfl, b2⟩
 rw [Hend.out]
 obtain ⟨S, hSd⟩ : ∃ S, S = (fun W => Row W G 25 p.cells ∧ p.ok W ∧ Below w.heap.size w W) := ⟨_, rfl⟩
 have stS : St S := by rw [hSd]; infer_instance
 have S0 : Hid (∀ W, S W → Row W G 25 p.cells) := by show ∀ W, _; rw [hSd]; exact fun W h => h.1
 have S1 : Hid (∀ W, S W → p.ok W) := by show ∀ W, _; rw [hSd]; exact fun W h => h.2.1
 have S2 : Hid (∀ W, S W → Below w.heap.size w W) := by show ∀ W, _; rw [hSd]; exact fun W h => h.2.2
 have hS2 : S w2 := by rw [hSd]; exact ⟨r1.below b2 r1.lt, Hok1.out.go b2, b1.trans (b2.mono b1.size)⟩
 clear hSd r1 b1 b2 c2 Hok1
 go_wp2_with fail
 refine wp_region_held (S := S) (by kernel_rfl) ?_
 simp only [List.size_toArray, List.length_cons, List.length_nil, Nat.reduceAdd, Array.replicate_succ, Array.replicate_zero, List.push_toArray, List.nil_append, List.cons_append]
 show wpAnyH _ _ _ _ _ _ _ _ w2.drew
 have hS : S w2.drew := St.drew hS2
 clear hS2
 generalize w2.drew = wd at hS ⊢
 (refine tkH 0 _ rfl (J9 rfl 25 _ rfl G rfl 25 p.cells _ S0.out Tryz.underlying25 rfl (by kernel_rfl)) ?_; simp only [Act.put, Qa, Qb, Qc])
 (refine tkH 3 (.int .i64 (q : Int)) rfl (Qd rfl (fun W hW => by (go_simp))) ?_; simp only [Act.put, Qa, Qb, Qc])
 (refine wpAnyH_all (rs := [1]) (by kernel_rfl) (by simp) (fun i hi => ?_); obtain rfl : i = 1 := by simpa using hi)
 refine Qe rfl rfl (fun K2 hK2 => ?_)
 refine Qx (w1 := wd) 127 #[] (by go_simp; try rfl) ?_
 refine (Afr wd).mono ?_
 rintro e wr ⟨M, D, rfl, hrs, hD⟩
 refine ⟨_, rfl, hK2 _ _ ?_⟩
 clear hK2 K2
 have hS := stS.go hS hrs.below
 have hrb := hrs.rb hD
 have Hrb := Lh hrb
 clear hrb hrs hD
 simp only [Act.put, Qa, Qb, Qc]
 refine ⟨hS, ?_⟩
 (refine tkH 2 (.agg (JW p M)) rfl (Qd rfl (fun W hW => by (go_simp; try rfl))) ?_; simp only [Act.put, Qa, Qb, Qc])
 (refine wpAnyH_all (rs := [4]) (by kernel_rfl) (by simp) (fun i hi => ?_); obtain rfl : i = 4 := by simpa using hi)
 refine Qe rfl rfl (fun K2 hK2 => ?_)
 refine Qx (w1 := wr) 128 #[.agg (JW p M), .int .i64 (q : Int)] (by go_simp; try rfl) ?_
 refine (AhE p M Hbl.out t.size t q (Nat.le_refl _) Hat.out wr (S1.out _ hS) Hrb.out).mono ?_
 rintro e w6 ⟨rfl, b6⟩
 refine ⟨_, rfl, hK2 _ _ ?_⟩
 clear hK2 K2
 have hS := stS.go hS b6
 simp only [Act.put, Qa, Qb, Qc]
 refine ⟨hS, ?_⟩
 (refine tkH 5 (.int .i64 (ofT p.V t)) rfl (Qd rfl (fun W hW => by (go_simp))) ?_; simp only [Act.put, Qa, Qb, Qc])
 refine wpAnyH_done (by kernel_rfl) ?_ _
 go_wp2
 go_ret
 exact ⟨rfl, S2.out _ hS⟩
structure Good (p : PgV) (t : Tr) : Prop where
 hat : At p.body 0 t
 size : t.size = p.body.length
 vars : JS p.params p.V
 tag : t.root.tag = 20
 kind : ofT p.V t = 2
open Classical in
noncomputable def Zr (p : PgV) (n : Nat) (fuel : Int) : Int := if ∃ t, Good p t then (if (n : Int) ≠ p.params then 18 else if fuel < 0 ∨ 10000 < fuel then 19 else 0) else 23
theorem JA {p : PgV} {n : Nat} {fuel : Int} (h : ∀ t, ¬ Good p t) : Zr p n fuel = 23 := by unfold Zr; rw [if_neg (fun ⟨t, ht⟩ => h t ht)]
theorem Kf {p : PgV} {n : Nat} {fuel : Int} {t : Tr} (h : Good p t) : Zr p n fuel = if (n : Int) ≠ p.params then 18 else if fuel < 0 ∨ 10000 < fuel then 19 else 0 := by unfold Zr; rw [if_pos ⟨t, h⟩]
theorem At.uniq {l : List Nd} {q : Nat} {a b : Tr} (ha : At l q a) (hb : At l q b) : a = b := by
 have key : ∀ n, (∀ (a b : Tr) (r s : List Nd), a.size ≤ n → a.fits → b.fits → a.flat ++ r = b.flat ++ s → a = b) ∧ (∀ (ls ms : List Tr) (r s : List Nd), (QF ls).length ≤ n → ls.length = ms.length → (∀ t ∈ ls, t.fits) → (∀ t ∈ ms, t.fits) → QF ls ++ r = QF ms ++ s → ls = ms) := by
  intro n
  induction n with
  | zero =>
   refine ⟨fun a b r s h => by have := a.size_eq; omega, fun ls ms r s h hl _ _ _ => ?_⟩
   cases ls with
   | nil => exact (List.eq_nil_of_length_eq_zero (by simpa using hl.symm)).symm
   | cons t ts => rw [QF, List.length_append] at h; have := t.size_eq; have hsz : t.size = t.flat.length := rfl; omega
  | succ n ih =>
   have one : ∀ (a b : Tr) (r s : List Nd), a.size ≤ n + 1 → a.fits → b.fits → a.flat ++ r = b.flat ++ s → a = b := by
    rintro ⟨x, ks⟩ ⟨y, js⟩ r s h fa fb e
    have e' := e
    rw [Tr.flat_eq, Tr.flat_eq, List.cons_append, List.cons_append] at e'
    injection e' with e1 e2
    simp only [Tr.root, Tr.kids] at e1 e2
    subst e1
    have hl : ks.length = js.length := by
     have h1 := fa.arity
     have h2 := fb.arity
     simp only [Tr.root, Tr.kids] at h1 h2
     omega
    have h4 := (Tr.node x ks).size_eq
    simp only [Tr.kids] at h4
    rw [ih.2 ks js r s (by omega) hl fa.kid fb.kid e2]
   refine ⟨one, fun ls ms => ?_⟩
   induction ls generalizing ms with
   | nil => intro r s _ hl _ _ _; exact (List.eq_nil_of_length_eq_zero (by simpa using hl.symm)).symm
   | cons t ts iht =>
    intro r s h hl fa fb e
    cases ms with
    | nil => simp at hl
    | cons u us =>
     rw [QF, QF, List.append_assoc, List.append_assoc] at e
     rw [QF, List.length_append] at h
     have ht : t = u := one t u _ _ (by unfold Tr.size; omega) (fa t (by simp)) (fb u (by simp)) e
     subst ht
     rw [iht us r s (by omega) (by simpa using hl) (fun k hk => fa k (by simp [hk])) (fun k hk => fb k (by simp [hk])) (List.append_cancel_left e)]
 obtain ⟨r, hr⟩ := ha.here
 obtain ⟨s, hs⟩ := hb.here
 exact (key a.size).1 a b r s (Nat.le_refl _) ha.fits hb.fits (by rw [← hr, hs])
theorem Kd {p : PgV} {t : Tr} (hat : At p.body 0 t) (h : ¬ (t.root.tag = 20 ∧ ofT p.V t = 2)) : ∀ t', ¬ Good p t' := fun t' g => by
 have := hat.uniq g.hat
 subst this
 exact h ⟨g.tag, g.kind⟩
theorem Ey {p : PgV} (h : Jj p.params p.V ≠ 0) : ∀ t', ¬ Good p t' := fun t' g => h (by unfold Jj; rw [if_pos g.vars])
theorem AaT {p : PgV} (h : endZ p.body 0 ≠ (p.body.length : Int)) : ∀ t', ¬ Good p t' := fun t' g => h (by
 have := g.hat.endZ
 rw [g.size, Nat.zero_add] at this
 exact this)
theorem AaU {p : PgV} (h : p.body.length = 0) : ∀ t', ¬ Good p t' := fun t' g => by have := g.hat.lt; omega
theorem XZ (a : Int) (V : List Int) : Jj a V = 0 ∧ JS a V ∨ Jj a V = 14 := by
 unfold Jj
 by_cases h : JS a V
 · rw [if_pos h]; exact .inl ⟨rfl, h⟩
 · rw [if_neg h]; exact .inr rfl
theorem VA (p : PgV) (aa : Option Addr) (acap n : Nat) (fuel : Int) (hbl : p.body.length ≤ 1000) (hn : n ≤ 1000) (w : World) (hok : p.ok w) : Calls Tryz.prog 22 #[.agg p.cells, .slice aa n acap, .int .i64 fuel] w fun e w' => e = .returned (.int .i64 (Zr p n fuel)) ∧ Below w.heap.size w w' := by
 have Hbl := Lh hbl
 have Hok := Lh hok
 clear hbl hok
 go_enter Tryz.func22, Tryz.ntmps22
 go_wp2_with (refine Qp _ _ rfl ?_)
 refine Stop.to ?_
 refine Qf rfl 25 _ rfl p.cells rfl ?_
 intro G w1 hG r1 b1
 have b1 := (Below.refl w.heap.size w).trans (b1.mono hG)
 obtain ⟨S, hSd⟩ : ∃ S, S = (fun W => Row W G 25 p.cells ∧ p.ok W ∧ Below w.heap.size w W) := ⟨_, rfl⟩
 have stS : St S := by rw [hSd]; infer_instance
 have s0 : ∀ W, S W → Row W G 25 p.cells := by rw [hSd]; exact fun W h => h.1
 have S1 : Hid (∀ W, S W → p.ok W) := by show ∀ W, _; rw [hSd]; exact fun W h => h.2.1
 have S2 : Hid (∀ W, S W → Below w.heap.size w W) := by show ∀ W, _; rw [hSd]; exact fun W h => h.2.2
 have hS : S w1 := by rw [hSd]; exact ⟨r1, Hok.out.go b1, b1⟩
 have S0 := Lh s0
 clear hSd r1 b1 hG Hok s0
 go_wp2_with fail
 refine ZX S (by kernel_rfl) (by kernel_rfl) (St.drew hS) ?_
 clear hS
 (refine QO rfl 25 _ rfl (G) rfl 25 _ _ S0.out Tryz.underlying25 rfl (by kernel_rfl) ?_; simp only [Act.put, Qa, Qb, Qc])
 (refine QE rfl 64 _ (fun W => by (go_simp; try rfl)) _ (fun W hW => AcQ p W (S1.out _ hW)) ?_; simp only [Act.put, Qa, Qb, Qc])
 have hve := XZ p.params p.V
 generalize hve0 : Jj p.params p.V = ve at hve
 have Hve := Lh hve0
 clear hve0
 rcases hve with ⟨rfl, hvok⟩ | rfl
 rotate_left
 · have hz := Lh (JA (n := n) (fuel := fuel) (Ey (p := p) (by rw [Hve.out]; omega)))
   iterate 2 (refine Qg rfl ?_ (fun W hW => ?_) ?_; rotate_left; (focus (go_simp; exact rfl)); simp only [Act.put, Qa, Qb, Qc])
   iterate 4 (refine Ub rfl ?_; simp only [Act.put, Qa, Qb, Qc])
   iterate 2 (refine Qg rfl ?_ (fun W hW => ?_) ?_; rotate_left; (focus (go_simp; exact rfl)); simp only [Act.put, Qa, Qb, Qc])
   iterate 7 (refine Ub rfl ?_; simp only [Act.put, Qa, Qb, Qc])
   iterate 2 (refine Qg rfl ?_ (fun W hW => ?_) ?_; rotate_left; (focus (go_simp; exact rfl)); simp only [Act.put, Qa, Qb, Qc])
   refine QV fun W hW => ?_
   go_wp2
   go_ret
   exact ⟨QK hz.out, S2.out _ hW⟩
 have Hvok := Lh hvok
 clear hvok
 by_cases hl : p.body.length = 0
 · have hz := Lh (JA (n := n) (fuel := fuel) (AaU hl))
   have hl' : ((p.body.length : Int) == 0) = true := by simp [hl]
   clear hl
   iterate 3 (refine Qg rfl ?_ (fun W hW => ?_) ?_; rotate_left; (focus (go_simp; exact rfl)); simp only [Act.put, Qa, Qb, Qc])
   (refine Qg rfl ?_ (fun W hW => ?_) ?_; rotate_left; (focus (have c := (S0.out _ hW).cellv (i := 2) (v := .slice p.ba p.body.length p.bcap) rfl; go_simp; exact rfl)); simp only [Act.put, Qa, Qb, Qc])
   iterate 4 (refine Qg rfl ?_ (fun W hW => ?_) ?_; rotate_left; (focus (go_simp; exact rfl)); simp only [Act.put, Qa, Qb, Qc])
   iterate 7 (refine Ub rfl ?_; simp only [Act.put, Qa, Qb, Qc])
   iterate 2 (refine Qg rfl ?_ (fun W hW => ?_) ?_; rotate_left; (focus (go_simp; exact rfl)); simp only [Act.put, Qa, Qb, Qc])
   refine QV fun W hW => ?_
   go_wp2
   go_ret
   exact ⟨QK hz.out, S2.out _ hW⟩
 have hl' : ((p.body.length : Int) == 0) = false := by simpa using hl
 have Hl := Lh hl
 clear hl
 iterate 3 (refine Qg rfl ?_ (fun W hW => ?_) ?_; rotate_left; (focus (go_simp; exact rfl)); simp only [Act.put, Qa, Qb, Qc])
 (refine Qg rfl ?_ (fun W hW => ?_) ?_; rotate_left; (focus (have c := (S0.out _ hW).cellv (i := 2) (v := .slice p.ba p.body.length p.bcap) rfl; go_simp; exact rfl)); simp only [Act.put, Qa, Qb, Qc])
 iterate 5 (refine Qg rfl ?_ (fun W hW => ?_) ?_; rotate_left; (focus (go_simp; exact rfl)); simp only [Act.put, Qa, Qb, Qc])
 (refine Qg rfl ?_ (fun W hW => ?_) ?_; rotate_left; (focus (have c := (S0.out _ hW).cellv (i := 2) (v := .slice p.ba p.body.length p.bcap) rfl; go_simp; exact rfl)); simp only [Act.put, Qa, Qb, Qc])
 (refine QE rfl 65 _ (fun W => by (go_simp; try rfl)) _ (fun W hW => JH p.ba p.bcap p.body 0 W (S1.out _ hW).brd Hbl.out) ?_; simp only [Act.put, Qa, Qb, Qc])
 iterate 1 (refine Qg rfl ?_ (fun W hW => ?_) ?_; rotate_left; (focus (go_simp; exact rfl)); simp only [Act.put, Qa, Qb, Qc])
 (refine Qg rfl ?_ (fun W hW => ?_) ?_; rotate_left; (focus (have c := (S0.out _ hW).cellv (i := 2) (v := .slice p.ba p.body.length p.bcap) rfl; go_simp; exact rfl)); simp only [Act.put, Qa, Qb, Qc])
 iterate 1 (refine Qg rfl ?_ (fun W hW => ?_) ?_; rotate_left; (focus (go_simp; exact rfl)); simp only [Act.put, Qa, Qb, Qc])
 by_cases he : endZ p.body 0 = (p.body.length : Int)
 rotate_left
 · have hz := Lh (JA (n := n) (fuel := fuel) (AaT he))
   have he' : (endZ p.body 0 != (p.body.length : Int)) = true := by simpa using he
   clear he
   iterate 3 (refine Qg rfl ?_ (fun W hW => ?_) ?_; rotate_left; (focus (go_simp; exact rfl)); simp only [Act.put, Qa, Qb, Qc])
   refine QV fun W hW => ?_
   go_wp2
   go_ret
   exact ⟨QK hz.out, S2.out _ hW⟩
 have he' : (endZ p.body 0 != (p.body.length : Int)) = false := by simp [he]
 have He := Lh he
 clear he
 iterate 3 (refine Qg rfl ?_ (fun W hW => ?_) ?_; rotate_left; (focus (go_simp; exact rfl)); simp only [Act.put, Qa, Qb, Qc])
 refine QV fun W hW => ?_
 obtain ⟨t, hat, _⟩ := Yd (l := p.body) (a := 0) (by rw [He.out]; omega)
 have hat : At p.body 0 t := hat
 have hsz : t.size = p.body.length := by have h1 := hat.endZ; have h2 := He.out; simp only [Nat.zero_add] at h1; have h3 : endZ p.body 0 = (t.size : Int) := h1; omega
 have Hat := Lh hat
 have Hsz := Lh hsz
 have c2 := (S0.out _ hW).cellv (i := 2) (v := .slice p.ba p.body.length p.bcap) rfl
 obtain ⟨bd, hbd, hcx⟩ := Jq (S1.out _ hW).brd (k := 0) hat.root
 have hc0 := hcx 0 (.int .i64 t.root.tag) rfl
 rw [show (bd.add (0 * 2)).add 0 = bd by rw [JG]; simp [Addr.add]] at hc0
 rw [hbd] at c2
 have hlpos : (0 : Int) < (p.body.length : Int) := by have := Hl.out; omega
 have hlpos' : 0 < p.body.length := by omega
 clear hcx hbd hat hsz
 by_cases ht : t.root.tag = 20
 rotate_left
 · have hz := Lh (JA (n := n) (fuel := fuel) (Kd Hat.out (fun h => ht h.1)))
   have ht' : (t.root.tag != 20) = true := by simpa using ht
   clear ht
   go_wp2
   go_ret
   exact ⟨QK hz.out, S2.out _ hW⟩
 have ht' : (t.root.tag != 20) = false := by simp [ht]
 have Ht := Lh ht
 clear ht
 go_wp2_with (refine Zj rfl 25 _ rfl G rfl 25 p.cells (0, 0) _ (S0.out _ hW) Tryz.underlying25 rfl (by kernel_rfl) ?_)
 refine (Ab6 p Hbl.out t 0 Hat.out W (S1.out _ hW)).mono ?_
 rintro e W2 ⟨rfl, b2⟩
 have hW2 := stS.go hW b2
 clear c2 hc0 b2 hW
 by_cases hk : ofT p.V t = 2
 rotate_left
 · have hz := Lh (JA (n := n) (fuel := fuel) (Kd Hat.out (fun h => hk h.2)))
   have hk' : (ofT p.V t != 2) = true := by simpa using hk
   clear hk
   go_wp2
   go_ret
   exact ⟨QK hz.out, S2.out _ hW2⟩
 have hk' : (ofT p.V t != 2) = false := by simp [hk]
 have hz := Lh (Kf (n := n) (fuel := fuel) (⟨Hat.out, Hsz.out, Hvok.out, Ht.out, hk⟩ : Good p t))
 have c0 := (S0.out _ hW2).cellv (i := 0) (v := .int .i64 p.params) rfl
 clear hk
 by_cases hp : (n : Int) = p.params
 rotate_left
 · have hp' : ((n : Int) != p.params) = true := by simpa using hp
   have Hp := Lh hp
   clear hp
   go_wp2
   go_ret
   exact ⟨QK (by rw [hz.out, if_pos Hp.out]), S2.out _ hW2⟩
 have hp' : ((n : Int) != p.params) = false := by simp [hp]
 have Hp := Lh hp
 clear hp
 by_cases hf : fuel < 0
 · go_wp2
   go_ret
   exact ⟨QK (by rw [hz.out, if_neg (fun h => h Hp.out), if_pos (.inl hf)]), S2.out _ hW2⟩
 have hf0 : 0 ≤ fuel := by omega
 by_cases hf2 : 10000 < fuel
 · clear hf
   go_wp2
   go_ret
   exact ⟨QK (by rw [hz.out, if_neg (fun h => h Hp.out), if_pos (.inr hf2)]), S2.out _ hW2⟩
 have hf3 : fuel ≤ 10000 := by omega
 clear hf hf2
 go_wp2
 go_ret
 exact ⟨QK (by rw [hz.out, if_neg (fun h => h Hp.out), if_neg (by omega)]), S2.out _ hW2⟩
end Go.Proofs.YtdcmppdhdcjpfaaGreat
namespace Go.Proofs.YtdcmppdhdcjpfaaGreat
open Go.RowKit
structure Mt where
 d : Dl
 verdict : Int
 test : Int
 kind : Int
 value : Int
 digest : List UInt8
structure Sc where
 alive : Int
 killed : Int
 timeout : Int
def Jd (params : Int) (tests : List (List Int)) (fuel : Int) : Int :=
 if tests.length < 1 ∨ 20 < tests.length then 18 else if ∀ l ∈ tests, (l.length : Int) = params then (if fuel < 1 ∨ 10000 < fuel then 19 else 0) else 18
def Kq (a b : Mt) : Bool := decide (Jv a.d b.d = 0 ∧ a.verdict = b.verdict ∧ a.test = b.test ∧ (a.kind = b.kind ∧ a.value = b.value) ∧ a.digest = b.digest)
theorem sameM_iff {a b : Mt} : Kq a b = true ↔ a = b := by
 unfold Kq
 rw [decide_eq_true_eq, cmpD_eq]
 cases a; cases b
 simp only [Mt.mk.injEq]
 constructor
 · rintro ⟨h1, h2, h3, ⟨h4, h5⟩, h6⟩; exact ⟨h1, h2, h3, h4, h5, h6⟩
 · rintro ⟨h1, h2, h3, h4, h5, h6⟩; exact ⟨h1, h2, h3, ⟨h4, h5⟩, h6⟩
end Go.Proofs.YtdcmppdhdcjpfaaGreat
namespace Go.Proofs.YtdcmppdhdcjpfaaGreat
open Go.RowKit Go.Deep
theorem Aaj {w : World} {base n size : Nat} {e : TypeId} {v : Value} {xs : List Value} (h : w.ownsRow base e size v (n + 1) xs) : ∃ g cap, v = .slice (some ⟨g, 0, none⟩) (n + 1) cap := by
 rcases h.2 with ⟨_, h0⟩ | ⟨g, cap, cur, rfl, _⟩
 · omega
 · exact ⟨g, cap, rfl⟩
theorem ZY {W' : World} {B g size : Nat} {e : TypeId} (hB : B ≤ g) (h : Row W' g e #[]) : W'.ownsRow B e size (.slice (some ⟨g, 0, none⟩) 0 0) 0 [] :=
 ⟨by simp, .inr ⟨g, 0, #[], rfl, hB, h, Nat.le_refl _, Nat.zero_le _, by simp, by simp⟩⟩
theorem Qn {P : Program} {o : Oper} {w w1 : World} {ρ : Operand → Value} {t : TypeId} {n : Nat} (ps : List (Nat × Operand)) (ho : o.op = .buildSlice t n ps.toArray) {v : Value} (hv : (Instr.buildSlice t n (ps.map fun (i, x) => (i, ρ x)).toArray).run P w = .ok v w1) : (execOp ρ o).run P w = .ok (.value v) w1 := by
 simp only [execOp, ho, Sem.run_bind, List.map_toArray, hv, Result.andThen_ok, Sem.run_pure]
theorem Qq {P : Program} {o : Oper} {w w1 : World} {ρ : Operand → Value} {s x : Operand} {t : TypeId} (ho : o.op = .call { callee := .builtin .append, args := #[s, x], argTypes := #[t, t] }) {v : Value} (hv : (Builtin.append_ #[t, t] o.type #[ρ s, ρ x]).run P w = .ok v w1) : (execOp ρ o).run P w = .ok (.value v) w1 := by
 unfold execOp
 simp only [ho, resolve, invoke, builtin, Sem.run_bind, Sem.run_pure, Result.andThen_ok, List.map_toArray, List.map_cons, List.map_nil, hv]
theorem VW {P : Program} {w : World} {base size n c : Nat} {t ty e : TypeId} {i : TypeInfo} {v : Value} {xs : List Value} (ht : P.underlying t = some (.slice e)) (hi : P.info? e = some i) (hown : w.ownsRow base e size v n xs) : (Builtin.append_ #[t, t] ty #[v, .slice none 0 c]).run P w = .ok v w := by
 rcases hown.2 with ⟨rfl, rfl⟩ | ⟨g, cap, cur, rfl, _, _, hnc, _⟩
 · simp [Builtin.append_, run_underlying ht, sizeOf, typeInfo, hi, Builtin.lenOf, Builtin.firstCells]
 · simp [Builtin.append_, run_underlying ht, sizeOf, typeInfo, hi, Builtin.lenOf, Builtin.firstCells, hnc, storeCells]
theorem ZB {P : Program} (t e : TypeId) (z : Value) (size bytes : Nat) (ht : P.underlying t = some (.slice e)) (hinf : (P.info? e).map (fun i => (i.zero, i.size, i.bytes)) = some (some z, size, bytes)) (hzs : z.cells.size = size) (hsz : 0 < size) (hby : bytes ≤ 100)
 {W : World} {B n m cap : Nat} {v : Value} {xs cs : List Value} {A : Option Addr} (hown : W.ownsRow B e size v n xs) (hB : B ≤ W.heap.size) (hr : Rd W A cs) (hlen : cs.length = m * size) (h1 : ∀ u ∈ cs, u.oneCell' = true) (hA : A = none → m = 0) (hb : n + m ≤ 1000000) :
 ∃ v' W', (Builtin.append_ #[t, t] t #[v, .slice A m cap]).run P W = .ok v' W' ∧ W'.ownsRow B e size v' (n + m) (xs ++ cs) ∧ W.grownBy W' v.ownBlock ∧ (v'.ownBlock = v.ownBlock ∨ v'.ownBlock = some W.heap.size) := by
 obtain ⟨i0, hi0, hz0, hz1, hz2⟩ := info_parts hinf
 rcases A with _ | ad
 · have h0 := hA rfl
   subst h0
   have hl : cs = [] := List.eq_nil_of_length_eq_zero (by simpa using hlen)
   subst hl
   exact ⟨v, W, VW ht hi0 hown, by simpa using hown, World.grownBy.refl _ _, .inl rfl⟩
 · obtain ⟨v', W', h1, h2, h3, _, h5⟩ := run_append_own_at (P := P) W B t t e i0 z size bytes ht hi0 hz0 hz1 hz2 hzs hsz v n xs hown ad m cap cs hlen
    (fun j u hj => by obtain ⟨ad', e, hc⟩ := hr j u hj; injection e with e; subst e; exact hc) h1 (by unfold maxLen; omega) (by have := Nat.mul_le_mul hb hby; omega) hB
   exact ⟨v', W', h1, h2, h3, h5⟩
theorem AaM : (Tryz.prog.info? 85).map (fun i => (i.zero, i.size, i.bytes)) = some (some (.agg #[.int .i64 0, .int .i64 0]), 2, 16) := by kernel_rfl
theorem Yy {ops : Array Oper} {rest : List Oper} {o : Oper} {a : Act} {w : World} {Q : Exit → Act → World → Prop} (h : Stop (wpList Tryz.prog ops Q (o :: rest) a w) id) : wpList Tryz.prog ops Q (o :: rest) a w := h.out
theorem Zg {P : Program} {ops : Array Oper} {rest : List Oper} {o : Oper} {a : Act} {w w1 : World} {Q : Exit → Act → World → Prop} (hgd : o.guard = none) (v : Value) (hv : (execOp a.eval o).run P w = .ok (.value v) w1) (h : wpList P ops Q rest (a.put o.dst v) w1) : wpList P ops Q (o :: rest) a w :=
 wpList_plain hgd fun _ hK => by unfold Oper.wp; rw [hv]; exact hK _ _ h
theorem Up {P : Program} {o : Oper} {w w1 : World} {ρ : Operand → Value} {s x : Operand} {t u : TypeId} (ho : o.op = .call { callee := .builtin .append, args := #[s, x], argTypes := #[t, u] }) {v : Value} (hv : (Builtin.append_ #[t, u] o.type #[ρ s, ρ x]).run P w = .ok v w1) : (execOp ρ o).run P w = .ok (.value v) w1 := by
 unfold execOp
 simp only [ho, resolve, invoke, builtin, Sem.run_bind, Sem.run_pure, Result.andThen_ok, List.map_toArray, List.map_cons, List.map_nil, hv]
theorem AeW (n : Nat) (hn : n ≤ 1000000) (w : World) : Calls Tryz.prog 290 #[.slice none 0 0, .int .i64 (n : Int)] w fun e w' => ∃ A cap, e = .returned (.slice A 0 cap) ∧ w'.ownsRow w.heap.size 85 2 (.slice A 0 cap) 0 [] ∧ Below w.heap.size w w' := by
 have h1 : ¬ ((n : Int) < 0) := by omega
 have h2 : wrap64 ((0 : Int) - 0) = 0 := by unfold wrap64; omega
 have h3 : wrap64 ((n : Int) - 0) = (n : Int) := by unfold wrap64; omega
 have h4 : IntKind.i64.wrap (n : Int) = (n : Int) := IntWalk.i64_in _ (by omega)
 by_cases h0 : n = 0
 · subst h0
   go_enter Tryz.func290, Tryz.ntmps290
   go_wp2
   go_ret
   exact ⟨_, _, rfl, World.ownsRow_nil _ _ _ _, Below.refl _ _⟩
 · have hp : (0 : Int) < (n : Int) := by omega
   obtain ⟨i0, hi0, hz0, hz1, hz2⟩ := info_parts AaM
   have hold : (Builtin.firstCells i0.size 0 (.slice none 0 0)).run Tryz.prog w.drew = .ok ([] : List Value).toArray w.drew := run_firstCells_none w.drew i0.size 0 0 0
   have hrz := fun ty => Lib.run_append_grow_zeros (P := Tryz.prog) w 23 3 ty 85 i0 _ .i64 .i64 Tryz.underlying23 Tryz.underlying3 hi0 hz0 none 0 0 [] hold n (by omega) (by rw [hz1]; omega) (by omega) (by omega) (by rw [hz2]; omega) (growslice_fits (by omega) (by rw [hz2]; omega))
   simp only [Nat.zero_add] at hrz
   have hG1 := grownCap_ge w n 0 85
   have hG2 := grownCap_le_maxLen w n 0 85 (by unfold maxLen; omega)
   generalize grownCap w n 0 85 = G at hrz hG1 hG2
   have hcs : ((([] : List Value).toArray ++ Builtin.zeroCells (Value.agg #[.int .i64 0, .int .i64 0]).cells n ++ Builtin.zeroCells (Value.agg #[.int .i64 0, .int .i64 0]).cells (G - n)) : Array Value).size = G * 2 := by
    simp only [Array.size_append, size_zeroCells]
    show 0 + n * 2 + (G - n) * 2 = G * 2
    omega
   generalize (([] : List Value).toArray ++ Builtin.zeroCells (Value.agg #[.int .i64 0, .int .i64 0]).cells n ++ Builtin.zeroCells (Value.agg #[.int .i64 0, .int .i64 0]).cells (G - n)) = cs at hrz hcs
   have Hrz := Lh hrz
   have hG3 : G ≤ 9223372036854775807 := by unfold maxLen at hG2; omega
   clear hrz hi0 hz0 hz1 hz2 hold h0
   go_enter Tryz.func290, Tryz.ntmps290
   go_wp2_with (at_builtin; refine Yy ?_)
   refine Stop.to ?_
   refine Zg rfl _ (Up rfl (Hrz.out _)) ?_
   have rn : Row (w.drew.alloc (.cells cs 85)) w.heap.size 85 cs := Row.new w.drew _ _
   have bn : Below w.heap.size w (w.drew.alloc (.cells cs 85)) := (⟨rfl, rfl, rfl, Nat.le_refl _, fun _ _ => rfl⟩ : Below w.heap.size w w.drew).trans ((Below.refl _ w.drew).alloc (Nat.le_refl _) _)
   generalize w.drew.alloc (.cells cs 85) = w1 at rn bn ⊢
   clear Hrz
   go_wp2
   go_ret
   exact ⟨_, _, rfl, ⟨by simp, .inr ⟨w.heap.size, G, cs, rfl, Nat.le_refl _, rn, Nat.zero_le _, hG2, hcs, by simp⟩⟩, bn⟩
structure PtV where
 addr : Option Addr
 cap : Nat
 body : List Nd
def PtV.val (q : PtV) : Value := .slice q.addr q.body.length q.cap
def PtV.rd (q : PtV) (w : World) : Prop := Rd w q.addr (q.body.flatMap Nd.cells) ∧ (q.addr = none → q.body = [])
def Q6 (ps : List PtV) : List Nd := ps.flatMap PtV.body
theorem PtV.rd.go {q : PtV} {w w' : World} (h : q.rd w) (b : Below w.heap.size w w') : q.rd w' := ⟨h.1.go b, h.2⟩
theorem ZQ (l : List Nd) : (l.flatMap Nd.cells).length = l.length * 2 := by
 induction l with
 | nil => rfl
 | cons a l ih => simp only [List.flatMap_cons, List.length_append, ih, List.length_cons]; simp [Nd.cells]; omega
theorem UR (l : List Nd) : ∀ u ∈ l.flatMap Nd.cells, u.oneCell' = true := by
 intro u hu
 simp only [List.mem_flatMap, Nd.cells, List.mem_cons, List.not_mem_nil, or_false] at hu
 obtain ⟨a, _, rfl | rfl⟩ := hu <;> rfl
theorem Ac4 {W : World} {B n m cap : Nat} {v : Value} {xs : List Value} {A : Option Addr} {l : List Nd} (hown : W.ownsRow B 85 2 v n xs) (hB : B ≤ W.heap.size) (hr : Rd W A (l.flatMap Nd.cells)) (hm : m = l.length) (hA : A = none → m = 0) (hb : n + m ≤ 1000000) :
 ∃ v' W', (Builtin.append_ #[23, 23] 23 #[v, .slice A m cap]).run Tryz.prog W = .ok v' W' ∧ W'.ownsRow B 85 2 v' (n + m) (xs ++ l.flatMap Nd.cells) ∧ W.grownBy W' v.ownBlock ∧ (v'.ownBlock = v.ownBlock ∨ v'.ownBlock = some W.heap.size) :=
 ZB 23 85 _ 2 16 Tryz.underlying23 AaM rfl (by decide) (by decide) hown hB hr (by rw [ZQ, hm]) (UR l) hA hb
theorem Zd {w : World} {base n size : Nat} {e : TypeId} {v : Value} {xs : List Value} (h : w.ownsRow base e size v n xs) : ∃ A cap, v = .slice A n cap := by
 rcases h.2 with ⟨rfl, h0⟩ | ⟨g, cap, cur, rfl, _⟩
 · subst h0; exact ⟨_, _, rfl⟩
 · exact ⟨_, _, rfl⟩
theorem UC {ps : List PtV} {k : Nat} {q : PtV} (h : ps[k]? = some q) : Q6 (ps.take (k + 1)) = Q6 (ps.take k) ++ q.body := by
 unfold Q6
 rw [List.take_add_one, h]
 simp
theorem Aak (ps : List PtV) (k : Nat) : (Q6 (ps.take k)).length ≤ (Q6 ps).length := by
 have : Q6 ps = Q6 (ps.take k) ++ Q6 (ps.drop k) := by
  unfold Q6
  rw [← List.flatMap_append, List.take_append_drop]
 rw [this]; simp
theorem Adg (A : Option Addr) (m cp : Nat) (ps : List PtV) (w : World) (hm : m = ps.length) (hr : Rd w A (ps.map PtV.val)) (hps : ∀ q ∈ ps, q.rd w) (hl : (Q6 ps).length ≤ 1000000) (hml : m ≤ 1000) :
 Calls Tryz.prog 269 #[.slice A m cp] w fun e w' => ∃ v, e = .returned v ∧ w'.ownsRow w.heap.size 85 2 v (Q6 ps).length ((Q6 ps).flatMap Nd.cells) ∧ Below w.heap.size w w' := by
 have Hr := Lh hr
 have Hps := Lh hps
 have Hm := Lh hm
 have hl' := hl
 clear hr hps hm
 go_enter Tryz.func269, Tryz.ntmps269
 go_wp2
 go_loopw [3, 11] (fun s i wr => ∃ k : Nat, i = .int .i64 (k : Int) ∧ s = .int .i64 ((Q6 (ps.take k)).length : Int) ∧ k ≤ m ∧ w = wr) (fun _ i _ => m - (intOf i).toNat)
 case atStart => exact ⟨0, rfl, by simp [Q6], Nat.zero_le _, rfl⟩
 case round =>
  obtain ⟨k, rfl, rfl, hk, rfl⟩ := hrel
  by_cases hlt : k < m
  · obtain ⟨q, hq⟩ : ∃ q, ps[k]? = some q := ⟨_, List.getElem?_eq_getElem (by have := Hm.out; omega)⟩
    obtain ⟨ad, rfl, hc⟩ := Hr.out k q.val (by simp [hq])
    have hkI : (k : Int) < (m : Int) := by omega
    have hs := UC hq
    have hle := Aak ps (k + 1)
    rw [hs, List.length_append] at hle
    have e1 : IntKind.i64.wrap (((Q6 (ps.take k)).length : Int) + (q.body.length : Int)) = ((Q6 (ps.take k)).length : Int) + (q.body.length : Int) := IntWalk.i64_in _ (by omega)
    have e2 : ¬ (((Q6 (ps.take k)).length : Int) + (q.body.length : Int) < 0) := by omega
    have ewk : IntKind.i64.wrap ((k : Int) + 1) = (k : Int) + 1 := IntWalk.i64_in _ (by omega)
    have Hs : Hid ((((Q6 (ps.take k)).length : Int) + (q.body.length : Int)) = ((Q6 (ps.take (k + 1))).length : Int)) := by show _ = _; rw [hs, List.length_append]; omega
    unfold PtV.val at hc
    clear hs hle hq
    generalize (Q6 (ps.take k)).length = sk at *
    go_wp2
    go_roundw
    case rel => exact ⟨k + 1, by go_num, by rw [← Hs.out], by omega, by trivial⟩
    case measure => simp [intOf]; omega
  · obtain rfl : k = m := by omega
    have ht : ps.take k = ps := by rw [Hm.out]; exact List.take_length
    rw [ht]
    obtain ⟨n, hn⟩ : ∃ n, n = (Q6 ps).length := ⟨_, rfl⟩
    have Hn := Lh hn
    rw [← hn] at hl ⊢
    clear hlt hk ht hn hl'
    go_wp2_with fail
    refine (AeW n hl w).mono ?_
    rintro e w1 ⟨A1, c1, rfl, hown, b1⟩
    have Hown := Lh hown
    have Hb1 := Lh b1
    clear hown b1
    go_wp2
    go_loopw [6, 27] (fun s i W => ∃ (k' : Nat) (v : Value), s = v ∧ i = .int .i64 (k' : Int) ∧ k' ≤ k ∧ Hid (W.ownsRow w.heap.size 85 2 v (Q6 (ps.take k')).length ((Q6 (ps.take k')).flatMap Nd.cells)) ∧ Hid (Below w.heap.size w W)) (fun _ i _ => k - (intOf i).toNat)
    case atStart => exact ⟨0, _, rfl, rfl, Nat.zero_le _, by simpa [Q6] using Hown, Hb1⟩
    case round =>
     clear Hown Hb1
     obtain ⟨j, v, rfl, rfl, hj, Hown, Hb⟩ := hrel
     by_cases hlt : j < k
     · obtain ⟨q, hq⟩ : ∃ q, ps[j]? = some q := ⟨_, List.getElem?_eq_getElem (by have := Hm.out; omega)⟩
       obtain ⟨ad, rfl, hc⟩ := (Hr.out.go Hb.out) j q.val (by simp [hq])
       have hqr := (Hps.out q (List.mem_of_getElem? hq)).go Hb.out
       have hjI : (j : Int) < (k : Int) := by omega
       have hs := UC hq
       have hle := Aak ps (j + 1)
       rw [hs, List.length_append, ← Hn.out] at hle
       have ewj : IntKind.i64.wrap ((j : Int) + 1) = (j : Int) + 1 := IntWalk.i64_in _ (by omega)
       obtain ⟨v2, W2, hrun, hown2, hgr, _⟩ := Ac4 (cap := q.cap) Hown.out Hb.out.size hqr.1 (rfl : q.body.length = q.body.length) (fun h => by rw [hqr.2 h]; rfl) (by omega)
       have b2 := Qm (Below.refl w.heap.size _) Hown.out hgr Hb.out.size (Nat.le_refl _)
       have Hown2 : Hid (W2.ownsRow w.heap.size 85 2 v2 (Q6 (ps.take (j + 1))).length ((Q6 (ps.take (j + 1))).flatMap Nd.cells)) := by
        show W2.ownsRow _ _ _ _ _ _
        rw [hs, List.length_append, List.flatMap_append]; exact hown2
       have Hb2 := Lh (Hb.out.trans b2)
       have Hrun := Lh hrun
       obtain ⟨A2, c2, rfl⟩ := Zd hown2
       obtain ⟨A3, c3, rfl⟩ := Zd Hown.out
       unfold PtV.val at hc
       clear hs hle hq hrun hown2 hgr b2 hqr Hown Hb
       go_wp2_with (at_builtin; refine Yy ?_)
       refine Stop.to ?_
       refine Zg rfl _ (Qq rfl Hrun.out) ?_
       clear Hrun hc
       go_wp2
       go_roundw
       case rel => exact ⟨j + 1, _, rfl, by go_num, by omega, Hown2, Hb2⟩
       case measure => simp [intOf]; omega
     · obtain rfl : j = k := by omega
       have ht : ps.take j = ps := by rw [Hm.out]; exact List.take_length
       rw [ht] at Hown
       obtain ⟨A3, c3, rfl⟩ := Zd Hown.out
       clear hlt hj ht
       go_wp2
       go_ret
       exact ⟨_, rfl, Hown.out, Hb.out⟩
end Go.Proofs.YtdcmppdhdcjpfaaGreat
namespace Go.Proofs.YtdcmppdhdcjpfaaGreat
open Go.ChangeShapes Go.WideShapes Go.RowKit Go.Deep
theorem Y9 : Tryz.prog.cellsOf 3 = 1 := by kernel_rfl
section
variable {H : Type} {enc : TypeId × Value → H} {w : World} {base : Nat} {spare : Nat → Bool} {held : Bool}
def RunV.val (r : RunV) : Value := .agg #[.int .i64 r.kind, .int .i64 r.value, .int .i64 r.steps, .slice r.addr r.evs.length r.cap]
structure RunV.ok (r : RunV) (w : World) : Prop where
 kind : InI r.kind
 value : InI r.value
 steps : InI r.steps
 len : r.evs.length ≤ r.cap
 cap : r.cap ≤ maxLen
 nil : r.addr = none → r.cap = 0
 reads : Rd w r.addr (r.evs.flatMap EvV.cells)
 evs : ∀ e ∈ r.evs, e.ok
end
end Go.Proofs.YtdcmppdhdcjpfaaGreat
namespace Go.Proofs.YtdcmppdhdcjpfaaGreat
open Go.RowKit Go.Deep
theorem Vk : ∀ (l : List EvV) (k : Nat) (e : EvV), l[k]? = some e → ∀ j u, e.cells[j]? = some u → (l.flatMap EvV.cells)[k * 3 + j]? = some u
 | [], k, e, h, _, _, _ => by simp at h
 | a :: l, 0, e, h, j, u, hj => by
  simp at h; subst h
  have hl : j < a.cells.length := (List.getElem?_eq_some_iff.1 hj).1
  simp only [List.flatMap_cons]
  rw [List.getElem?_append_left (by omega)]
  simpa using hj
 | a :: l, k + 1, e, h, j, u, hj => by
  simp only [List.flatMap_cons]
  rw [List.getElem?_append_right (by simp [EvV.cells]; omega)]
  have := Vk l k e (by simpa using h) j u hj
  rw [← this]; congr 1; simp [EvV.cells]; omega
theorem Jf {P : Program} {ops : Array Oper} {S : World → Prop} {Q : Act → Prop} {a : Act} {o : Oper} {rest : List Oper} (hw : Region.wanted o (yielded ops a.tmps) = true) (ty : TypeId) (x : Operand) (ho : o.op = .load ty x) (ad : Addr) (hx : a.eval x = .pointer (some ad)) (cs : List Value) (d : TypeDesc)
 (hr : ∀ W, S W → ∀ j v, cs[j]? = some v → W.cell? (ad.add j) = some v) (hu : P.underlying ty = some d) (hd : (match d with | .struct _ | .array _ _ => true | _ => false) = true) (hi : (P.info? ty).map (·.size) = some cs.length)
 (h : ZI P ops S Q rest (a.put o.dst (.agg cs.toArray))) : ZI P ops S Q (o :: rest) a :=
 Qg hw (.agg cs.toArray) (fun W hW => by
  simp only [execOp, ho, hx, Instr.loadAt, Instr.sureAddr, Sem.run_bind, Sem.run_pure, Result.andThen_ok, JN W ad ty cs d (hr W hW) hu hd hi]) h
theorem XV {P : Program} {o : Oper} {w : World} {ρ : Operand → Value} {b : BinOp} {t t' : TypeId} {x y : Operand} (ho : o.op = .binOp b t x y t') (v : Value) (hg : (eqGuard b t x y (ρ x) (ρ y)).run P w = .ok () w) (hv : (binOp b t (ρ x) (ρ y)).run P w = .ok v w) : (execOp ρ o).run P w = .ok (.value v) w := by
 simp only [execOp, ho, Sem.run_bind, hg, hv, Result.andThen_ok, Sem.run_pure]
end Go.Proofs.YtdcmppdhdcjpfaaGreat
namespace Go.Proofs.YtdcmppdhdcjpfaaGreat
open Go.RowKit
section
variable {P : Program} {ops : Array Oper} {rest : List Oper} {o : Oper} {a : Act} {w : World} {Q : Exit → Act → World → Prop}
theorem AcV (S : World → Prop) (hS : S w) : ∀ (n : Nat) (l : List Oper) (a : Act) (w : World), S w → ZI P ops S (fun a' => ∀ W, S W → wpList P ops Q (l.drop n) a' W) (l.take n) a → wpList P ops Q l a w := by
 intro n
 induction n with
 | zero => intro l a w hS h; exact h w hS
 | succ n ih =>
  intro l a w hS h
  cases l with
  | nil => exact h w hS
  | cons o l =>
   obtain ⟨v, hy, hh⟩ := h
   refine wpList_step fun K hK => ?_
   rcases hy with ⟨hw, hv⟩ | ⟨hw, rfl⟩
   · rw [if_pos hw]
     have h1 := hv w hS
     unfold Oper.wp
     generalize (execOp a.eval o).run P w = r at h1
     cases r with
     | ok n' w' =>
      cases n' <;> simp only [XM] at h1 <;> simp only [Oper.upon]
      case value u => obtain ⟨rfl, h2⟩ := h1; exact hK _ _ (ih l _ _ h2 hh)
      case skip => obtain ⟨rfl, h2⟩ := h1; exact hK _ _ (ih l _ _ h2 hh)
      case enter f args => exact h1.mono fun e w'' ⟨he, hs⟩ => by subst he; exact hK _ _ (ih l _ _ hs hh)
     | halt x w' => simp only [XM] at h1
   · rw [if_neg (by rw [hw]; simp)]
     exact hK _ _ (ih l _ _ hS hh)
theorem Abm (S : World → Prop) (n : Nat) {l : List Oper} (hS : S w) (h : ZI P ops S (fun a' => ∀ W, S W → wpList P ops Q (l.drop n) a' W) (l.take n) a) : wpList P ops Q l a w := AcV S hS n l a w hS h
theorem Ag9 (ty : TypeId) (x : Operand) (_ : o.op = .load ty x) (h : Stop (wpList P ops Q (o :: rest) a w) id) : wpList P ops Q (o :: rest) a w := h.out
theorem Zp (t : TypeId) (n : Nat) (ps : Array (Nat × Operand)) (_ : o.op = .buildSlice t n ps) (h : Stop (wpList P ops Q (o :: rest) a w) id) : wpList P ops Q (o :: rest) a w := h.out
theorem Qu (hw : Region.wanted o (yielded ops a.tmps) = true) (t : TypeId) (n : Nat) (ps : Array (Nat × Operand)) (ho : o.op = .buildSlice t n ps) (e : TypeId) (cells : Array Value)
 (hx : ∀ W, (Instr.buildSlice t n (ps.map fun (i, x) => (i, a.eval x))).run P W = .ok (.slice (some ⟨W.heap.size, 0, none⟩) n n) (W.alloc (.cells cells e)))
 (h : ∀ g w', w.heap.size ≤ g → Row w' g e cells → Below g w w' → wpList P ops Q rest (a.put o.dst (.slice (some ⟨g, 0, none⟩) n n)) w') : wpList P ops Q (o :: rest) a w := by
 refine BigFrame.wpList_want hw fun K hK => ?_
 unfold Oper.wp execOp
 simp only [ho, Sem.run_bind, hx, Result.andThen_ok, Sem.run_pure]
 exact hK _ _ (h _ _ (Nat.le_refl _) (Row.new _ _ _) ((Below.refl _ _).alloc (Nat.le_refl _) _))
theorem ZH {t e : TypeId} {n sz : Nat} {z : Value} {parts : Array (Nat × Value)} {cells : Array Value} (hu : P.underlying t = some (.slice e)) (hi : (P.info? e).map (fun i => (i.zero, i.size)) = some (some z, sz)) (h1 : n * sz ≤ 2 ^ 24) (h2 : n * sz ≠ 0)
 (hf : Instr.fill (fun i => some (i * sz, sz)) ((Array.range (n * sz)).map (z.cells[· % z.cells.size]!)) parts.toList = some cells) : ∀ W, (Instr.buildSlice t n parts).run P W = .ok (.slice (some ⟨W.heap.size, 0, none⟩) n n) (W.alloc (.cells cells e)) := by
 intro W
 cases hq : P.info? e with
 | none => rw [hq] at hi; cases hi
 | some ie =>
  rw [hq] at hi
  simp only [Option.map_some, Option.some.injEq, Prod.mk.injEq] at hi
  obtain ⟨hz, rfl⟩ := hi
  exact run_buildSlice W t e n parts cells ie z hu hq hz (by omega) h2 hf
end
end Go.Proofs.YtdcmppdhdcjpfaaGreat
