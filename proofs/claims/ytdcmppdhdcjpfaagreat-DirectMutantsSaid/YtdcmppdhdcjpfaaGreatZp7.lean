/- Lemmas for DirectMutantsP. -/
import Derived.Test.YtdcmppdhdcjpfaaGreatZp6
import Derived.Test.YtdcmppdhdcjpfaaGreatZp4
import Derived.Test.YtdcmppdhdcjpfaaGreatZp3
import Derived.Test.YtdcmppdhdcjpfaaGreatZp1
import Derived.Test.YtdcmppdhdcjpfaaGreatZp2
set_option linter.unusedVariables false
set_option linter.unusedSimpArgs false
set_option maxRecDepth 100000
set_option maxHeartbeats 16000000
namespace Go.Proofs.YtdcmppdhdcjpfaaGreat
open Go.RowKit Go.Deep
theorem RS.rb {w W : World} {M : Nat} {D : List Int} (h : RS w W M D) (hD : ∀ k, k ∈ D ↔ (1 ≤ k ∧ k ≤ 26 ∧ k ≠ 20)) : RB M W := by
 obtain ⟨es, h1, h2, h3⟩ := h.map
 subst h2
 exact ⟨es, h1, h3, hD⟩
theorem E4 (p : PgV) (hbl : p.body.length ≤ 1000) (t : Tr) (q : Nat) (hat : At p.body q t) (w : World) (hok : p.ok w) : Calls Tryz.prog 66 #[.agg p.cells, .int .i64 (q : Int)] w fun e w' => e = .returned (.int .i64 (ofT p.V t)) ∧ Below w.heap.size w w' := by
 have Hbl := Lh hbl
 have Hat := Lh hat
 have Hok := Lh hok
 have Hend : Hid (endZ p.body (q : Int) = ((q + t.size : Nat) : Int)) := hat.endZ
 have hpos0 : 0 ≤ ((q + t.size : Nat) : Int) := by omega
 clear hbl hat hok
 go_enter Tryz.func66, Tryz.ntmps66
 go_wp2_with (refine Qq _ _ rfl ?_)
 refine Stop.to ?_
 refine Qe rfl 25 _ rfl p.cells rfl ?_
 intro G w1 hG r1 b1
 have b1 := (Below.refl w.heap.size w).trans (b1.mono hG)
 have c2 := r1.cellv (i := 2) (v := .slice p.ba p.body.length p.bcap) rfl
 have Hok1 := Lh (Hok.out.go b1)
 clear hG Hok
 go_wp2_with fail
 refine (Jc p.ba p.bcap p.body (q : Int) w1 Hok1.out.brd Hbl.out).mono ?_
 rintro e w2 ⟨rfl, b2⟩
 rw [Hend.out]
 obtain ⟨S, hSd⟩ : ∃ S, S = (fun W => Row W G 25 p.cells ∧ p.ok W ∧ Below w.heap.size w W) := ⟨_, rfl⟩
 have stS : St S := by rw [hSd]; infer_instance
 have S0 : Hid (∀ W, S W → Row W G 25 p.cells) := by show ∀ W, _; rw [hSd]; exact fun W h => h.1
 have S1 : Hid (∀ W, S W → p.ok W) := by show ∀ W, _; rw [hSd]; exact fun W h => h.2.1
 have S2 : Hid (∀ W, S W → Below w.heap.size w W) := by show ∀ W, _; rw [hSd]; exact fun W h => h.2.2
 have hS2 : S w2 := by rw [hSd]; exact ⟨r1.below b2 r1.lt, Hok1.out.go b2, b1.trans (b2.mono b1.size)⟩
 clear hSd r1 b1 b2 c2 Hok1
 go_wp2_with fail
 refine wp_region_held (S := S) (by kernel_rfl) ?_
 simp only [List.size_toArray, List.length_cons, List.length_nil, Nat.reduceAdd, Array.replicate_succ, Array.replicate_zero, List.push_toArray, List.nil_append, List.cons_append]
 show wpAnyH _ _ _ _ _ _ _ _ w2.drew
 have hS : S w2.drew := St.drew hS2
 clear hS2
 generalize w2.drew = wd at hS ⊢
 (refine tkH 0 _ rfl (Xc rfl 25 _ rfl G rfl 25 p.cells _ S0.out Tryz.underlying25 rfl (by kernel_rfl)) ?_; simp only [Act.put, Qa, Qb, Qc])
 (refine tkH 3 (.int .i64 (q : Int)) rfl (Qd rfl (fun W hW => by (go_simp))) ?_; simp only [Act.put, Qa, Qb, Qc])
 (refine wpAnyH_all (rs := [1]) (by kernel_rfl) (by simp) (fun i hi => ?_); obtain rfl : i = 1 := by simpa using hi)
 refine Qf rfl rfl (fun K2 hK2 => ?_)
 refine QB (w1 := wd) 127 #[] (by go_simp; try rfl) ?_
 refine (AcF wd).mono ?_
 rintro e wr ⟨M, D, rfl, hrs, hD⟩
 refine ⟨_, rfl, hK2 _ _ ?_⟩
 clear hK2 K2
 have hS := stS.go hS hrs.below
 have hrb := hrs.rb hD
 have Hrb := Lh hrb
 clear hrb hrs hD
 simp only [Act.put, Qa, Qb, Qc]
 refine ⟨hS, ?_⟩
 (refine tkH 2 (.agg (JV p M)) rfl (Qd rfl (fun W hW => by (go_simp; try rfl))) ?_; simp only [Act.put, Qa, Qb, Qc])
 (refine wpAnyH_all (rs := [4]) (by kernel_rfl) (by simp) (fun i hi => ?_); obtain rfl : i = 4 := by simpa using hi)
 refine Qf rfl rfl (fun K2 hK2 => ?_)
 refine QB (w1 := wr) 128 #[.agg (JV p M), .int .i64 (q : Int)] (by go_simp; try rfl) ?_
 refine (Afi p M Hbl.out t.size t q (Nat.le_refl _) Hat.out wr (S1.out _ hS) Hrb.out).mono ?_
 rintro e w6 ⟨rfl, b6⟩
 refine ⟨_, rfl, hK2 _ _ ?_⟩
 clear hK2 K2
 have hS := stS.go hS b6
 simp only [Act.put, Qa, Qb, Qc]
 refine ⟨hS, ?_⟩
 (refine tkH 5 (.int .i64 (ofT p.V t)) rfl (Qd rfl (fun W hW => by (go_simp))) ?_; simp only [Act.put, Qa, Qb, Qc])
 refine wpAnyH_done (by kernel_rfl) ?_ _
 go_wp2
 go_ret
 exact ⟨rfl, S2.out _ hS⟩
structure Good (p : PgV) (t : Tr) : Prop where
 hat : At p.body 0 t
 size : t.size = p.body.length
 vars : Kj p.params p.V
 tag : t.root.tag = 20
 kind : ofT p.V t = 2
open Classical in
noncomputable def QW (p : PgV) (n : Nat) (fuel : Int) : Int := if ∃ t, Good p t then (if (n : Int) ≠ p.params then 18 else if fuel < 0 ∨ 10000 < fuel then 19 else 0) else 23
theorem Kd {p : PgV} {n : Nat} {fuel : Int} (h : ∀ t, ¬ Good p t) : QW p n fuel = 23 := by unfold QW; rw [if_neg (fun ⟨t, ht⟩ => h t ht)]
theorem Z7 {p : PgV} {n : Nat} {fuel : Int} {t : Tr} (h : Good p t) : QW p n fuel = if (n : Int) ≠ p.params then 18 else if fuel < 0 ∨ 10000 < fuel then 19 else 0 := by unfold QW; rw [if_pos ⟨t, h⟩]
theorem At.uniq {l : List Nd} {q : Nat} {a b : Tr} (ha : At l q a) (hb : At l q b) : a = b := by
 have key : ∀ n, (∀ (a b : Tr) (r s : List Nd), a.size ≤ n → a.fits → b.fits → a.flat ++ r = b.flat ++ s → a = b) ∧ (∀ (ls ms : List Tr) (r s : List Nd), (QF ls).length ≤ n → ls.length = ms.length → (∀ t ∈ ls, t.fits) → (∀ t ∈ ms, t.fits) → QF ls ++ r = QF ms ++ s → ls = ms) := by
  intro n
  induction n with
  | zero =>
   refine ⟨fun a b r s h => by have := a.size_eq; omega, fun ls ms r s h hl _ _ _ => ?_⟩
   cases ls with
   | nil => exact (List.eq_nil_of_length_eq_zero (by simpa using hl.symm)).symm
   | cons t ts => rw [QF, List.length_append] at h; have := t.size_eq; have hsz : t.size = t.flat.length := rfl; omega
  | succ n ih =>
   have one : ∀ (a b : Tr) (r s : List Nd), a.size ≤ n + 1 → a.fits → b.fits → a.flat ++ r = b.flat ++ s → a = b := by
    rintro ⟨x, ks⟩ ⟨y, js⟩ r s h fa fb e
    have e' := e
    rw [Tr.flat_eq, Tr.flat_eq, List.cons_append, List.cons_append] at e'
    injection e' with e1 e2
    simp only [Tr.root, Tr.kids] at e1 e2
    subst e1
    have hl : ks.length = js.length := by
     have h1 := fa.arity
     have h2 := fb.arity
     simp only [Tr.root, Tr.kids] at h1 h2
     omega
    have h4 := (Tr.node x ks).size_eq
    simp only [Tr.kids] at h4
    rw [ih.2 ks js r s (by omega) hl fa.kid fb.kid e2]
   refine ⟨one, fun ls ms => ?_⟩
   induction ls generalizing ms with
   | nil => intro r s _ hl _ _ _; exact (List.eq_nil_of_length_eq_zero (by simpa using hl.symm)).symm
   | cons t ts iht =>
    intro r s h hl fa fb e
    cases ms with
    | nil => simp at hl
    | cons u us =>
     rw [QF, QF, List.append_assoc, List.append_assoc] at e
     rw [QF, List.length_append] at h
     have ht : t = u := one t u _ _ (by unfold Tr.size; omega) (fa t (by simp)) (fb u (by simp)) e
     subst ht
     rw [iht us r s (by omega) (by simpa using hl) (fun k hk => fa k (by simp [hk])) (fun k hk => fb k (by simp [hk])) (List.append_cancel_left e)]
 obtain ⟨r, hr⟩ := ha.here
 obtain ⟨s, hs⟩ := hb.here
 exact (key a.size).1 a b r s (Nat.le_refl _) ha.fits hb.fits (by rw [← hr, hs])
theorem JY {p : PgV} {t : Tr} (hat : At p.body 0 t) (h : ¬ (t.root.tag = 20 ∧ ofT p.V t = 2)) : ∀ t', ¬ Good p t' := fun t' g => by
 have := hat.uniq g.hat
 subst this
 exact h ⟨g.tag, g.kind⟩
theorem Vl {p : PgV} (h : Jy p.params p.V ≠ 0) : ∀ t', ¬ Good p t' := fun t' g => h (by unfold Jy; rw [if_pos g.vars])
theorem EM {p : PgV} (h : endZ p.body 0 ≠ (p.body.length : Int)) : ∀ t', ¬ Good p t' := fun t' g => h (by
 have := g.hat.endZ
 rw [g.size, Nat.zero_add] at this
 exact this)
theorem Et {p : PgV} (h : p.body.length = 0) : ∀ t', ¬ Good p t' := fun t' g => by have := g.hat.lt; omega
theorem Xo (a : Int) (V : List Int) : Jy a V = 0 ∧ Kj a V ∨ Jy a V = 14 := by
 unfold Jy
 by_cases h : Kj a V
 · rw [if_pos h]; exact .inl ⟨rfl, h⟩
 · rw [if_neg h]; exact .inr rfl
theorem JS (p : PgV) (aa : Option Addr) (acap n : Nat) (fuel : Int) (hbl : p.body.length ≤ 1000) (hn : n ≤ 1000) (w : World) (hok : p.ok w) : Calls Tryz.prog 22 #[.agg p.cells, .slice aa n acap, .int .i64 fuel] w fun e w' => e = .returned (.int .i64 (QW p n fuel)) ∧ Below w.heap.size w w' := by
 have Hbl := Lh hbl
 have Hok := Lh hok
 clear hbl hok
 go_enter Tryz.func22, Tryz.ntmps22
 go_wp2_with (refine Qq _ _ rfl ?_)
 refine Stop.to ?_
 refine Qe rfl 25 _ rfl p.cells rfl ?_
 intro G w1 hG r1 b1
 have b1 := (Below.refl w.heap.size w).trans (b1.mono hG)
 obtain ⟨S, hSd⟩ : ∃ S, S = (fun W => Row W G 25 p.cells ∧ p.ok W ∧ Below w.heap.size w W) := ⟨_, rfl⟩
 have stS : St S := by rw [hSd]; infer_instance
 have s0 : ∀ W, S W → Row W G 25 p.cells := by rw [hSd]; exact fun W h => h.1
 have S1 : Hid (∀ W, S W → p.ok W) := by show ∀ W, _; rw [hSd]; exact fun W h => h.2.1
 have S2 : Hid (∀ W, S W → Below w.heap.size w W) := by show ∀ W, _; rw [hSd]; exact fun W h => h.2.2
 have hS : S w1 := by rw [hSd]; exact ⟨r1, Hok.out.go b1, b1⟩
 have S0 := Lh s0
 clear hSd r1 b1 hG Hok s0
 go_wp2_with fail
 refine ZR S (by kernel_rfl) (by kernel_rfl) (St.drew hS) ?_
 clear hS
 (refine Zr rfl 25 _ rfl (G) rfl 25 _ _ S0.out Tryz.underlying25 rfl (by kernel_rfl) ?_; simp only [Act.put, Qa, Qb, Qc])
 (refine Q0 rfl 64 _ (fun W => by (go_simp; try rfl)) _ (fun W hW => Aas p W (S1.out _ hW)) ?_; simp only [Act.put, Qa, Qb, Qc])
 have hve := Xo p.params p.V
 generalize hve0 : Jy p.params p.V = ve at hve
 have Hve := Lh hve0
 clear hve0
 rcases hve with ⟨rfl, hvok⟩ | rfl
 rotate_left
 · have hz := Lh (Kd (n := n) (fuel := fuel) (Vl (p := p) (by rw [Hve.out]; omega)))
   iterate 2 (refine Qh rfl ?_ (fun W hW => ?_) ?_; rotate_left; (focus (go_simp; exact rfl)); simp only [Act.put, Qa, Qb, Qc])
   iterate 4 (refine Yv rfl ?_; simp only [Act.put, Qa, Qb, Qc])
   iterate 2 (refine Qh rfl ?_ (fun W hW => ?_) ?_; rotate_left; (focus (go_simp; exact rfl)); simp only [Act.put, Qa, Qb, Qc])
   iterate 7 (refine Yv rfl ?_; simp only [Act.put, Qa, Qb, Qc])
   iterate 2 (refine Qh rfl ?_ (fun W hW => ?_) ?_; rotate_left; (focus (go_simp; exact rfl)); simp only [Act.put, Qa, Qb, Qc])
   refine QJ fun W hW => ?_
   go_wp2
   go_ret
   exact ⟨QD hz.out, S2.out _ hW⟩
 have Hvok := Lh hvok
 clear hvok
 by_cases hl : p.body.length = 0
 · have hz := Lh (Kd (n := n) (fuel := fuel) (Et hl))
   have hl' : ((p.body.length : Int) == 0) = true := by simp [hl]
   clear hl
   iterate 3 (refine Qh rfl ?_ (fun W hW => ?_) ?_; rotate_left; (focus (go_simp; exact rfl)); simp only [Act.put, Qa, Qb, Qc])
   (refine Qh rfl ?_ (fun W hW => ?_) ?_; rotate_left; (focus (have c := (S0.out _ hW).cellv (i := 2) (v := .slice p.ba p.body.length p.bcap) rfl; go_simp; exact rfl)); simp only [Act.put, Qa, Qb, Qc])
   iterate 4 (refine Qh rfl ?_ (fun W hW => ?_) ?_; rotate_left; (focus (go_simp; exact rfl)); simp only [Act.put, Qa, Qb, Qc])
   iterate 7 (refine Yv rfl ?_; simp only [Act.put, Qa, Qb, Qc])
   iterate 2 (refine Qh rfl ?_ (fun W hW => ?_) ?_; rotate_left; (focus (go_simp; exact rfl)); simp only [Act.put, Qa, Qb, Qc])
   refine QJ fun W hW => ?_
   go_wp2
   go_ret
   exact ⟨QD hz.out, S2.out _ hW⟩
 have hl' : ((p.body.length : Int) == 0) = false := by simpa using hl
 have Hl := Lh hl
 clear hl
 iterate 3 (refine Qh rfl ?_ (fun W hW => ?_) ?_; rotate_left; (focus (go_simp; exact rfl)); simp only [Act.put, Qa, Qb, Qc])
 (refine Qh rfl ?_ (fun W hW => ?_) ?_; rotate_left; (focus (have c := (S0.out _ hW).cellv (i := 2) (v := .slice p.ba p.body.length p.bcap) rfl; go_simp; exact rfl)); simp only [Act.put, Qa, Qb, Qc])
 iterate 5 (refine Qh rfl ?_ (fun W hW => ?_) ?_; rotate_left; (focus (go_simp; exact rfl)); simp only [Act.put, Qa, Qb, Qc])
 (refine Qh rfl ?_ (fun W hW => ?_) ?_; rotate_left; (focus (have c := (S0.out _ hW).cellv (i := 2) (v := .slice p.ba p.body.length p.bcap) rfl; go_simp; exact rfl)); simp only [Act.put, Qa, Qb, Qc])
 (refine Q0 rfl 65 _ (fun W => by (go_simp; try rfl)) _ (fun W hW => Jc p.ba p.bcap p.body 0 W (S1.out _ hW).brd Hbl.out) ?_; simp only [Act.put, Qa, Qb, Qc])
 iterate 1 (refine Qh rfl ?_ (fun W hW => ?_) ?_; rotate_left; (focus (go_simp; exact rfl)); simp only [Act.put, Qa, Qb, Qc])
 (refine Qh rfl ?_ (fun W hW => ?_) ?_; rotate_left; (focus (have c := (S0.out _ hW).cellv (i := 2) (v := .slice p.ba p.body.length p.bcap) rfl; go_simp; exact rfl)); simp only [Act.put, Qa, Qb, Qc])
 iterate 1 (refine Qh rfl ?_ (fun W hW => ?_) ?_; rotate_left; (focus (go_simp; exact rfl)); simp only [Act.put, Qa, Qb, Qc])
 by_cases he : endZ p.body 0 = (p.body.length : Int)
 rotate_left
 · have hz := Lh (Kd (n := n) (fuel := fuel) (EM he))
   have he' : (endZ p.body 0 != (p.body.length : Int)) = true := by simpa using he
   clear he
   iterate 3 (refine Qh rfl ?_ (fun W hW => ?_) ?_; rotate_left; (focus (go_simp; exact rfl)); simp only [Act.put, Qa, Qb, Qc])
   refine QJ fun W hW => ?_
   go_wp2
   go_ret
   exact ⟨QD hz.out, S2.out _ hW⟩
 have he' : (endZ p.body 0 != (p.body.length : Int)) = false := by simp [he]
 have He := Lh he
 clear he
 iterate 3 (refine Qh rfl ?_ (fun W hW => ?_) ?_; rotate_left; (focus (go_simp; exact rfl)); simp only [Act.put, Qa, Qb, Qc])
 refine QJ fun W hW => ?_
 obtain ⟨t, hat, _⟩ := XX (l := p.body) (a := 0) (by rw [He.out]; omega)
 have hat : At p.body 0 t := hat
 have hsz : t.size = p.body.length := by have h1 := hat.endZ; have h2 := He.out; simp only [Nat.zero_add] at h1; have h3 : endZ p.body 0 = (t.size : Int) := h1; omega
 have Hat := Lh hat
 have Hsz := Lh hsz
 have c2 := (S0.out _ hW).cellv (i := 2) (v := .slice p.ba p.body.length p.bcap) rfl
 obtain ⟨bd, hbd, hcx⟩ := QS (S1.out _ hW).brd (k := 0) hat.root
 have hc0 := hcx 0 (.int .i64 t.root.tag) rfl
 rw [show (bd.add (0 * 2)).add 0 = bd by rw [JG]; simp [Addr.add]] at hc0
 rw [hbd] at c2
 have hlpos : (0 : Int) < (p.body.length : Int) := by have := Hl.out; omega
 have hlpos' : 0 < p.body.length := by omega
 clear hcx hbd hat hsz
 by_cases ht : t.root.tag = 20
 rotate_left
 · have hz := Lh (Kd (n := n) (fuel := fuel) (JY Hat.out (fun h => ht h.1)))
   have ht' : (t.root.tag != 20) = true := by simpa using ht
   clear ht
   go_wp2
   go_ret
   exact ⟨QD hz.out, S2.out _ hW⟩
 have ht' : (t.root.tag != 20) = false := by simp [ht]
 have Ht := Lh ht
 clear ht
 go_wp2_with (refine ZA rfl 25 _ rfl G rfl 25 p.cells (0, 0) _ (S0.out _ hW) Tryz.underlying25 rfl (by kernel_rfl) ?_)
 refine (E4 p Hbl.out t 0 Hat.out W (S1.out _ hW)).mono ?_
 rintro e W2 ⟨rfl, b2⟩
 have hW2 := stS.go hW b2
 clear c2 hc0 b2 hW
 by_cases hk : ofT p.V t = 2
 rotate_left
 · have hz := Lh (Kd (n := n) (fuel := fuel) (JY Hat.out (fun h => hk h.2)))
   have hk' : (ofT p.V t != 2) = true := by simpa using hk
   clear hk
   go_wp2
   go_ret
   exact ⟨QD hz.out, S2.out _ hW2⟩
 have hk' : (ofT p.V t != 2) = false := by simp [hk]
 have hz := Lh (Z7 (n := n) (fuel := fuel) (⟨Hat.out, Hsz.out, Hvok.out, Ht.out, hk⟩ : Good p t))
 have c0 := (S0.out _ hW2).cellv (i := 0) (v := .int .i64 p.params) rfl
 clear hk
 by_cases hp : (n : Int) = p.params
 rotate_left
 · have hp' : ((n : Int) != p.params) = true := by simpa using hp
   have Hp := Lh hp
   clear hp
   go_wp2
   go_ret
   exact ⟨QD (by rw [hz.out, if_pos Hp.out]), S2.out _ hW2⟩
 have hp' : ((n : Int) != p.params) = false := by simp [hp]
 have Hp := Lh hp
 clear hp
 by_cases hf : fuel < 0
 · go_wp2
   go_ret
   exact ⟨QD (by rw [hz.out, if_neg (fun h => h Hp.out), if_pos (.inl hf)]), S2.out _ hW2⟩
 have hf0 : 0 ≤ fuel := by omega
 by_cases hf2 : 10000 < fuel
 · clear hf
   go_wp2
   go_ret
   exact ⟨QD (by rw [hz.out, if_neg (fun h => h Hp.out), if_pos (.inr hf2)]), S2.out _ hW2⟩
 have hf3 : fuel ≤ 10000 := by omega
 clear hf hf2
 go_wp2
 go_ret
 exact ⟨QD (by rw [hz.out, if_neg (fun h => h Hp.out), if_neg (by omega)]), S2.out _ hW2⟩
def fnV (f : Nat) : Value := .func (.func f) #[] #[]
def Kv : List (Int × Value) := [(7, fnV 194), (8, fnV 195), (9, fnV 196), (12, fnV 197), (13, fnV 199), (14, fnV 200),
 (15, fnV 201), (16, fnV 202), (17, fnV 203), (10, fnV 204), (11, fnV 205)]
structure Lay where
 p : PgV
 M : Nat
 ka : Option Addr
 kcap : Nat
 vv : Value
 aa : Option Addr
 acap : Nat
 ab : List Nat
 PB : Nat
 F : Nat
 b0 : Nat
 b1 : Nat
 Im : World → Prop
structure FrV where
 f : Fr
 v : Value
def FrV.cells (x : FrV) : List Value := [.int .i64 (x.f.at_ : Int), .int .i64 (x.f.kid : Int), x.v]
def Lay.cells (L : Lay) (s : Ms) (sv ev : Value) : Array Value :=
 #[.int .i64 L.p.params, .slice L.p.va L.p.V.length L.p.vcap, .slice L.p.ba L.p.body.length L.p.bcap, .slice L.ka L.p.body.length L.kcap, L.vv, .slice L.aa L.ab.length L.acap, .int .i64 (L.F : Int), sv,
  .int .i64 (s.out.getD (0, 0)).1, .int .i64 (s.out.getD (0, 0)).2, .int .i64 (s.steps : Int), ev, .bool s.out.isSome, .map (some L.PB)]
structure Chg (L : Lay) (W W' : World) : Prop where
 os : W'.os = W.os
 tape : W'.tape = W.tape
 output : W'.output = W.output
 size : W.heap.size ≤ W'.heap.size
 block : ∀ k, k < L.b1 → k ≠ L.M → L.vv.ownBlock ≠ some k → k ∉ L.ab → W'.heap[k]? = W.heap[k]?
theorem Chg.refl (L : Lay) (W : World) : Chg L W W := ⟨rfl, rfl, rfl, Nat.le_refl _, fun _ _ _ _ _ => rfl⟩
theorem Chg.trans {L : Lay} {A B C : World} (h : Chg L A B) (k : Chg L B C) : Chg L A C :=
 ⟨k.os.trans h.os, k.tape.trans h.tape, k.output.trans h.output, Nat.le_trans h.size k.size, fun i h1 h2 h3 h4 => (k.block i h1 h2 h3 h4).trans (h.block i h1 h2 h3 h4)⟩
theorem Chg.only {L : Lay} {A B : World} {g : Nat} (o : Only g A B) (h : L.b1 ≤ g ∨ g = L.M ∨ L.vv.ownBlock = some g ∨ g ∈ L.ab) : Chg L A B :=
 ⟨o.os, o.tape, o.output, Nat.le_of_eq o.size.symm, fun k h1 h2 h3 h4 => o.block k (fun e => by subst e; rcases h with h | h | h | h; omega; exact h2 h; exact h3 h; exact h4 h)⟩
theorem Chg.below {L : Lay} {A B : World} (b : Below L.b1 A B) : Chg L A B := ⟨b.os, b.tape, b.output, b.size, fun k h1 _ _ _ => b.block k h1⟩
theorem Chg.grown {L : Lay} {A B : World} {g : Option Nat} (h : A.grownBy B g) (hs : L.b1 ≤ A.heap.size) (hg : ∀ k, g = some k → L.b1 ≤ k) : Chg L A B :=
 ⟨h.os, h.tape, h.output, h.size, fun k h1 _ _ _ => h.block k (by omega) (fun e => by have := hg k e.symm; omega)⟩
structure MC (L : Lay) (s : Ms) (fs : List FrV) (ev : Value) (W : World) : Prop where
 evs : W.ownsRow L.b1 189 3 ev s.evs.length (s.evs.flatMap EvV.cells)
 vals : W.ownsRow L.b0 3 1 L.vv s.vals.length (Qg s.vals)
 arrs : ∀ (i g : Nat) (a : List Int), L.ab[i]? = some g → s.arrs[i]? = some a → Row W g 3 (Qg a).toArray
 fr : ∀ x ∈ fs, W.ownsRow L.b1 3 1 x.v x.f.vals.length (Qg x.f.vals)
 dist : fs.Pairwise fun x y => x.v.ownBlock = none ∨ x.v.ownBlock ≠ y.v.ownBlock
 im : L.Im W
 size : L.b1 ≤ W.heap.size
 sum : s.steps + s.fuel = L.F
 few : s.evs.length + fs.length ≤ s.steps
structure MR (L : Lay) (s : Ms) (fs : List FrV) (sv ev : Value) (W : World) : Prop where
 row : Row W L.M 125 (L.cells s sv ev)
 stack : W.ownsRow L.b1 128 3 sv fs.length (fs.reverse.flatMap FrV.cells)
 core : MC L s fs ev W
structure LOk0 (L : Lay) : Prop where
 im : ∀ W W', L.Im W → Chg L W W' → L.Im W'
 lt : L.M < L.b1
 vlt : ∀ g, L.vv.ownBlock = some g → g < L.b1 ∧ g ≠ L.M ∧ g ∉ L.ab
 alt : ∀ g ∈ L.ab, g < L.b1 ∧ g ≠ L.M
 and : L.ab.Nodup
 F : L.F ≤ 20000
 blen : L.p.body.length ≤ 1000
 b0 : L.b0 ≤ L.M
 bb : L.b0 ≤ L.b1
structure LOk (L : Lay) : Prop extends LOk0 L where
 kids : ∀ W, L.Im W → ∀ (q : Nat) (t : Tr), At L.p.body q t → ∃ ad A cap, L.ka = some ad ∧ W.cell? (ad.add q) = some (.slice A t.kids.length cap) ∧ Rd W A (Qg (Jv (QP (q + 1) t.kids)))
 pok : ∀ W, L.Im W → L.p.ok W
 arrs : ∀ W, L.Im W → ∀ (i g : Nat), L.ab[i]? = some g → ∃ (ad : Addr) (t : Int), L.aa = some ad ∧ L.p.V[i]? = some t ∧ W.cell? (ad.add i) = some (.slice (some ⟨g, 0, none⟩) (Qx t).toNat (Qx t).toNat)
 alen : L.ab.length = L.p.V.length
 pairs : ∀ W, L.Im W → MapB W L.PB Kv
instance {L : Lay} : Coe (LOk L) (LOk0 L) := ⟨LOk.toLOk0⟩
def MRx (L : Lay) (m : Mm) (W : World) : Prop := ∃ fs sv ev, fs.map FrV.f = m.stack ∧ MR L m.s fs sv ev W
theorem Only.trans {A B C : World} {g : Nat} (h : Only g A B) (k : Only g B C) : Only g A C := ⟨k.os.trans h.os, k.tape.trans h.tape, k.output.trans h.output, k.size.trans h.size, fun i hi => (k.block i hi).trans (h.block i hi)⟩
theorem QM {w w' : World} {base size n : Nat} {e : TypeId} {v : Value} {xs : List Value} {row : Option Nat} (h : w.ownsRow base e size v n xs) (hg : w.grownBy w' row) (hne : row = none ∨ v.ownBlock ≠ row) : w'.ownsRow base e size v n xs := by
 refine h.kept hg ?_
 rcases hne with rfl | h
 · cases v.ownBlock <;> simp
 · exact .inr h
theorem QQ {w : World} {b b' s s' n n' : Nat} {e e' : TypeId} {v v' : Value} {xs xs' : List Value} (h : w.ownsRow b e s v n xs) (h' : w.ownsRow b' e' s' v' n' xs') (hne : e ≠ e') : v'.ownBlock = none ∨ v.ownBlock ≠ v'.ownBlock := by
 rcases h'.2 with ⟨rfl, _⟩ | ⟨g, cap, cur, rfl, _, hh, _⟩
 · exact .inl rfl
 · have hr : Row w g e' cur := hh
   right
   intro e2
   exact Qu h hr hne (by rw [e2]; rfl)
section
variable {L : Lay} {s : Ms} {fs : List FrV} {sv ev : Value} {W W' : World}
theorem MC.only (h : MC L s fs ev W) (hL : LOk0 L) (o : Only L.M W W') : MC L s fs ev W' := by
 have lo : ∀ {e : TypeId} {size n : Nat} {v : Value} {xs : List Value}, W.ownsRow L.b1 e size v n xs → W'.ownsRow L.b1 e size v n xs := fun h => Qt h o (fun e => by have := Qz h e; have := hL.lt; omega)
 exact ⟨lo h.evs, Qt h.vals o (fun e => (hL.vlt _ e).2.1 rfl), fun i g a hi ha => (h.arrs i g a hi ha).only o (hL.alt g (List.mem_of_getElem? hi)).2, fun x hx => lo (h.fr x hx), h.dist,
  hL.im _ _ h.im (.only o (.inr (.inl rfl))), by rw [o.size]; exact h.size, h.sum, h.few⟩
theorem MC.below (h : MC L s fs ev W) (hL : LOk0 L) (b : Below W.heap.size W W') : MC L s fs ev W' :=
 ⟨QN h.evs b, QN h.vals b, fun i g a hi ha => (h.arrs i g a hi ha).below b (h.arrs i g a hi ha).lt, fun x hx => QN (h.fr x hx) b, h.dist, hL.im _ _ h.im (.below (b.mono h.size)), Nat.le_trans h.size b.size, h.sum, h.few⟩
theorem MR.below (h : MR L s fs sv ev W) (hL : LOk L) (b : Below W.heap.size W W') : MR L s fs sv ev W' :=
 ⟨h.row.below b h.row.lt, QN h.stack b, h.core.below hL b⟩
theorem MR.drew (h : MR L s fs sv ev W) (hL : LOk L) (n : Nat) : MR L s fs sv ev (W.drewN n) := h.below hL ⟨rfl, rfl, rfl, Nat.le_refl _, fun _ _ => rfl⟩
theorem MC.grownStack {n : Nat} {xs : List Value} (h : MC L s fs ev W) (hL : LOk0 L) (hs : W.ownsRow L.b1 128 3 sv n xs) (hg : W.grownBy W' sv.ownBlock) : MC L s fs ev W' :=
 ⟨QM h.evs hg (QQ h.evs hs (by decide)), QM h.vals hg (QQ h.vals hs (by decide)), fun i g a hi ha => (h.arrs i g a hi ha).grown hg (Qu hs (h.arrs i g a hi ha) (by decide)),
  fun x hx => QM (h.fr x hx) hg (QQ (h.fr x hx) hs (by decide)), h.dist, hL.im _ _ h.im (.grown hg h.size (fun k e => Qz hs e)), Nat.le_trans h.size hg.size, h.sum, h.few⟩
theorem MC.grownEvs (h : MC L s fs ev W) (hL : LOk0 L) (hg : W.grownBy W' ev.ownBlock) {s' : Ms} {ev' : Value} (he : W'.ownsRow L.b1 189 3 ev' s'.evs.length (s'.evs.flatMap EvV.cells)) (h1 : s'.vals = s.vals) (h2 : s'.arrs = s.arrs) (h3 : s'.steps = s.steps) (h4 : s'.fuel = s.fuel) (h5 : s'.evs.length + fs.length ≤ s'.steps) : MC L s' fs ev' W' :=
 ⟨he, by rw [h1]; exact QM h.vals hg (QQ h.vals h.evs (by decide)), fun i g a hi ha => by rw [h2] at ha; exact (h.arrs i g a hi ha).grown hg (Qu h.evs (h.arrs i g a hi ha) (by decide)),
  fun x hx => QM (h.fr x hx) hg (QQ (h.fr x hx) h.evs (by decide)), h.dist, hL.im _ _ h.im (.grown hg h.size (fun k e => Qz h.evs e)), Nat.le_trans h.size hg.size, by rw [h3, h4]; exact h.sum, h5⟩
theorem MC.state {s' : Ms} (h : MC L s fs ev W) (h1 : s'.vals = s.vals) (h2 : s'.arrs = s.arrs) (h3 : s'.evs = s.evs) (h4 : s'.steps + s'.fuel = L.F) (h5 : s.steps ≤ s'.steps) : MC L s' fs ev W :=
 ⟨by rw [h3]; exact h.evs, by rw [h1]; exact h.vals, by rw [h2]; exact h.arrs, h.fr, h.dist, h.im, h.size, h4, by rw [h3]; have := h.few; omega⟩
end
theorem MR.setM {L : Lay} {s s' : Ms} {fs : List FrV} {sv ev : Value} {W W' : World} (h : MR L s fs sv ev W) (hL : LOk L) (o : Only L.M W W') (hr : Row W' L.M 125 (L.cells s' sv ev))
 (h1 : s'.vals = s.vals) (h2 : s'.arrs = s.arrs) (h3 : s'.evs = s.evs) (h4 : s'.steps + s'.fuel = L.F) (h5 : s.steps ≤ s'.steps) : MR L s' fs sv ev W' :=
 ⟨hr, Qt h.stack o (fun e => by have := Qz h.stack e; have := hL.lt; omega), (h.core.only hL o).state h1 h2 h3 h4 h5⟩
theorem U5 (L : Lay) (hL : LOk L) (m : Mm) (k v : Int) (W : World) (h : MRx L m W) : Calls Tryz.prog 59 #[.pointer (some ⟨L.M, 0, none⟩), .int .i64 k, .int .i64 v] W fun e W' => (∃ u, e = .returned u) ∧ MRx L ⟨m.s.stop k v, m.stack⟩ W' ∧ Only L.M W W' := by
 obtain ⟨fs, sv, ev, hfs, hm⟩ := h
 have Hm := Lh hm
 have rM := hm.row
 have hsz : (L.cells m.s sv ev).size = 14 := rfl
 clear hm
 go_enter Tryz.func59, Tryz.ntmps59
 go_wp2_with (refine Ql _ _ _ rfl ?_)
 refine Stop.to ?_
 refine Qk rfl 37 _ _ rfl L.M 8 rfl _ rfl [.int .i64 k, .int .i64 v] rfl 125 _ _ rM (by kernel_rfl) (by show 8 + 2 ≤ 14; omega) (by simp [Value.oneCell']) rfl ?_
 intro W1 r1 o1
 go_wp2_with (refine Ql _ _ _ rfl ?_)
 refine Stop.to ?_
 refine Qk rfl 4 _ _ rfl L.M 12 rfl _ rfl [.bool true] rfl 125 _ (L.cells (m.s.stop k v) sv ev) r1 (by kernel_rfl) (by show 12 + 1 ≤ 14; omega) (by simp [Value.oneCell']) rfl ?_
 intro W2 r2 o2
 have o12 : Only L.M W W2 := o1.trans o2
 clear rM r1 o1 o2 hsz
 go_wp2
 go_end0
 exact ⟨⟨_, rfl⟩, ⟨fs, sv, ev, hfs, Hm.out.setM hL o12 r2 rfl rfl rfl Hm.out.core.sum (Nat.le_refl _)⟩, o12⟩
theorem KV (L : Lay) (hL : LOk L) (m : Mm) (k v : Int) (W : World) (h : MRx L m W) : Calls Tryz.prog 59 #[.pointer (some ⟨L.M, 0, none⟩), .int .i64 k, .int .i64 v] W fun e W' => (∃ u, e = .returned u) ∧ MRx L ⟨m.s.stop k v, m.stack⟩ W' ∧ Chg L W W' :=
 (U5 L hL m k v W h).mono fun _ _ h => ⟨h.1, h.2.1, .only h.2.2 (.inr (.inl rfl))⟩
theorem AbN : (Tryz.prog.info? 128).map (fun i => (i.zero, i.size, i.bytes)) = some (some (.agg #[.int .i64 0, .int .i64 0, .slice none 0 0]), 3, 40) := by kernel_rfl
theorem Kz (fs : List FrV) : (fs.flatMap FrV.cells).length = fs.length * 3 := by
 induction fs with
 | nil => rfl
 | cons x fs ih => simp only [List.flatMap_cons, List.length_append, List.length_cons, ih]; simp [FrV.cells]; omega
theorem Zk {w : World} {base n size : Nat} {e : TypeId} {v : Value} {xs : List Value} (h : w.ownsRow base e size v n xs) : v.oneCell' = true := by
 rcases h.2 with ⟨rfl, _⟩ | ⟨g, cap, cur, rfl, _⟩ <;> rfl
theorem MC.push {L : Lay} {s : Ms} {fs : List FrV} {ev : Value} {W : World} (h : MC L s fs ev W) (hf : 0 < s.fuel) (q : Nat) (t : Tr) : MC L s.tick (⟨⟨q, t, 0, []⟩, .slice none 0 0⟩ :: fs) ev W :=
 ⟨h.evs, h.vals, h.arrs, fun x hx => by
  rcases List.mem_cons.1 hx with rfl | hx
  · exact World.ownsRow_nil _ _ _ _
  · exact h.fr x hx,
 List.pairwise_cons.2 ⟨fun _ _ => .inl rfl, h.dist⟩, h.im, h.size, by have := h.sum; simp only [Ms.tick]; omega, by have := h.few; simp only [Ms.tick, List.length_cons]; omega⟩
theorem Afr (x : FrV) (h : x.v.oneCell' = true) : ∀ u ∈ x.cells, u.oneCell' = true := by
 intro u hu
 simp only [FrV.cells, List.mem_cons, List.not_mem_nil, or_false] at hu
 rcases hu with rfl | rfl | rfl
 · rfl
 · rfl
 · exact h
theorem XT (L : Lay) (hL : LOk L) (m : Mm) (q : Nat) (t : Tr) (W : World) (h : MRx L m W) : Calls Tryz.prog 60 #[.pointer (some ⟨L.M, 0, none⟩), .int .i64 (q : Int)] W fun e W' => (∃ u, e = .returned u) ∧ MRx L (ZM q t m) W' ∧ Chg L W W' := by
 obtain ⟨fs, sv, ev, hfs, hm⟩ := h
 have hst := fun n => KV L hL m 4 0 (W.drewN n) ⟨fs, sv, ev, hfs, hm.drew hL n⟩
 have Hst := Lh hst
 have Hfs := Lh hfs
 have Hm := Lh hm
 have HL := Lh hL
 have c10 := hm.row.cellv (i := 10) (v := .int .i64 (m.s.steps : Int)) rfl
 have c6 := hm.row.cellv (i := 6) (v := .int .i64 (L.F : Int)) rfl
 have hsum := hm.core.sum
 have hfew := hm.core.few
 have hF := hL.F
 clear hm hst hL hfs
 by_cases h0 : m.s.fuel = 0
 · have he : ((m.s.steps : Int) == (L.F : Int)) = true := by simp; omega
   have Hz : Hid (ZM q t m = ⟨m.s.stop 4 0, m.stack⟩) := by show _ = _; unfold ZM; rw [if_pos h0]
   clear hsum hfew h0
   go_enter Tryz.func60, Tryz.ntmps60
   go_wp2_with fail
   go_quiet (fail)
   go_wp2_with fail
   refine (Hst.out nq).mono ?_
   rintro e W2 ⟨⟨u, rfl⟩, h2, g2⟩
   have gd : Chg L W (W.drewN nq) := ⟨rfl, rfl, rfl, Nat.le_refl _, fun _ _ _ _ _ => rfl⟩
   have G2 := Lh (gd.trans g2)
   have H2 := Lh h2
   clear h2 g2 gd
   go_wp2
   refine bodyPost_ret (results_none rfl _ _ _) rfl ?_
   exact ⟨⟨_, rfl⟩, by rw [Hz.out]; exact H2.out, G2.out⟩
 · have he : ((m.s.steps : Int) == (L.F : Int)) = false := by simp; omega
   have Hz : Hid (ZM q t m = ⟨m.s.tick, ⟨q, t, 0, []⟩ :: m.stack⟩) := by show _ = _; unfold ZM; rw [if_neg h0]
   have h0' : 0 < m.s.fuel := by omega
   obtain ⟨i0, hi0, hz0, hz1, hz2⟩ := info_parts AbN
   clear h0 Hst
   go_enter Tryz.func60, Tryz.ntmps60
   go_wp2_with fail
   go_quiet (fail)
   have hd : Below W.heap.size W (W.drewN nq) := ⟨rfl, rfl, rfl, Nat.le_refl _, fun _ _ => rfl⟩
   have Hd := Lh hd
   have Hsz := Lh Hm.out.core.size
   have Hm1 := Lh (Hm.out.drew HL.out nq)
   clear Hm hd
   generalize W.drewN nq = W0 at Hm1 Hd ⊢
   have rM := Hm1.out.row
   have c10' := rM.cellv (i := 10) (v := .int .i64 (m.s.steps : Int)) rfl
   have hstep : (m.s.steps : Int) + 1 ≤ 20001 := by omega
   clear c10 c6
   go_wp2_with (refine Ql _ _ _ rfl ?_)
   refine Stop.to ?_
   refine Qk rfl 3 _ _ rfl L.M 10 rfl _ rfl [.int .i64 ((m.s.steps : Int) + 1)] rfl 125 _ (L.cells m.s.tick sv ev) rM (by kernel_rfl) (by show 10 + 1 ≤ 14; omega) (by simp [Value.oneCell']) (by rfl) ?_
   intro W1 r1 o1
   have k1 := Hm1.out.core.only HL.out o1
   have s1 := Qt Hm1.out.stack o1 (fun e => by have := Qz Hm1.out.stack e; have := HL.out.lt; omega)
   have g1 := Chg.only (L := L) o1 (.inr (.inl rfl))
   have K1 := Lh k1
   have S1 := Lh s1
   have G1 := Lh ((Chg.below (L := L) (Hd.out.mono Hsz.out)).trans g1)
   clear rM c10' o1 k1 s1 g1 Hm1
   have c7 := r1.cellv (i := 7) (v := sv) rfl
   have ha := S1.out.alloc (.cells (FrV.cells ⟨⟨q, t, 0, []⟩, .slice none 0 0⟩).toArray 128)
   have HA := Lh ha
   have hsz1 := K1.out.size
   have hfl : fs.length ≤ 20001 := by omega
   clear ha
   go_wp2_with (at_builtin; refine wpList_append_own_at _ rfl (.tmp 29) (.tmp 32) 122 rfl L.b1 128 i0 _ 3 40 Tryz.underlying122 hi0 hz0 hz1 hz2 rfl (by decide) sv fs.length (fs.reverse.flatMap FrV.cells) rfl HA.out ⟨W1.heap.size, 0, none⟩ 1 1 (FrV.cells ⟨⟨q, t, 0, []⟩, .slice none 0 0⟩) rfl rfl (Je _ _ _) (Afr _ rfl) (by unfold maxLen; omega) (by omega) (by simp; omega) ?_)
   intro sv' W3 hown hg _ hat
   have b2 : Below W1.heap.size W1 (W1.alloc (.cells (FrV.cells ⟨⟨q, t, 0, []⟩, .slice none 0 0⟩).toArray 128)) := (Below.refl _ _).alloc (Nat.le_refl _) _
   have k3 := (K1.out.below HL.out b2).grownStack HL.out HA.out hg
   have r3 := (r1.alloc (.cells (FrV.cells ⟨⟨q, t, 0, []⟩, .slice none 0 0⟩).toArray 128)).grown hg (Qu HA.out (r1.alloc _) (by decide))
   have g3 : Chg L W1 W3 := (Chg.below (L := L) (b2.mono hsz1)).trans (.grown hg (by simp; omega) (fun k e => Qz HA.out e))
   have G3 := Lh (G1.out.trans g3)
   have K3 := Lh k3
   have Hown := Lh hown
   have hov := Zk hown
   clear hown hg hat b2 k3 g3 HA G1 K1 S1 r1 c7
   go_wp2_with (refine Ql _ _ _ rfl ?_)
   refine Stop.to ?_
   refine Qk rfl 122 _ _ rfl L.M 7 rfl _ rfl [sv'] (by cases sv' <;> first | rfl | cases hov) 125 _ (L.cells m.s.tick sv' ev) r3 (by kernel_rfl) (by show 7 + 1 ≤ 14; omega) (by simpa using hov) (by rfl) ?_
   intro W4 r4 o4
   have k4 := (K3.out.only HL.out o4).push h0' q t
   have s4 := Qt Hown.out o4 (fun e => by have := Qz Hown.out e; have := HL.out.lt; omega)
   have K4 := Lh k4
   have S4 := Lh s4
   have G4 := Lh (G3.out.trans (.only o4 (.inr (.inl rfl))))
   clear o4 k4 s4 r3 K3 Hown G3
   go_wp2
   go_end0
   refine ⟨⟨_, rfl⟩, ?_, G4.out⟩
   rw [Hz.out]
   refine ⟨_ :: fs, sv', ev, by rw [← Hfs.out]; rfl, r4, ?_, K4.out⟩
   have := S4.out
   rw [List.reverse_cons, List.flatMap_append]
   simpa using this
end Go.Proofs.YtdcmppdhdcjpfaaGreat
