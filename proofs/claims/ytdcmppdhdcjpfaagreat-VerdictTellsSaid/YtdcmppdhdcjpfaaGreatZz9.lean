/- Lemmas for VerdictTellsP. -/
import Derived.Test.YtdcmppdhdcjpfaaGreatZz8
import Derived.Test.YtdcmppdhdcjpfaaGreatZz5
import Derived.Test.YtdcmppdhdcjpfaaGreatZz3
import Derived.Test.YtdcmppdhdcjpfaaGreatZz1
import Derived.Test.YtdcmppdhdcjpfaaGreatZz4
import Derived.Maps.AppendAt
import Derived.Deep.Cut
import Derived.Lib.AppendZerosOnto
import Derived.Test.YtdcmppdhdcjpfaaGreatRows
set_option linter.unusedVariables false
set_option linter.unusedSimpArgs false
set_option maxRecDepth 100000
set_option maxHeartbeats 16000000
namespace Go.Proofs.YtdcmppdhdcjpfaaGreat
open Go.RowKit Go.Deep
structure Good (p : PgV) (t : Tr) : Prop where
 hat : At p.body 0 t
 size : t.size = p.body.length
 vars : JN p.params p.V
 tag : t.root.tag = 20
 kind : ofT p.V t = 2
open Classical in
noncomputable def Zd (p : PgV) (n : Nat) (fuel : Int) : Int := if ∃ t, Good p t then (if (n : Int) ≠ p.params then 18 else if fuel < 0 ∨ 10000 < fuel then 19 else 0) else 23
theorem ZN {p : PgV} {n : Nat} {fuel : Int} (h : ∀ t, ¬ Good p t) : Zd p n fuel = 23 := by unfold Zd; rw [if_neg (fun ⟨t, ht⟩ => h t ht)]
theorem Js {p : PgV} {n : Nat} {fuel : Int} {t : Tr} (h : Good p t) : Zd p n fuel = if (n : Int) ≠ p.params then 18 else if fuel < 0 ∨ 10000 < fuel then 19 else 0 := by unfold Zd; rw [if_pos ⟨t, h⟩]
theorem At.uniq {l : List Nd} {q : Nat} {a b : Tr} (ha : At l q a) (hb : At l q b) : a = b := by
 have o : ∀ n, (∀ (a b : Tr) (r s : List Nd), a.size ≤ n → a.fits → b.fits → a.flat ++ r = b.flat ++ s → a = b) ∧ (∀ (c g : List Tr) (r s : List Nd), (QI c).length ≤ n → c.length = g.length → (∀ t ∈ c, t.fits) → (∀ t ∈ g, t.fits) → QI c ++ r = QI g ++ s → c = g) := by
  intro n
  induction n with
  | zero =>
   refine ⟨fun a b r s h => by have := a.size_eq; omega, fun c g r s h d _ _ _ => ?_⟩;cases c with
   | nil => exact (Lt (by simpa using d.symm)).symm
   | cons t ts => rw [QI, Le] at h; have := t.size_eq; have aa : t.size = t.flat.length := rfl; omega
  | succ n ih =>
   have one : ∀ (a b : Tr) (r s : List Nd), a.size ≤ n + 1 → a.fits → b.fits → a.flat ++ r = b.flat ++ s → a = b := by
    rintro ⟨x, p⟩ ⟨y, w⟩ r s h i j e;have v := e;rw [Tr.flat_eq, Tr.flat_eq, Ln, Ln] at v;injection v with e1 e2;simp only [Tr.root, Tr.kids] at e1 e2;subst e1
    have d : p.length = w.length := by
     have z := i.arity;have h2 := j.arity;simp only [Tr.root, Tr.kids] at z h2;omega
    have h4 := (Tr.node x p).size_eq;simp only [Tr.kids] at h4;rw [ih.2 p w r s (by omega) d i.kid j.kid e2]
   refine ⟨one, fun c g => ?_⟩
   induction c generalizing g with
   | nil => intro r s _ d _ _ _; exact (Lt (by simpa using d.symm)).symm
   | cons t ts iht =>
    intro r s h d i j e;cases g with
    | nil => simp at d
    | cons u us =>
     rw [QI, QI, Lx, Lx] at e;rw [QI, Le] at h;have ht : t = u := one t u _ _ (by unfold Tr.size; omega) (i t (by simp)) (j u (by simp)) e;subst ht;rw [iht us r s (by omega) (by simpa using d) (fun k m => i k (by simp [m])) (fun k m => j k (by simp [m])) (List.append_cancel_left e)]
 obtain ⟨r, hr⟩ := ha.here;obtain ⟨s, hs⟩ := hb.here;exact (o a.size).1 a b r s (Nat.le_refl _) ha.fits hb.fits (by rw [← hr, hs])
theorem ZL {p : PgV} {t : Tr} (hat : At p.body 0 t) (h : ¬ (t.root.tag = 20 ∧ ofT p.V t = 2)) : ∀ t', ¬ Good p t' := fun t' g => by
 have := hat.uniq g.hat;subst this;exact h ⟨g.tag, g.kind⟩
theorem YG {p : PgV} (h : Ji p.params p.V ≠ 0) : ∀ t', ¬ Good p t' := fun t' g => h (by unfold Ji; rw [if_pos g.vars])
theorem Uf {p : PgV} (h : endZ p.body 0 ≠ (p.body.length : Int)) : ∀ t', ¬ Good p t' := fun t' g => h (by
 have := g.hat.endZ
 rw [g.size, LI] at this
 exact this)
theorem Ug {p : PgV} (h : p.body.length = 0) : ∀ t', ¬ Good p t' := fun t' g => by have := g.hat.lt; omega
theorem JT (a : Int) (V : List Int) : Ji a V = 0 ∧ JN a V ∨ Ji a V = 14 := by
 unfold Ji;by_cases h : JN a V
 · rw [if_pos h]; exact .inl ⟨rfl, h⟩
 · rw [if_neg h]; exact .inr rfl
theorem EC (p : PgV) (aa : Option Addr) (acap n : Nat) (fuel : Int) (hbl : p.body.length ≤ 1000) (hn : n ≤ 1000) (w : World) (hok : p.ok w) : Calls Tryz.prog 22 #[.agg p.cells, .slice aa n acap, .int .i64 fuel] w fun e w' => e = .returned (.int .i64 (Zd p n fuel)) ∧ Below w.heap.size w w' := by
 have ab := Lh hbl;have ac := Lh hok;clear hbl hok;go_enter Tryz.func22, Tryz.ntmps22
 go_wp2_with (refine Qn _ _ rfl ?_)
 refine Stop.to ?_;refine Qe rfl 25 _ rfl p.cells rfl ?_;intro G w1 hG r1 b1;have b1 := (Below.refl w.heap.size w).trans (b1.mono hG);obtain ⟨S, g⟩ : ∃ S, S = (fun W => Row W G 25 p.cells ∧ p.ok W ∧ Below w.heap.size w W) := ⟨_, rfl⟩;have av : St S := by rw [g]; infer_instance
 have s0 : ∀ W, S W → Row W G 25 p.cells := by rw [g]; exact fun W h => h.1
 have S1 : Hid (∀ W, S W → p.ok W) := by show ∀ W, _; rw [g]; exact fun W h => h.2.1
 have q : Hid (∀ W, S W → Below w.heap.size w W) := by show ∀ W, _; rw [g]; exact fun W h => h.2.2
 have hS : S w1 := by rw [g]; exact ⟨r1, ac.out.go b1, b1⟩
 have r := Lh s0;clear g r1 b1 hG ac s0;go_wp2_with fail
 refine ZA S (by kernel_rfl) (by kernel_rfl) (St.drew hS) ?_;clear hS;(refine QD rfl 25 _ rfl (G) rfl 25 _ _ r.out Tryz.underlying25 rfl (by kernel_rfl) ?_; simp only [Act.put, Qa, Qb, Qc]);(refine QB rfl 64 _ (fun W => by (go_simp; try rfl)) _ (fun W b => AdG p W (S1.out _ b)) ?_; simp only [Act.put, Qa, Qb, Qc])
 have aj := JT p.params p.V;generalize s : Ji p.params p.V = ve at aj;have am := Lh s;clear s;rcases aj with ⟨rfl, u⟩ | rfl;rotate_left
 · have d := Lh (ZN (n := n) (fuel := fuel) (YG (p := p) (by rw [am.out]; omega)))
   iterate 2 (refine Qf rfl ?_ (fun W b => ?_) ?_; rotate_left; (focus (go_simp; exact rfl)); simp only [Act.put, Qa, Qb, Qc])
   iterate 4 (refine KQ rfl ?_; simp only [Act.put, Qa, Qb, Qc])
   iterate 2 (refine Qf rfl ?_ (fun W b => ?_) ?_; rotate_left; (focus (go_simp; exact rfl)); simp only [Act.put, Qa, Qb, Qc])
   iterate 7 (refine KQ rfl ?_; simp only [Act.put, Qa, Qb, Qc])
   iterate 2 (refine Qf rfl ?_ (fun W b => ?_) ?_; rotate_left; (focus (go_simp; exact rfl)); simp only [Act.put, Qa, Qb, Qc])
   refine QG fun W b => ?_
   go_wp2
   go_ret
   exact ⟨Qo d.out, q.out _ b⟩
 have ad := Lh u;clear u;by_cases z : p.body.length = 0
 · have d := Lh (ZN (n := n) (fuel := fuel) (Ug z));have ap : ((p.body.length : Int) == 0) = true := by simp [z]
   clear z
   iterate 3 (refine Qf rfl ?_ (fun W b => ?_) ?_; rotate_left; (focus (go_simp; exact rfl)); simp only [Act.put, Qa, Qb, Qc])
   (refine Qf rfl ?_ (fun W b => ?_) ?_; rotate_left; (focus (have c := (r.out _ b).cellv (i := 2) (v := .slice p.ba p.body.length p.bcap) rfl; go_simp; exact rfl)); simp only [Act.put, Qa, Qb, Qc])
   iterate 4 (refine Qf rfl ?_ (fun W b => ?_) ?_; rotate_left; (focus (go_simp; exact rfl)); simp only [Act.put, Qa, Qb, Qc])
   iterate 7 (refine KQ rfl ?_; simp only [Act.put, Qa, Qb, Qc])
   iterate 2 (refine Qf rfl ?_ (fun W b => ?_) ?_; rotate_left; (focus (go_simp; exact rfl)); simp only [Act.put, Qa, Qb, Qc])
   refine QG fun W b => ?_
   go_wp2
   go_ret
   exact ⟨Qo d.out, q.out _ b⟩
 have ap : ((p.body.length : Int) == 0) = false := by simpa using z
 have Hl := Lh z;clear z
 iterate 3 (refine Qf rfl ?_ (fun W b => ?_) ?_; rotate_left; (focus (go_simp; exact rfl)); simp only [Act.put, Qa, Qb, Qc])
 (refine Qf rfl ?_ (fun W b => ?_) ?_; rotate_left; (focus (have c := (r.out _ b).cellv (i := 2) (v := .slice p.ba p.body.length p.bcap) rfl; go_simp; exact rfl)); simp only [Act.put, Qa, Qb, Qc])
 iterate 5 (refine Qf rfl ?_ (fun W b => ?_) ?_; rotate_left; (focus (go_simp; exact rfl)); simp only [Act.put, Qa, Qb, Qc])
 (refine Qf rfl ?_ (fun W b => ?_) ?_; rotate_left; (focus (have c := (r.out _ b).cellv (i := 2) (v := .slice p.ba p.body.length p.bcap) rfl; go_simp; exact rfl)); simp only [Act.put, Qa, Qb, Qc]);(refine QB rfl 65 _ (fun W => by (go_simp; try rfl)) _ (fun W b => JW p.ba p.bcap p.body 0 W (S1.out _ b).brd ab.out) ?_; simp only [Act.put, Qa, Qb, Qc])
 iterate 1 (refine Qf rfl ?_ (fun W b => ?_) ?_; rotate_left; (focus (go_simp; exact rfl)); simp only [Act.put, Qa, Qb, Qc])
 (refine Qf rfl ?_ (fun W b => ?_) ?_; rotate_left; (focus (have c := (r.out _ b).cellv (i := 2) (v := .slice p.ba p.body.length p.bcap) rfl; go_simp; exact rfl)); simp only [Act.put, Qa, Qb, Qc])
 iterate 1 (refine Qf rfl ?_ (fun W b => ?_) ?_; rotate_left; (focus (go_simp; exact rfl)); simp only [Act.put, Qa, Qb, Qc])
 by_cases x : endZ p.body 0 = (p.body.length : Int);rotate_left
 · have d := Lh (ZN (n := n) (fuel := fuel) (Uf x));have an : (endZ p.body 0 != (p.body.length : Int)) = true := by simpa using x
   clear x
   iterate 3 (refine Qf rfl ?_ (fun W b => ?_) ?_; rotate_left; (focus (go_simp; exact rfl)); simp only [Act.put, Qa, Qb, Qc])
   refine QG fun W b => ?_
   go_wp2
   go_ret
   exact ⟨Qo d.out, q.out _ b⟩
 have an : (endZ p.body 0 != (p.body.length : Int)) = false := by simp [x]
 have He := Lh x;clear x
 iterate 3 (refine Qf rfl ?_ (fun W b => ?_) ?_; rotate_left; (focus (go_simp; exact rfl)); simp only [Act.put, Qa, Qb, Qc])
 refine QG fun W b => ?_
 obtain ⟨t, m, _⟩ := KZ (l := p.body) (a := 0) (by rw [He.out]; omega);have m : At p.body 0 t := m;have ai : t.size = p.body.length := by have h1 := m.endZ; have h2 := He.out; simp only [LI] at h1; have h3 : endZ p.body 0 = (t.size : Int) := h1; omega
 have o := Lh m;have al := Lh ai;have c2 := (r.out _ b).cellv (i := 2) (v := .slice p.ba p.body.length p.bcap) rfl;obtain ⟨bd, ae, ag⟩ := Z9 (S1.out _ b).brd (k := 0) m.root;have af := ag 0 (.int .i64 t.root.tag) rfl;rw [show (bd.add (0 * 2)).add 0 = bd by rw [JU]; simp [Addr.add]] at af;rw [ae] at c2;have aq : (0 : Int) < (p.body.length : Int) := by have := Hl.out; omega
 have ak : 0 < p.body.length := by omega
 clear ag ae m ai;by_cases ht : t.root.tag = 20;rotate_left
 · have d := Lh (ZN (n := n) (fuel := fuel) (ZL o.out (fun h => ht h.1)));have au : (t.root.tag != 20) = true := by simpa using ht
   clear ht;go_wp2
   go_ret
   exact ⟨Qo d.out, q.out _ b⟩
 have au : (t.root.tag != 20) = false := by simp [ht]
 have Ht := Lh ht;clear ht;go_wp2_with (refine Q6 rfl 25 _ rfl G rfl 25 p.cells (0, 0) _ (r.out _ b) Tryz.underlying25 rfl (by kernel_rfl) ?_)
 refine (AcQ p ab.out t 0 o.out W (S1.out _ b)).mono ?_;rintro e W2 ⟨rfl, b2⟩;have j := av.go b b2;clear c2 af b2 b;by_cases y : ofT p.V t = 2;rotate_left
 · have d := Lh (ZN (n := n) (fuel := fuel) (ZL o.out (fun h => y h.2)));have ao : (ofT p.V t != 2) = true := by simpa using y
   clear y;go_wp2
   go_ret
   exact ⟨Qo d.out, q.out _ j⟩
 have ao : (ofT p.V t != 2) = false := by simp [y]
 have d := Lh (Js (n := n) (fuel := fuel) (⟨o.out, al.out, ad.out, Ht.out, y⟩ : Good p t));have c0 := (r.out _ j).cellv (i := 0) (v := .int .i64 p.params) rfl;clear y;by_cases hp : (n : Int) = p.params;rotate_left
 · have ar : ((n : Int) != p.params) = true := by simpa using hp
   have Hp := Lh hp;clear hp;go_wp2
   go_ret
   exact ⟨Qo (by rw [d.out, if_pos Hp.out]), q.out _ j⟩
 have ar : ((n : Int) != p.params) = false := by simp [hp]
 have Hp := Lh hp;clear hp;by_cases hf : fuel < 0
 · go_wp2
   go_ret
   exact ⟨Qo (by rw [d.out, if_neg (fun h => h Hp.out), if_pos (.inl hf)]), q.out _ j⟩
 have aw : 0 ≤ fuel := by omega
 by_cases ah : 10000 < fuel
 · clear hf;go_wp2
   go_ret
   exact ⟨Qo (by rw [d.out, if_neg (fun h => h Hp.out), if_pos (.inr ah)]), q.out _ j⟩
 have ax : fuel ≤ 10000 := by omega
 clear hf ah;go_wp2
 go_ret
 exact ⟨Qo (by rw [d.out, if_neg (fun h => h Hp.out), if_neg (by omega)]), q.out _ j⟩
theorem Up (p : PgV) (aa : Option Addr) (acap n : Nat) (fuel : Int) (hbl : p.body.length ≤ 1000) (hn : n ≤ 1000) (w : World) (hok : p.ok w) : Calls Tryz.prog 140 #[.agg p.cells, .slice aa n acap, .int .i64 fuel] w fun e w' => e = .returned (.int .i64 (Zd p n fuel)) ∧ Below w.heap.size w w' := by
 have ab := Lh hbl;have ac := Lh hok;clear hbl hok;go_enter Tryz.func140, Tryz.ntmps140
 go_wp2_with (refine Qn _ _ rfl ?_)
 refine Stop.to ?_;refine Qe rfl 25 _ rfl p.cells rfl ?_;intro G w1 hG r1 b1;have b1 := (Below.refl w.heap.size w).trans (b1.mono hG);obtain ⟨S, g⟩ : ∃ S, S = (fun W => Row W G 25 p.cells ∧ p.ok W ∧ Below w.heap.size w W) := ⟨_, rfl⟩;have av : St S := by rw [g]; infer_instance
 have s0 : ∀ W, S W → Row W G 25 p.cells := by rw [g]; exact fun W h => h.1
 have S1 : Hid (∀ W, S W → p.ok W) := by show ∀ W, _; rw [g]; exact fun W h => h.2.1
 have q : Hid (∀ W, S W → Below w.heap.size w W) := by show ∀ W, _; rw [g]; exact fun W h => h.2.2
 have hS : S w1 := by rw [g]; exact ⟨r1, ac.out.go b1, b1⟩
 have u := Lh s0;clear g r1 b1 hG ac s0;go_wp2_with fail
 refine ZA S (by kernel_rfl) (by kernel_rfl) (St.drew hS) ?_;clear hS;(refine QD rfl 25 _ rfl (G) rfl 25 _ _ u.out Tryz.underlying25 rfl (by kernel_rfl) ?_; simp only [Act.put, Qa, Qb, Qc]);(refine QB rfl 138 _ (fun W => by (go_simp; try rfl)) _ (fun W b => Vm p W (S1.out _ b)) ?_; simp only [Act.put, Qa, Qb, Qc])
 have aj := JT p.params p.V;generalize r : Ji p.params p.V = ve at aj;have am := Lh r;clear r;rcases aj with ⟨rfl, s⟩ | rfl;rotate_left
 · have d := Lh (ZN (n := n) (fuel := fuel) (YG (p := p) (by rw [am.out]; omega)))
   iterate 2 (refine Qf rfl ?_ (fun W b => ?_) ?_; rotate_left; (focus (go_simp; exact rfl)); simp only [Act.put, Qa, Qb, Qc])
   iterate 7 (refine KQ rfl ?_; simp only [Act.put, Qa, Qb, Qc])
   iterate 2 (refine Qf rfl ?_ (fun W b => ?_) ?_; rotate_left; (focus (go_simp; exact rfl)); simp only [Act.put, Qa, Qb, Qc])
   iterate 4 (refine KQ rfl ?_; simp only [Act.put, Qa, Qb, Qc])
   iterate 1 (refine Qf rfl ?_ (fun W b => ?_) ?_; rotate_left; (focus (go_simp; exact rfl)); simp only [Act.put, Qa, Qb, Qc])
   refine QG fun W b => ?_
   go_wp2
   go_ret
   exact ⟨Qo d.out, q.out _ b⟩
 have ad := Lh s;clear s
 iterate 3 (refine Qf rfl ?_ (fun W b => ?_) ?_; rotate_left; (focus (go_simp; exact rfl)); simp only [Act.put, Qa, Qb, Qc])
 (refine Qf rfl ?_ (fun W b => ?_) ?_; rotate_left; (focus (have c := (u.out _ b).cellv (i := 2) (v := .slice p.ba p.body.length p.bcap) rfl; go_simp; exact rfl)); simp only [Act.put, Qa, Qb, Qc]);(refine QB rfl 165 _ (fun W => by (go_simp; try rfl)) _ (fun W b => Kj p.ba p.bcap p.body 0 W (S1.out _ b).brd ab.out) ?_; simp only [Act.put, Qa, Qb, Qc])
 iterate 1 (refine Qf rfl ?_ (fun W b => ?_) ?_; rotate_left; (focus (go_simp; exact rfl)); simp only [Act.put, Qa, Qb, Qc])
 (refine Qf rfl ?_ (fun W b => ?_) ?_; rotate_left; (focus (have c := (u.out _ b).cellv (i := 2) (v := .slice p.ba p.body.length p.bcap) rfl; go_simp; exact rfl)); simp only [Act.put, Qa, Qb, Qc])
 iterate 1 (refine Qf rfl ?_ (fun W b => ?_) ?_; rotate_left; (focus (go_simp; exact rfl)); simp only [Act.put, Qa, Qb, Qc])
 by_cases x : endZ p.body 0 = (p.body.length : Int);rotate_left
 · have d := Lh (ZN (n := n) (fuel := fuel) (Uf x));have an : (endZ p.body 0 != (p.body.length : Int)) = true := by simpa using x
   clear x
   iterate 3 (refine Qf rfl ?_ (fun W b => ?_) ?_; rotate_left; (focus (go_simp; exact rfl)); simp only [Act.put, Qa, Qb, Qc])
   iterate 4 (refine KQ rfl ?_; simp only [Act.put, Qa, Qb, Qc])
   iterate 1 (refine Qf rfl ?_ (fun W b => ?_) ?_; rotate_left; (focus (go_simp; exact rfl)); simp only [Act.put, Qa, Qb, Qc])
   refine QG fun W b => ?_
   go_wp2
   go_ret
   exact ⟨Qo d.out, q.out _ b⟩
 have an : (endZ p.body 0 != (p.body.length : Int)) = false := by simp [x]
 have He := Lh x;clear x
 iterate 4 (refine Qf rfl ?_ (fun W b => ?_) ?_; rotate_left; (focus (go_simp; exact rfl)); simp only [Act.put, Qa, Qb, Qc])
 (refine Qf rfl ?_ (fun W b => ?_) ?_; rotate_left; (focus (have c := (u.out _ b).cellv (i := 2) (v := .slice p.ba p.body.length p.bcap) rfl; go_simp; exact rfl)); simp only [Act.put, Qa, Qb, Qc])
 iterate 1 (refine Qf rfl ?_ (fun W b => ?_) ?_; rotate_left; (focus (go_simp; exact rfl)); simp only [Act.put, Qa, Qb, Qc])
 by_cases z : p.body.length = 0
 · have d := Lh (ZN (n := n) (fuel := fuel) (Ug z));have ap : ((p.body.length : Int) == 0) = true := by simp [z]
   clear z
   iterate 2 (refine Qf rfl ?_ (fun W b => ?_) ?_; rotate_left; (focus (go_simp; exact rfl)); simp only [Act.put, Qa, Qb, Qc])
   refine QG fun W b => ?_
   go_wp2
   go_ret
   exact ⟨Qo d.out, q.out _ b⟩
 have ap : ((p.body.length : Int) == 0) = false := by simpa using z
 have Hl := Lh z;clear z
 iterate 2 (refine Qf rfl ?_ (fun W b => ?_) ?_; rotate_left; (focus (go_simp; exact rfl)); simp only [Act.put, Qa, Qb, Qc])
 refine QG fun W b => ?_
 obtain ⟨t, m, _⟩ := KZ (l := p.body) (a := 0) (by rw [He.out]; omega);have m : At p.body 0 t := m;have ai : t.size = p.body.length := by have h1 := m.endZ; have h2 := He.out; simp only [LI] at h1; have h3 : endZ p.body 0 = (t.size : Int) := h1; omega
 have o := Lh m;have al := Lh ai;have c2 := (u.out _ b).cellv (i := 2) (v := .slice p.ba p.body.length p.bcap) rfl;obtain ⟨bd, ae, ag⟩ := Z9 (S1.out _ b).brd (k := 0) m.root;have af := ag 0 (.int .i64 t.root.tag) rfl;rw [show (bd.add (0 * 2)).add 0 = bd by rw [JU]; simp [Addr.add]] at af;rw [ae] at c2;have aq : (0 : Int) < (p.body.length : Int) := by have := Hl.out; omega
 have ak : 0 < p.body.length := by omega
 clear ag ae m ai;by_cases ht : t.root.tag = 20;rotate_left
 · have d := Lh (ZN (n := n) (fuel := fuel) (ZL o.out (fun h => ht h.1)));have au : (t.root.tag != 20) = true := by simpa using ht
   clear ht;go_wp2
   go_ret
   exact ⟨Qo d.out, q.out _ b⟩
 have au : (t.root.tag != 20) = false := by simp [ht]
 have Ht := Lh ht;clear ht;go_wp2_with (refine Q6 rfl 25 _ rfl G rfl 25 p.cells (0, 0) _ (u.out _ b) Tryz.underlying25 rfl (by kernel_rfl) ?_)
 refine (EU p ab.out t.size t 0 (Nat.le_refl _) o.out W (S1.out _ b)).mono ?_;rintro e W2 ⟨rfl, b2⟩;have j := av.go b b2;clear c2 af b2 b;by_cases y : ofT p.V t = 2;rotate_left
 · have d := Lh (ZN (n := n) (fuel := fuel) (ZL o.out (fun h => y h.2)));have ao : (ofT p.V t != 2) = true := by simpa using y
   clear y;go_wp2
   go_ret
   exact ⟨Qo d.out, q.out _ j⟩
 have ao : (ofT p.V t != 2) = false := by simp [y]
 have d := Lh (Js (n := n) (fuel := fuel) (⟨o.out, al.out, ad.out, Ht.out, y⟩ : Good p t));have c0 := (u.out _ j).cellv (i := 0) (v := .int .i64 p.params) rfl;clear y;by_cases hp : (n : Int) = p.params;rotate_left
 · have ar : ((n : Int) != p.params) = true := by simpa using hp
   have Hp := Lh hp;clear hp;go_wp2
   go_ret
   exact ⟨Qo (by rw [d.out, if_pos Hp.out]), q.out _ j⟩
 have ar : ((n : Int) != p.params) = false := by simp [hp]
 have Hp := Lh hp;clear hp;by_cases hf : fuel < 0
 · go_wp2
   go_ret
   exact ⟨Qo (by rw [d.out, if_neg (fun h => h Hp.out), if_pos (.inl hf)]), q.out _ j⟩
 have aw : 0 ≤ fuel := by omega
 by_cases ah : 10000 < fuel
 · clear hf;go_wp2
   go_ret
   exact ⟨Qo (by rw [d.out, if_neg (fun h => h Hp.out), if_pos (.inr ah)]), q.out _ j⟩
 have ax : fuel ≤ 10000 := by omega
 clear hf ah;go_wp2
 go_ret
 exact ⟨Qo (by rw [d.out, if_neg (fun h => h Hp.out), if_neg (by omega)]), q.out _ j⟩
end Go.Proofs.YtdcmppdhdcjpfaaGreat
namespace Go.Proofs.YtdcmppdhdcjpfaaGreat
open Go.RowKit
structure Mt where
 d : Dl
 verdict : Int
 test : Int
 kind : Int
 value : Int
 digest : List UInt8
def Jl (params : Int) (tests : List (List Int)) (fuel : Int) : Int :=
 if tests.length < 1 ∨ 20 < tests.length then 18 else if ∀ l ∈ tests, (l.length : Int) = params then (if fuel < 1 ∨ 10000 < fuel then 19 else 0) else 18
def Xu (a b : Mt) : Bool := decide (JL a.d b.d = 0 ∧ a.verdict = b.verdict ∧ a.test = b.test ∧ (a.kind = b.kind ∧ a.value = b.value) ∧ a.digest = b.digest)
theorem sameM_iff {a b : Mt} : Xu a b = true ↔ a = b := by
 unfold Xu;rw [decide_eq_true_eq, cmpD_eq];cases a; cases b;simp only [Mt.mk.injEq];constructor
 · rintro ⟨c, d, e, ⟨g, h⟩, i⟩; exact ⟨c, d, e, g, h, i⟩
 · rintro ⟨c, d, e, g, h, i⟩; exact ⟨c, d, e, ⟨g, h⟩, i⟩
end Go.Proofs.YtdcmppdhdcjpfaaGreat
namespace Go.Proofs.YtdcmppdhdcjpfaaGreat
open Go.RowKit Go.Deep
theorem X2 {W' : World} {B g size : Nat} {e : TypeId} (hB : B ≤ g) (h : Row W' g e #[]) : W'.ownsRow B e size (.slice (some ⟨g, 0, none⟩) 0 0) 0 [] :=
 ⟨by simp, .inr ⟨g, 0, #[], rfl, hB, h, Nat.le_refl _, Nat.zero_le _, by simp, by simp⟩⟩
theorem QW {P : Program} {o : Oper} {w w1 : World} {ρ : Operand → Value} {t : TypeId} {n : Nat} (ps : List (Nat × Operand)) (ho : o.op = .buildSlice t n ps.toArray) {v : Value} (hv : (Instr.buildSlice t n (ps.map fun (i, x) => (i, ρ x)).toArray).run P w = .ok v w1) : (execOp ρ o).run P w = .ok (.value v) w1 := by
 simp only [execOp, ho, Sem.run_bind, Nz, hv, Result.andThen_ok, Sem.run_pure]
theorem QV {P : Program} {o : Oper} {w w1 : World} {ρ : Operand → Value} {s x : Operand} {t : TypeId} (ho : o.op = .call { callee := .builtin .append, args := #[s, x], argTypes := #[t, t] }) {v : Value} (hv : (Builtin.append_ #[t, t] o.type #[ρ s, ρ x]).run P w = .ok v w1) : (execOp ρ o).run P w = .ok (.value v) w1 := by
 unfold execOp;simp only [ho, resolve, invoke, builtin, Sem.run_bind, Sem.run_pure, Result.andThen_ok, Nz, LF, Nc, hv]
theorem E7 {P : Program} {w : World} {base size n c : Nat} {t ty e : TypeId} {i : TypeInfo} {v : Value} {xs : List Value} (ht : P.underlying t = some (.slice e)) (hi : P.info? e = some i) (hown : w.ownsRow base e size v n xs) : (Builtin.append_ #[t, t] ty #[v, .slice none 0 c]).run P w = .ok v w := by
 rcases hown.2 with ⟨rfl, rfl⟩ | ⟨g, d, h, rfl, _, _, b, _⟩
 · simp [Builtin.append_, run_underlying ht, sizeOf, typeInfo, hi, Builtin.lenOf, Builtin.firstCells]
 · simp [Builtin.append_, run_underlying ht, sizeOf, typeInfo, hi, Builtin.lenOf, Builtin.firstCells, b, storeCells]
theorem ZW {P : Program} (t e : TypeId) (z : Value) (size bytes : Nat) (ht : P.underlying t = some (.slice e)) (hinf : (P.info? e).map (fun i => (i.zero, i.size, i.bytes)) = some (some z, size, bytes)) (hzs : z.cells.size = size) (hsz : 0 < size) (hby : bytes ≤ 100)
 {W : World} {B n m cap : Nat} {v : Value} {xs cs : List Value} {A : Option Addr} (hown : W.ownsRow B e size v n xs) (hB : B ≤ W.heap.size) (hr : Rd W A cs) (hlen : cs.length = m * size) (h1 : ∀ u ∈ cs, u.oneCell' = true) (hA : A = none → m = 0) (hb : n + m ≤ 1000000) :
 ∃ v' W', (Builtin.append_ #[t, t] t #[v, .slice A m cap]).run P W = .ok v' W' ∧ W'.ownsRow B e size v' (n + m) (xs ++ cs) ∧ W.grownBy W' v.ownBlock ∧ (v'.ownBlock = v.ownBlock ∨ v'.ownBlock = some W.heap.size) := by
 obtain ⟨x, b, c, d, g⟩ := info_parts hinf;rcases A with _ | h
 · have l := hA rfl;subst l;have w : cs = [] := Lt (by simpa using hlen);subst w;exact ⟨v, W, E7 ht b hown, by simpa using hown, World.grownBy.refl _ _, .inl rfl⟩
 · obtain ⟨v', W', h1, o, p, _, q⟩ := run_append_own_at (P := P) W B t t e x z size bytes ht b c d g hzs hsz v n xs hown h m cap cs hlen
    (fun j u s => by obtain ⟨k, e, r⟩ := hr j u s; injection e with e; subst e; exact r) h1 (by unfold maxLen; omega) (by have := Nat.mul_le_mul hb hby; omega) hB
   exact ⟨v', W', h1, o, p, q⟩
theorem AbB : (Tryz.prog.info? 85).map (fun i => (i.zero, i.size, i.bytes)) = some (some (.agg #[.int .i64 0, .int .i64 0]), 2, 16) := by kernel_rfl
theorem Y5 {ops : Array Oper} {rest : List Oper} {o : Oper} {a : Act} {w : World} {Q : Exit → Act → World → Prop} (h : Stop (wpList Tryz.prog ops Q (o :: rest) a w) id) : wpList Tryz.prog ops Q (o :: rest) a w := h.out
theorem Q9 {P : Program} {ops : Array Oper} {rest : List Oper} {o : Oper} {a : Act} {w w1 : World} {Q : Exit → Act → World → Prop} (hgd : o.guard = none) (v : Value) (hv : (execOp a.eval o).run P w = .ok (.value v) w1) (h : wpList P ops Q rest (a.put o.dst v) w1) : wpList P ops Q (o :: rest) a w :=
 wpList_plain hgd fun _ hK => by unfold Oper.wp; rw [hv]; exact hK _ _ h
theorem U2 {P : Program} {o : Oper} {w w1 : World} {ρ : Operand → Value} {s x : Operand} {t u : TypeId} (ho : o.op = .call { callee := .builtin .append, args := #[s, x], argTypes := #[t, u] }) {v : Value} (hv : (Builtin.append_ #[t, u] o.type #[ρ s, ρ x]).run P w = .ok v w1) : (execOp ρ o).run P w = .ok (.value v) w1 := by
 unfold execOp;simp only [ho, resolve, invoke, builtin, Sem.run_bind, Sem.run_pure, Result.andThen_ok, Nz, LF, Nc, hv]
theorem AfN (n : Nat) (hn : n ≤ 1000000) (w : World) : Calls Tryz.prog 290 #[.slice none 0 0, .int .i64 (n : Int)] w fun e w' => ∃ A cap, e = .returned (.slice A 0 cap) ∧ w'.ownsRow w.heap.size 85 2 (.slice A 0 cap) 0 [] ∧ Below w.heap.size w w' := by
 have t : ¬ ((n : Int) < 0) := by omega
 have u : wrap64 ((0 : Int) - 0) = 0 := by unfold wrap64; omega
 have v : wrap64 ((n : Int) - 0) = (n : Int) := by unfold wrap64; omega
 have x : IntKind.i64.wrap (n : Int) = (n : Int) := IntWalk.i64_in _ (by omega);by_cases q : n = 0
 · subst q;go_enter Tryz.func290, Tryz.ntmps290
   go_wp2
   go_ret
   exact ⟨_, _, rfl, World.ownsRow_nil _ _ _ _, Below.refl _ _⟩
 · have y : (0 : Int) < (n : Int) := by omega
   obtain ⟨o, j, k, l, g⟩ := info_parts AbB;have c : (Builtin.firstCells o.size 0 (.slice none 0 0)).run Tryz.prog w.drew = .ok ([] : List Value).toArray w.drew := run_firstCells_none w.drew o.size 0 0 0
   have b := fun s => Lib.run_append_grow_zeros (P := Tryz.prog) w 23 3 s 85 o _ .i64 .i64 Tryz.underlying23 Tryz.underlying3 j k none 0 0 [] c n (by omega) (by rw [l]; omega) (by omega) (by omega) (by rw [g]; omega) (growslice_fits (by omega) (by rw [g]; omega))
   simp only [LI] at b;have m := grownCap_ge w n 0 85;have d := grownCap_le_maxLen w n 0 85 (by unfold maxLen; omega);generalize grownCap w n 0 85 = G at b m d
   have i : ((([] : List Value).toArray ++ Builtin.zeroCells (Value.agg #[.int .i64 0, .int .i64 0]).cells n ++ Builtin.zeroCells (Value.agg #[.int .i64 0, .int .i64 0]).cells (G - n)) : Array Value).size = G * 2 := by
    simp only [Array.size_append, size_zeroCells];show 0 + n * 2 + (G - n) * 2 = G * 2;omega
   generalize (([] : List Value).toArray ++ Builtin.zeroCells (Value.agg #[.int .i64 0, .int .i64 0]).cells n ++ Builtin.zeroCells (Value.agg #[.int .i64 0, .int .i64 0]).cells (G - n)) = cs at b i;have h := Lh b;have r : G ≤ 9223372036854775807 := by unfold maxLen at d; omega
   clear b j k l g c q;go_enter Tryz.func290, Tryz.ntmps290
   go_wp2_with (at_builtin; refine Y5 ?_)
   refine Stop.to ?_;refine Q9 rfl _ (U2 rfl (h.out _)) ?_;have rn : Row (w.drew.alloc (.cells cs 85)) w.heap.size 85 cs := Row.new w.drew _ _;have p : Below w.heap.size w (w.drew.alloc (.cells cs 85)) := (⟨rfl, rfl, rfl, Nat.le_refl _, fun _ _ => rfl⟩ : Below w.heap.size w w.drew).trans ((Below.refl _ w.drew).alloc (Nat.le_refl _) _);generalize w.drew.alloc (.cells cs 85) = w1 at rn p ⊢;clear h;go_wp2
   go_ret
   exact ⟨_, _, rfl, ⟨by simp, .inr ⟨w.heap.size, G, cs, rfl, Nat.le_refl _, rn, Nat.zero_le _, d, i, by simp⟩⟩, p⟩
structure PtV where
 addr : Option Addr
 cap : Nat
 body : List Nd
def PtV.val (q : PtV) : Value := .slice q.addr q.body.length q.cap
def PtV.rd (q : PtV) (w : World) : Prop := Rd w q.addr (q.body.flatMap Nd.cells) ∧ (q.addr = none → q.body = [])
def Zg (ps : List PtV) : List Nd := ps.flatMap PtV.body
theorem PtV.rd.go {q : PtV} {w w' : World} (h : q.rd w) (b : Below w.heap.size w w') : q.rd w' := ⟨h.1.go b, h.2⟩
theorem Z6 (l : List Nd) : (l.flatMap Nd.cells).length = l.length * 2 := by
 induction l with
 | nil => rfl
 | cons a l ih => simp only [LC, Le, ih, Lc]; simp [Nd.cells]; omega
theorem VB (l : List Nd) : ∀ u ∈ l.flatMap Nd.cells, u.oneCell' = true := by
 intro u b;simp only [Nt, Nd.cells, Lv, L5, or_false] at b;obtain ⟨a, _, rfl | rfl⟩ := b <;> rfl
theorem AdV {W : World} {B n m cap : Nat} {v : Value} {xs : List Value} {A : Option Addr} {l : List Nd} (hown : W.ownsRow B 85 2 v n xs) (hB : B ≤ W.heap.size) (hr : Rd W A (l.flatMap Nd.cells)) (hm : m = l.length) (hA : A = none → m = 0) (hb : n + m ≤ 1000000) :
 ∃ v' W', (Builtin.append_ #[23, 23] 23 #[v, .slice A m cap]).run Tryz.prog W = .ok v' W' ∧ W'.ownsRow B 85 2 v' (n + m) (xs ++ l.flatMap Nd.cells) ∧ W.grownBy W' v.ownBlock ∧ (v'.ownBlock = v.ownBlock ∨ v'.ownBlock = some W.heap.size) :=
 ZW 23 85 _ 2 16 Tryz.underlying23 AbB rfl (by decide) (by decide) hown hB hr (by rw [Z6, hm]) (VB l) hA hb
theorem Zl {w : World} {base n size : Nat} {e : TypeId} {v : Value} {xs : List Value} (h : w.ownsRow base e size v n xs) : ∃ A cap, v = .slice A n cap := by
 rcases h.2 with ⟨rfl, c⟩ | ⟨g, cap, b, rfl, _⟩
 · subst c; exact ⟨_, _, rfl⟩
 · exact ⟨_, _, rfl⟩
theorem Vg {ps : List PtV} {k : Nat} {q : PtV} (h : ps[k]? = some q) : Zg (ps.take (k + 1)) = Zg (ps.take k) ++ q.body := by
 unfold Zg;rw [L6, h];simp
theorem Abb (ps : List PtV) (k : Nat) : (Zg (ps.take k)).length ≤ (Zg ps).length := by
 have : Zg ps = Zg (ps.take k) ++ Zg (ps.drop k) := by
  unfold Zg;rw [← L2, LD]
 rw [this]; simp
theorem Aea (A : Option Addr) (m cp : Nat) (ps : List PtV) (w : World) (hm : m = ps.length) (hr : Rd w A (ps.map PtV.val)) (hps : ∀ q ∈ ps, q.rd w) (hl : (Zg ps).length ≤ 1000000) (hml : m ≤ 1000) :
 Calls Tryz.prog 269 #[.slice A m cp] w fun e w' => ∃ v, e = .returned v ∧ w'.ownsRow w.heap.size 85 2 v (Zg ps).length ((Zg ps).flatMap Nd.cells) ∧ Below w.heap.size w w' := by
 have Hr := Lh hr;have ac := Lh hps;have Hm := Lh hm;have ae := hl;clear hr hps hm;go_enter Tryz.func269, Tryz.ntmps269
 go_wp2
 go_loopw [3, 11] (fun s i wr => ∃ k : Nat, i = .int .i64 (k : Int) ∧ s = .int .i64 ((Zg (ps.take k)).length : Int) ∧ k ≤ m ∧ w = wr) (fun _ i _ => m - (intOf i).toNat)
 case atStart => exact ⟨0, rfl, by simp [Zg], Nat.zero_le _, rfl⟩
 case round =>
  obtain ⟨k, rfl, rfl, hk, rfl⟩ := hrel;by_cases u : k < m
  · obtain ⟨q, o⟩ : ∃ q, ps[k]? = some q := ⟨_, La (by have := Hm.out; omega)⟩;obtain ⟨ad, rfl, hc⟩ := Hr.out k q.val (by simp [o]);have ai : (k : Int) < (m : Int) := by omega
    have y := Vg o;have d := Abb ps (k + 1);rw [y, Le] at d;have e1 : IntKind.i64.wrap (((Zg (ps.take k)).length : Int) + (q.body.length : Int)) = ((Zg (ps.take k)).length : Int) + (q.body.length : Int) := IntWalk.i64_in _ (by omega);have e2 : ¬ (((Zg (ps.take k)).length : Int) + (q.body.length : Int) < 0) := by omega
    have ag : IntKind.i64.wrap ((k : Int) + 1) = (k : Int) + 1 := IntWalk.i64_in _ (by omega);have Hs : Hid ((((Zg (ps.take k)).length : Int) + (q.body.length : Int)) = ((Zg (ps.take (k + 1))).length : Int)) := by show _ = _; rw [y, Le]; omega
    unfold PtV.val at hc;clear y d o;generalize (Zg (ps.take k)).length = sk at *;go_wp2
    go_roundw
    case rel => exact ⟨k + 1, by go_num, by rw [← Hs.out], by omega, by trivial⟩
    case measure => simp [intOf]; omega
  · obtain rfl : k = m := by omega
    have ht : ps.take k = ps := by rw [Hm.out]; exact LO
    rw [ht];obtain ⟨n, hn⟩ : ∃ n, n = (Zg ps).length := ⟨_, rfl⟩;have Hn := Lh hn;rw [← hn] at hl ⊢;clear u hk ht hn ae;go_wp2_with fail
    refine (AfN n hl w).mono ?_;rintro e w1 ⟨A1, c1, rfl, l, b1⟩;have b := Lh l;have z := Lh b1;clear l b1;go_wp2
    go_loopw [6, 27] (fun s i W => ∃ (k' : Nat) (v : Value), s = v ∧ i = .int .i64 (k' : Int) ∧ k' ≤ k ∧ Hid (W.ownsRow w.heap.size 85 2 v (Zg (ps.take k')).length ((Zg (ps.take k')).flatMap Nd.cells)) ∧ Hid (Below w.heap.size w W)) (fun _ i _ => k - (intOf i).toNat)
    case atStart => exact ⟨0, _, rfl, rfl, Nat.zero_le _, by simpa [Zg] using b, z⟩
    case round =>
     clear b z;obtain ⟨j, v, rfl, rfl, hj, b, r⟩ := hrel;by_cases u : j < k
     · obtain ⟨q, o⟩ : ∃ q, ps[j]? = some q := ⟨_, La (by have := Hm.out; omega)⟩;obtain ⟨ad, rfl, hc⟩ := (Hr.out.go r.out) j q.val (by simp [o]);have x := (ac.out q (Lf o)).go r.out;have ah : (j : Int) < (k : Int) := by omega
       have y := Vg o;have d := Abb ps (j + 1);rw [y, Le, ← Hn.out] at d;have af : IntKind.i64.wrap ((j : Int) + 1) = (j : Int) + 1 := IntWalk.i64_in _ (by omega);obtain ⟨v2, W2, p, c, aa, _⟩ := AdV (cap := q.cap) b.out r.out.size x.1 (rfl : q.body.length = q.body.length) (fun h => by rw [x.2 h]; rfl) (by omega);have b2 := QO (Below.refl w.heap.size _) b.out aa r.out.size (Nat.le_refl _)
       have t : Hid (W2.ownsRow w.heap.size 85 2 v2 (Zg (ps.take (j + 1))).length ((Zg (ps.take (j + 1))).flatMap Nd.cells)) := by
        show W2.ownsRow _ _ _ _ _ _;rw [y, Le, L2]; exact c
       have ab := Lh (r.out.trans b2);have g := Lh p;obtain ⟨A2, c2, rfl⟩ := Zl c;obtain ⟨A3, c3, rfl⟩ := Zl b.out;unfold PtV.val at hc;clear y d o p c aa b2 x b r;go_wp2_with (at_builtin; refine Y5 ?_)
       refine Stop.to ?_;refine Q9 rfl _ (QV rfl g.out) ?_;clear g hc;go_wp2
       go_roundw
       case rel => exact ⟨j + 1, _, rfl, by go_num, by omega, t, ab⟩
       case measure => simp [intOf]; omega
     · obtain rfl : j = k := by omega
       have ht : ps.take j = ps := by rw [Hm.out]; exact LO
       rw [ht] at b;obtain ⟨A3, c3, rfl⟩ := Zl b.out;clear u hj ht;go_wp2
       go_ret
       exact ⟨_, rfl, b.out, r.out⟩
end Go.Proofs.YtdcmppdhdcjpfaaGreat
namespace Go.Proofs.YtdcmppdhdcjpfaaGreat
open Go.ChangeShapes Go.WideShapes Go.RowKit Go.Deep
theorem AaL : Tryz.prog.cellsOf 3 = 1 := by kernel_rfl
section
variable {H : Type} {enc : TypeId × Value → H} {w : World} {base : Nat} {spare : Nat → Bool} {held : Bool}
def RunV.val (r : RunV) : Value := .agg #[.int .i64 r.kind, .int .i64 r.value, .int .i64 r.steps, .slice r.addr r.evs.length r.cap]
structure RunV.ok (r : RunV) (w : World) : Prop where
 kind : InI r.kind
 value : InI r.value
 steps : InI r.steps
 len : r.evs.length ≤ r.cap
 cap : r.cap ≤ maxLen
 nil : r.addr = none → r.cap = 0
 reads : Rd w r.addr (r.evs.flatMap EvV.cells)
 evs : ∀ e ∈ r.evs, e.ok
end
end Go.Proofs.YtdcmppdhdcjpfaaGreat
namespace Go.Proofs.YtdcmppdhdcjpfaaGreat
open Go.RowKit Go.Deep
theorem Ek : ∀ (l : List EvV) (k : Nat) (e : EvV), l[k]? = some e → ∀ j u, e.cells[j]? = some u → (l.flatMap EvV.cells)[k * 3 + j]? = some u
 | [], k, e, h, _, _, _ => by simp at h
 | a :: l, 0, e, h, j, u, hj => by
  simp at h; subst h
  have hl : j < a.cells.length := (Lb.1 hj).1
  simp only [LC]
  rw [Lw (by omega)]
  simpa using hj
 | a :: l, k + 1, e, h, j, u, hj => by
  simp only [LC]
  rw [Ls (by simp [EvV.cells]; omega)]
  have := Ek l k e (by simpa using h) j u hj
  rw [← this]; congr 1; simp [EvV.cells]; omega
theorem ZJ {P : Program} {ops : Array Oper} {S : World → Prop} {Q : Act → Prop} {a : Act} {o : Oper} {rest : List Oper} (hw : Region.wanted o (yielded ops a.tmps) = true) (ty : TypeId) (x : Operand) (ho : o.op = .load ty x) (ad : Addr) (hx : a.eval x = .pointer (some ad)) (cs : List Value) (d : TypeDesc)
 (hr : ∀ W, S W → ∀ j v, cs[j]? = some v → W.cell? (ad.add j) = some v) (hu : P.underlying ty = some d) (hd : (match d with | .struct _ | .array _ _ => true | _ => false) = true) (hi : (P.info? ty).map (·.size) = some cs.length)
 (h : ZV P ops S Q rest (a.put o.dst (.agg cs.toArray))) : ZV P ops S Q (o :: rest) a :=
 Qf hw (.agg cs.toArray) (fun W hW => by
  simp only [execOp, ho, hx, Instr.loadAt, Instr.sureAddr, Sem.run_bind, Sem.run_pure, Result.andThen_ok, J7 W ad ty cs d (hr W hW) hu hd hi]) h
theorem Jz {P : Program} {o : Oper} {w : World} {ρ : Operand → Value} {b : BinOp} {t t' : TypeId} {x y : Operand} (ho : o.op = .binOp b t x y t') (v : Value) (hg : (eqGuard b t x y (ρ x) (ρ y)).run P w = .ok () w) (hv : (binOp b t (ρ x) (ρ y)).run P w = .ok v w) : (execOp ρ o).run P w = .ok (.value v) w := by
 simp only [execOp, ho, Sem.run_bind, hg, hv, Result.andThen_ok, Sem.run_pure]
end Go.Proofs.YtdcmppdhdcjpfaaGreat
