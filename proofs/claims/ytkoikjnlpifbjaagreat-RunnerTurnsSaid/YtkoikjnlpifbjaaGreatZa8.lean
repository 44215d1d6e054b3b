/- Lemmas for RunnerTurnsP. -/
import Derived.Test.YtkoikjnlpifbjaaGreatZa7
import Derived.Test.YtkoikjnlpifbjaaGreatZa4
import Derived.Test.YtkoikjnlpifbjaaGreatZa5
import Derived.Test.YtkoikjnlpifbjaaGreatZa1
import Derived.Test.YtkoikjnlpifbjaaGreatZa2
import Derived.Maps.AppendAt
import Derived.Deep.Cut
import Derived.Lib.AppendZerosOnto
import Derived.Great.BuildSlice
set_option linter.unusedVariables false
set_option linter.unusedSimpArgs false
set_option maxRecDepth 100000
set_option maxHeartbeats 16000000
namespace Go.Proofs.YtkoikjnlpifbjaaGreat
open Go.RowKit Go.Deep
structure Good (p : PgV) (t : Tr) : Prop where
 hat : At p.body 0 t
 size : t.size = p.body.length
 vars : KT p.params p.V
 tag : t.root.tag = 20
 kind : ofT p.V t = 2
open Classical in
noncomputable def Zs (p : PgV) (n : Nat) (fuel : Int) : Int := if ∃ t, Good p t then (if (n : Int) ≠ p.params then 18 else if fuel < 0 ∨ 10000 < fuel then 19 else 0) else 23
theorem JL {p : PgV} {n : Nat} {fuel : Int} (h : ∀ t, ¬ Good p t) : Zs p n fuel = 23 := by unfold Zs; rw [if_neg (fun ⟨t, ht⟩ => h t ht)]
theorem JK {p : PgV} {n : Nat} {fuel : Int} {t : Tr} (h : Good p t) : Zs p n fuel = if (n : Int) ≠ p.params then 18 else if fuel < 0 ∨ 10000 < fuel then 19 else 0 := by unfold Zs; rw [if_pos ⟨t, h⟩]
theorem At.uniq {l : List Nd} {q : Nat} {a b : Tr} (ha : At l q a) (hb : At l q b) : a = b := by
 have o : ∀ n, (∀ (a b : Tr) (r s : List Nd), a.size ≤ n → a.fits → b.fits → a.flat ++ r = b.flat ++ s → a = b) ∧ (∀ (c g : List Tr) (r s : List Nd), (QE c).length ≤ n → c.length = g.length → (∀ t ∈ c, t.fits) → (∀ t ∈ g, t.fits) → QE c ++ r = QE g ++ s → c = g) := by
  intro n
  induction n with
  | zero =>
   refine ⟨fun a b r s h => by have := a.size_eq; omega, fun c g r s h d _ _ _ => ?_⟩;cases c with
   | nil => exact (Lr (by simpa using d.symm)).symm
   | cons t ts => rw [QE, Ld] at h; have := t.size_eq; have aa : t.size = t.flat.length := rfl; omega
  | succ n ih =>
   have one : ∀ (a b : Tr) (r s : List Nd), a.size ≤ n + 1 → a.fits → b.fits → a.flat ++ r = b.flat ++ s → a = b := by
    rintro ⟨x, p⟩ ⟨y, w⟩ r s h i j e;have v := e;rw [Tr.flat_eq, Tr.flat_eq, Ll, Ll] at v;injection v with e1 e2;simp only [Tr.root, Tr.kids] at e1 e2;subst e1
    have d : p.length = w.length := by
     have z := i.arity;have h2 := j.arity;simp only [Tr.root, Tr.kids] at z h2;omega
    have h4 := (Tr.node x p).size_eq;simp only [Tr.kids] at h4;rw [ih.2 p w r s (by omega) d i.kid j.kid e2]
   refine ⟨one, fun c g => ?_⟩
   induction c generalizing g with
   | nil => intro r s _ d _ _ _; exact (Lr (by simpa using d.symm)).symm
   | cons t ts iht =>
    intro r s h d i j e;cases g with
    | nil => simp at d
    | cons u us =>
     rw [QE, QE, Ly, Ly] at e;rw [QE, Ld] at h;have ht : t = u := one t u _ _ (by unfold Tr.size; omega) (i t (by simp)) (j u (by simp)) e;subst ht;rw [iht us r s (by omega) (by simpa using d) (fun k m => i k (by simp [m])) (fun k m => j k (by simp [m])) (List.append_cancel_left e)]
 obtain ⟨r, hr⟩ := ha.here;obtain ⟨s, hs⟩ := hb.here;exact (o a.size).1 a b r s (Nat.le_refl _) ha.fits hb.fits (by rw [← hr, hs])
theorem Kj {p : PgV} {t : Tr} (hat : At p.body 0 t) (h : ¬ (t.root.tag = 20 ∧ ofT p.V t = 2)) : ∀ t', ¬ Good p t' := fun t' g => by
 have := hat.uniq g.hat;subst this;exact h ⟨g.tag, g.kind⟩
theorem Aaa {p : PgV} (h : Jl p.params p.V ≠ 0) : ∀ t', ¬ Good p t' := fun t' g => h (by unfold Jl; rw [if_pos g.vars])
theorem Abs {p : PgV} (h : endZ p.body 0 ≠ (p.body.length : Int)) : ∀ t', ¬ Good p t' := fun t' g => h (by
 have := g.hat.endZ
 rw [g.size, LF] at this
 exact this)
theorem Abt {p : PgV} (h : p.body.length = 0) : ∀ t', ¬ Good p t' := fun t' g => by have := g.hat.lt; omega
theorem Yf (a : Int) (V : List Int) : Jl a V = 0 ∧ KT a V ∨ Jl a V = 14 := by
 unfold Jl;by_cases h : KT a V
 · rw [if_pos h]; exact .inl ⟨rfl, h⟩
 · rw [if_neg h]; exact .inr rfl
theorem Ed (p : PgV) (aa : Option Addr) (acap n : Nat) (fuel : Int) (hbl : p.body.length ≤ 1000) (hn : n ≤ 1000) (w : World) (hok : p.ok w) : Calls Tryz.prog 96 #[.agg p.cells, .slice aa n acap, .int .i64 fuel] w fun e w' => e = .returned (.int .i64 (Zs p n fuel)) ∧ Below w.heap.size w w' := by
 have ab := Lh hbl;have ac := Lh hok;clear hbl hok;go_enter Tryz.func96, Tryz.ntmps96
 go_wp2_with (refine Qm _ _ rfl ?_)
 refine Stop.to ?_;refine Qe rfl 25 _ rfl p.cells rfl ?_;intro G w1 hG r1 b1;have b1 := (Below.refl w.heap.size w).trans (b1.mono hG);obtain ⟨S, g⟩ : ∃ S, S = (fun W => Row W G 25 p.cells ∧ p.ok W ∧ Below w.heap.size w W) := ⟨_, rfl⟩;have av : St S := by rw [g]; infer_instance
 have s0 : ∀ W, S W → Row W G 25 p.cells := by rw [g]; exact fun W h => h.1
 have S1 : Hid (∀ W, S W → p.ok W) := by show ∀ W, _; rw [g]; exact fun W h => h.2.1
 have q : Hid (∀ W, S W → Below w.heap.size w W) := by show ∀ W, _; rw [g]; exact fun W h => h.2.2
 have hS : S w1 := by rw [g]; exact ⟨r1, ac.out.go b1, b1⟩
 have s := Lh s0;clear g r1 b1 hG ac s0;go_wp2_with fail
 refine Zf S (by kernel_rfl) (by kernel_rfl) (St.drew hS) ?_;clear hS;(refine ZW rfl 25 _ rfl (G) rfl 25 _ _ s.out Tryz.underlying25 rfl (by kernel_rfl) ?_; simp only [Act.put, Qa, Qb, Qc]);(refine QO rfl 61 _ (fun W => by (go_simp; try rfl)) _ (fun W b => Adv p W (S1.out _ b)) ?_; simp only [Act.put, Qa, Qb, Qc])
 have aj := Yf p.params p.V;generalize u : Jl p.params p.V = ve at aj;have am := Lh u;clear u;rcases aj with ⟨rfl, x⟩ | rfl;rotate_left
 · have d := Lh (JL (n := n) (fuel := fuel) (Aaa (p := p) (by rw [am.out]; omega)))
   iterate 2 (refine Qg rfl ?_ (fun W b => ?_) ?_; rotate_left; (focus (go_simp; exact rfl)); simp only [Act.put, Qa, Qb, Qc])
   iterate 4 (refine UE rfl ?_; simp only [Act.put, Qa, Qb, Qc])
   iterate 2 (refine Qg rfl ?_ (fun W b => ?_) ?_; rotate_left; (focus (go_simp; exact rfl)); simp only [Act.put, Qa, Qb, Qc])
   iterate 7 (refine UE rfl ?_; simp only [Act.put, Qa, Qb, Qc])
   iterate 2 (refine Qg rfl ?_ (fun W b => ?_) ?_; rotate_left; (focus (go_simp; exact rfl)); simp only [Act.put, Qa, Qb, Qc])
   refine QK fun W b => ?_
   go_wp2
   go_ret
   exact ⟨QX d.out, q.out _ b⟩
 have ad := Lh x;clear x;by_cases hl : p.body.length = 0
 · have d := Lh (JL (n := n) (fuel := fuel) (Abt hl));have ap : ((p.body.length : Int) == 0) = true := by simp [hl]
   clear hl
   iterate 3 (refine Qg rfl ?_ (fun W b => ?_) ?_; rotate_left; (focus (go_simp; exact rfl)); simp only [Act.put, Qa, Qb, Qc])
   (refine Qg rfl ?_ (fun W b => ?_) ?_; rotate_left; (focus (have c := (s.out _ b).cellv (i := 2) (v := .slice p.ba p.body.length p.bcap) rfl; go_simp; exact rfl)); simp only [Act.put, Qa, Qb, Qc])
   iterate 4 (refine Qg rfl ?_ (fun W b => ?_) ?_; rotate_left; (focus (go_simp; exact rfl)); simp only [Act.put, Qa, Qb, Qc])
   iterate 7 (refine UE rfl ?_; simp only [Act.put, Qa, Qb, Qc])
   iterate 2 (refine Qg rfl ?_ (fun W b => ?_) ?_; rotate_left; (focus (go_simp; exact rfl)); simp only [Act.put, Qa, Qb, Qc])
   refine QK fun W b => ?_
   go_wp2
   go_ret
   exact ⟨QX d.out, q.out _ b⟩
 have ap : ((p.body.length : Int) == 0) = false := by simpa using hl
 have Hl := Lh hl;clear hl
 iterate 3 (refine Qg rfl ?_ (fun W b => ?_) ?_; rotate_left; (focus (go_simp; exact rfl)); simp only [Act.put, Qa, Qb, Qc])
 (refine Qg rfl ?_ (fun W b => ?_) ?_; rotate_left; (focus (have c := (s.out _ b).cellv (i := 2) (v := .slice p.ba p.body.length p.bcap) rfl; go_simp; exact rfl)); simp only [Act.put, Qa, Qb, Qc])
 iterate 5 (refine Qg rfl ?_ (fun W b => ?_) ?_; rotate_left; (focus (go_simp; exact rfl)); simp only [Act.put, Qa, Qb, Qc])
 (refine Qg rfl ?_ (fun W b => ?_) ?_; rotate_left; (focus (have c := (s.out _ b).cellv (i := 2) (v := .slice p.ba p.body.length p.bcap) rfl; go_simp; exact rfl)); simp only [Act.put, Qa, Qb, Qc]);(refine QO rfl 102 _ (fun W => by (go_simp; try rfl)) _ (fun W b => JR p.ba p.bcap p.body 0 W (S1.out _ b).brd ab.out) ?_; simp only [Act.put, Qa, Qb, Qc])
 iterate 1 (refine Qg rfl ?_ (fun W b => ?_) ?_; rotate_left; (focus (go_simp; exact rfl)); simp only [Act.put, Qa, Qb, Qc])
 (refine Qg rfl ?_ (fun W b => ?_) ?_; rotate_left; (focus (have c := (s.out _ b).cellv (i := 2) (v := .slice p.ba p.body.length p.bcap) rfl; go_simp; exact rfl)); simp only [Act.put, Qa, Qb, Qc])
 iterate 1 (refine Qg rfl ?_ (fun W b => ?_) ?_; rotate_left; (focus (go_simp; exact rfl)); simp only [Act.put, Qa, Qb, Qc])
 by_cases y : endZ p.body 0 = (p.body.length : Int);rotate_left
 · have d := Lh (JL (n := n) (fuel := fuel) (Abs y));have an : (endZ p.body 0 != (p.body.length : Int)) = true := by simpa using y
   clear y
   iterate 3 (refine Qg rfl ?_ (fun W b => ?_) ?_; rotate_left; (focus (go_simp; exact rfl)); simp only [Act.put, Qa, Qb, Qc])
   refine QK fun W b => ?_
   go_wp2
   go_ret
   exact ⟨QX d.out, q.out _ b⟩
 have an : (endZ p.body 0 != (p.body.length : Int)) = false := by simp [y]
 have He := Lh y;clear y
 iterate 3 (refine Qg rfl ?_ (fun W b => ?_) ?_; rotate_left; (focus (go_simp; exact rfl)); simp only [Act.put, Qa, Qb, Qc])
 refine QK fun W b => ?_
 obtain ⟨t, m, _⟩ := YG (l := p.body) (a := 0) (by rw [He.out]; omega);have m : At p.body 0 t := m;have ai : t.size = p.body.length := by have h1 := m.endZ; have h2 := He.out; simp only [LF] at h1; have h3 : endZ p.body 0 = (t.size : Int) := h1; omega
 have o := Lh m;have al := Lh ai;have c2 := (s.out _ b).cellv (i := 2) (v := .slice p.ba p.body.length p.bcap) rfl;obtain ⟨bd, ae, ag⟩ := Js (S1.out _ b).brd (k := 0) m.root;have af := ag 0 (.int .i64 t.root.tag) rfl;rw [show (bd.add (0 * 2)).add 0 = bd by rw [KG]; simp [Addr.add]] at af;rw [ae] at c2;have aq : (0 : Int) < (p.body.length : Int) := by have := Hl.out; omega
 have ak : 0 < p.body.length := by omega
 clear ag ae m ai;by_cases ht : t.root.tag = 20;rotate_left
 · have d := Lh (JL (n := n) (fuel := fuel) (Kj o.out (fun h => ht h.1)));have au : (t.root.tag != 20) = true := by simpa using ht
   clear ht;go_wp2
   go_ret
   exact ⟨QX d.out, q.out _ b⟩
 have au : (t.root.tag != 20) = false := by simp [ht]
 have Ht := Lh ht;clear ht;go_wp2_with (refine Kf rfl 25 _ rfl G rfl 25 p.cells (0, 0) _ (s.out _ b) Tryz.underlying25 rfl (by kernel_rfl) ?_)
 refine (AcI p ab.out t 0 o.out W (S1.out _ b)).mono ?_;rintro e W2 ⟨rfl, b2⟩;have j := av.go b b2;clear c2 af b2 b;by_cases z : ofT p.V t = 2;rotate_left
 · have d := Lh (JL (n := n) (fuel := fuel) (Kj o.out (fun h => z h.2)));have ao : (ofT p.V t != 2) = true := by simpa using z
   clear z;go_wp2
   go_ret
   exact ⟨QX d.out, q.out _ j⟩
 have ao : (ofT p.V t != 2) = false := by simp [z]
 have d := Lh (JK (n := n) (fuel := fuel) (⟨o.out, al.out, ad.out, Ht.out, z⟩ : Good p t));have c0 := (s.out _ j).cellv (i := 0) (v := .int .i64 p.params) rfl;clear z;by_cases hp : (n : Int) = p.params;rotate_left
 · have ar : ((n : Int) != p.params) = true := by simpa using hp
   have Hp := Lh hp;clear hp;go_wp2
   go_ret
   exact ⟨QX (by rw [d.out, if_pos Hp.out]), q.out _ j⟩
 have ar : ((n : Int) != p.params) = false := by simp [hp]
 have Hp := Lh hp;clear hp;by_cases hf : fuel < 0
 · go_wp2
   go_ret
   exact ⟨QX (by rw [d.out, if_neg (fun h => h Hp.out), if_pos (.inl hf)]), q.out _ j⟩
 have aw : 0 ≤ fuel := by omega
 by_cases ah : 10000 < fuel
 · clear hf;go_wp2
   go_ret
   exact ⟨QX (by rw [d.out, if_neg (fun h => h Hp.out), if_pos (.inr ah)]), q.out _ j⟩
 have ax : fuel ≤ 10000 := by omega
 clear hf ah;go_wp2
 go_ret
 exact ⟨QX (by rw [d.out, if_neg (fun h => h Hp.out), if_neg (by omega)]), q.out _ j⟩
end Go.Proofs.YtkoikjnlpifbjaaGreat
namespace Go.Proofs.YtkoikjnlpifbjaaGreat
open Go.RowKit
structure Mt where
 d : Dl
 verdict : Int
 test : Int
 kind : Int
 value : Int
 digest : List UInt8
structure Sc where
 alive : Int
 killed : Int
 timeout : Int
def Jn (l : List Mt) (v : Int) : Int := ((l.filter fun m => m.verdict == v).length : Int)
def QG (l : List Mt) : Sc := ⟨Jn l 0, Jn l 1, Jn l 2⟩
def JB (params : Int) (tests : List (List Int)) (fuel : Int) : Int :=
 if tests.length < 1 ∨ 20 < tests.length then 18 else if ∀ l ∈ tests, (l.length : Int) = params then (if fuel < 1 ∨ 10000 < fuel then 19 else 0) else 18
def KQ (a b : Mt) : Bool := decide (Jm a.d b.d = 0 ∧ a.verdict = b.verdict ∧ a.test = b.test ∧ (a.kind = b.kind ∧ a.value = b.value) ∧ a.digest = b.digest)
theorem sameM_iff {a b : Mt} : KQ a b = true ↔ a = b := by
 unfold KQ;rw [decide_eq_true_eq, cmpD_eq];cases a; cases b;simp only [Mt.mk.injEq];constructor
 · rintro ⟨c, d, e, ⟨g, h⟩, i⟩; exact ⟨c, d, e, g, h, i⟩
 · rintro ⟨c, d, e, g, h, i⟩; exact ⟨c, d, e, ⟨g, h⟩, i⟩
end Go.Proofs.YtkoikjnlpifbjaaGreat
namespace Go.Proofs.YtkoikjnlpifbjaaGreat
open Go.RowKit Go.Deep
theorem Ve (A B : Option Addr) (c d na nb : Nat) (a b : List Int) (w : World) (hna : na = a.length) (hnb : nb = b.length) (ha : Rd w A (Qi a)) (hb : Rd w B (Qi b)) (hla : a.length ≤ 1000000) :
 Calls Tryz.prog 74 #[.slice A na c, .slice B nb d] w fun e w' => e = .returned (.bool (decide (a = b))) ∧ Below w.heap.size w w' := by
 by_cases hl : na = nb;rotate_left
 · have ak : ((na : Int) != (nb : Int)) = true := by simp; omega
   have v : a ≠ b := fun e => hl (by rw [hna, hnb, e])
   have p : Hid (decide (a = b) = false) := by show _ = _; simp [v]
   clear hl hna hnb v ha hb hla;go_enter Tryz.func74, Tryz.ntmps74
   go_wp2
   go_ret
   exact ⟨Q4 p.out, Below.refl _ _⟩
 subst hl;have Ha := Lh hna;have Hb := Lh hnb;have al : (na : Int) ≤ 1000000 := by omega
 clear hna hnb hla;obtain ⟨S, j⟩ : ∃ S, S = (fun W => Rd W A (Qi a) ∧ Rd W B (Qi b) ∧ Below w.heap.size w W) := ⟨_, rfl⟩;have am : St S := by rw [j]; infer_instance
 have s : Hid (∀ W, S W → Rd W A (Qi a)) := by show ∀ W, _; rw [j]; exact fun W h => h.1
 have t : Hid (∀ W, S W → Rd W B (Qi b)) := by show ∀ W, _; rw [j]; exact fun W h => h.2.1
 have u : Hid (∀ W, S W → Below w.heap.size w W) := by show ∀ W, _; rw [j]; exact fun W h => h.2.2
 have l : S w := by rw [j]; exact ⟨ha, hb, Below.refl _ _⟩
 clear j ha hb;go_enter Tryz.func74, Tryz.ntmps74
 go_wp2
 go_loopw [5] (fun i wr => ∃ k : Nat, i = .int .i64 (k : Int) ∧ k ≤ na ∧ Hid (a.take k = b.take k) ∧ S wr) (fun i _ => na - (intOf i).toNat)
 case atStart => exact ⟨0, by simp, Nat.zero_le _, by simp [Hid], l⟩
 case round =>
  clear l;obtain ⟨k, rfl, hk, z, l⟩ := hrel;by_cases ag : k < na
  · obtain ⟨e, he⟩ : ∃ e, a[k]? = some e := ⟨_, La (by have := Ha.out; omega)⟩;obtain ⟨f, hf⟩ : ∃ f, b[k]? = some f := ⟨_, La (by have := Hb.out; omega)⟩;obtain ⟨ad, ae, _⟩ := Zc (s.out _ l) he;obtain ⟨bd, af, _⟩ := Zc (t.out _ l) hf;subst ae af
    have n : Hid (∀ W, S W → W.cell? (ad.add k) = some (.int .i64 e)) := fun W h => by
     obtain ⟨ac, g, h2⟩ := Zc (s.out _ h) he;injection g with g; subst g; exact h2
    have o : Hid (∀ W, S W → W.cell? (bd.add k) = some (.int .i64 f)) := fun W h => by
     obtain ⟨ac, g, h2⟩ := Zc (t.out _ h) hf;injection g with g; subst g; exact h2
    have x := Lh he;have y := Lh hf;have ai : (k : Int) < (na : Int) := by omega
    have aj : IntKind.i64.wrap ((k : Int) + 1) = (k : Int) + 1 := IntWalk.i64_in _ (by omega);clear he hf;go_wp2
    refine Zf S (by kernel_rfl) (by kernel_rfl) (St.drew l) ?_;clear l
    iterate 3 (refine Qg rfl ?_ (fun W q => ?_) ?_; rotate_left; (focus (go_simp; exact rfl)); simp only [Act.put, Qa, Qb, Qc])
    (refine Qg rfl ?_ (fun W q => ?_) ?_; rotate_left; (focus (have c := n.out W q; go_simp; exact rfl)); simp only [Act.put, Qa, Qb, Qc])
    iterate 3 (refine Qg rfl ?_ (fun W q => ?_) ?_; rotate_left; (focus (go_simp; exact rfl)); simp only [Act.put, Qa, Qb, Qc])
    (refine Qg rfl ?_ (fun W q => ?_) ?_; rotate_left; (focus (have c := o.out W q; go_simp; exact rfl)); simp only [Act.put, Qa, Qb, Qc]);(refine Qg rfl ?_ (fun W q => ?_) ?_; rotate_left; (focus (go_simp; exact rfl)); simp only [Act.put, Qa, Qb, Qc]);refine QK fun W l => ?_
    by_cases m : e = f
    · subst m;have ah : (e != e) = false := by simp
      have ab : Hid (a.take (k + 1) = b.take (k + 1)) := by
       show _ = _;rw [Lz, Lz, z.out, x.out, y.out]
      clear n o x y z;go_wp2
      go_roundw
      case rel => exact ⟨k + 1, by go_num, by omega, ab, l⟩
      case measure => simp [intOf]; omega
    · have ah : (e != f) = true := by simpa using m
      have p : Hid (decide (a = b) = false) := by
       show _ = _
       have : a ≠ b := fun h => m (by
        have g := x.out
        rw [h, y.out] at g
        exact (Option.some.inj g).symm)
       simp [this]
      clear n o x y z m;go_wp2
      go_ret
      exact ⟨Q4 p.out, u.out _ l⟩
  · obtain rfl : k = na := by omega
    have aa : Hid (decide (a = b) = true) := by
     show _ = _;have g := z.out;rw [Lx (by have := Ha.out; omega), Lx (by have := Hb.out; omega)] at g;simp [g]
    clear ag hk;go_wp2
    go_ret
    exact ⟨Q4 aa.out, u.out _ l⟩
theorem XJ {W' : World} {B g size : Nat} {e : TypeId} (hB : B ≤ g) (h : Row W' g e #[]) : W'.ownsRow B e size (.slice (some ⟨g, 0, none⟩) 0 0) 0 [] :=
 ⟨by simp, .inr ⟨g, 0, #[], rfl, hB, h, Nat.le_refl _, Nat.zero_le _, by simp, by simp⟩⟩
theorem QR {P : Program} {o : Oper} {w w1 : World} {ρ : Operand → Value} {t : TypeId} {n : Nat} (ps : List (Nat × Operand)) (ho : o.op = .buildSlice t n ps.toArray) {v : Value} (hv : (Instr.buildSlice t n (ps.map fun (i, x) => (i, ρ x)).toArray).run P w = .ok v w1) : (execOp ρ o).run P w = .ok (.value v) w1 := by
 simp only [execOp, ho, Sem.run_bind, Nn, hv, Result.andThen_ok, Sem.run_pure]
theorem Qy {P : Program} {o : Oper} {w w1 : World} {ρ : Operand → Value} {s x : Operand} {t : TypeId} (ho : o.op = .call { callee := .builtin .append, args := #[s, x], argTypes := #[t, t] }) {v : Value} (hv : (Builtin.append_ #[t, t] o.type #[ρ s, ρ x]).run P w = .ok v w1) : (execOp ρ o).run P w = .ok (.value v) w1 := by
 unfold execOp;simp only [ho, resolve, invoke, builtin, Sem.run_bind, Sem.run_pure, Result.andThen_ok, Nn, LM, Nu, hv]
theorem EF {P : Program} {w : World} {base size n c : Nat} {t ty e : TypeId} {i : TypeInfo} {v : Value} {xs : List Value} (ht : P.underlying t = some (.slice e)) (hi : P.info? e = some i) (hown : w.ownsRow base e size v n xs) : (Builtin.append_ #[t, t] ty #[v, .slice none 0 c]).run P w = .ok v w := by
 rcases hown.2 with ⟨rfl, rfl⟩ | ⟨g, d, h, rfl, _, _, b, _⟩
 · simp [Builtin.append_, run_underlying ht, sizeOf, typeInfo, hi, Builtin.lenOf, Builtin.firstCells]
 · simp [Builtin.append_, run_underlying ht, sizeOf, typeInfo, hi, Builtin.lenOf, Builtin.firstCells, b, storeCells]
theorem Zr {P : Program} (t e : TypeId) (z : Value) (size bytes : Nat) (ht : P.underlying t = some (.slice e)) (hinf : (P.info? e).map (fun i => (i.zero, i.size, i.bytes)) = some (some z, size, bytes)) (hzs : z.cells.size = size) (hsz : 0 < size) (hby : bytes ≤ 100)
 {W : World} {B n m cap : Nat} {v : Value} {xs cs : List Value} {A : Option Addr} (hown : W.ownsRow B e size v n xs) (hB : B ≤ W.heap.size) (hr : Rd W A cs) (hlen : cs.length = m * size) (h1 : ∀ u ∈ cs, u.oneCell' = true) (hA : A = none → m = 0) (hb : n + m ≤ 1000000) :
 ∃ v' W', (Builtin.append_ #[t, t] t #[v, .slice A m cap]).run P W = .ok v' W' ∧ W'.ownsRow B e size v' (n + m) (xs ++ cs) ∧ W.grownBy W' v.ownBlock ∧ (v'.ownBlock = v.ownBlock ∨ v'.ownBlock = some W.heap.size) := by
 obtain ⟨y, b, c, d, g⟩ := info_parts hinf;rcases A with _ | h
 · have l := hA rfl;subst l;have x : cs = [] := Lr (by simpa using hlen);subst x;exact ⟨v, W, EF ht b hown, by simpa using hown, World.grownBy.refl _ _, .inl rfl⟩
 · obtain ⟨v', W', h1, o, p, _, q⟩ := run_append_own_at (P := P) W B t t e y z size bytes ht b c d g hzs hsz v n xs hown h m cap cs hlen
    (fun j u w => by obtain ⟨k, e, s⟩ := hr j u w; injection e with e; subst e; exact s) h1 (by unfold maxLen; omega) (by have := Nat.mul_le_mul hb hby; omega) hB
   exact ⟨v', W', h1, o, p, q⟩
theorem Vn : (Tryz.prog.info? 65).map (fun i => (i.zero, i.size, i.bytes)) = some (some (.agg #[.int .i64 0, .int .i64 0]), 2, 16) := by kernel_rfl
theorem Xp {ops : Array Oper} {rest : List Oper} {o : Oper} {a : Act} {w : World} {Q : Exit → Act → World → Prop} (h : Stop (wpList Tryz.prog ops Q (o :: rest) a w) id) : wpList Tryz.prog ops Q (o :: rest) a w := h.out
theorem Zd {P : Program} {ops : Array Oper} {rest : List Oper} {o : Oper} {a : Act} {w w1 : World} {Q : Exit → Act → World → Prop} (hgd : o.guard = none) (v : Value) (hv : (execOp a.eval o).run P w = .ok (.value v) w1) (h : wpList P ops Q rest (a.put o.dst v) w1) : wpList P ops Q (o :: rest) a w :=
 wpList_plain hgd fun _ hK => by unfold Oper.wp; rw [hv]; exact hK _ _ h
theorem UQ {P : Program} {o : Oper} {w w1 : World} {ρ : Operand → Value} {s x : Operand} {t u : TypeId} (ho : o.op = .call { callee := .builtin .append, args := #[s, x], argTypes := #[t, u] }) {v : Value} (hv : (Builtin.append_ #[t, u] o.type #[ρ s, ρ x]).run P w = .ok v w1) : (execOp ρ o).run P w = .ok (.value v) w1 := by
 unfold execOp;simp only [ho, resolve, invoke, builtin, Sem.run_bind, Sem.run_pure, Result.andThen_ok, Nn, LM, Nu, hv]
theorem AfD (n : Nat) (hn : n ≤ 1000000) (w : World) : Calls Tryz.prog 218 #[.slice none 0 0, .int .i64 (n : Int)] w fun e w' => ∃ A cap, e = .returned (.slice A 0 cap) ∧ w'.ownsRow w.heap.size 65 2 (.slice A 0 cap) 0 [] ∧ Below w.heap.size w w' := by
 have u : ¬ ((n : Int) < 0) := by omega
 have v : wrap64 ((0 : Int) - 0) = 0 := by unfold wrap64; omega
 have x : wrap64 ((n : Int) - 0) = (n : Int) := by unfold wrap64; omega
 have y : IntKind.i64.wrap (n : Int) = (n : Int) := IntWalk.i64_in _ (by omega);by_cases q : n = 0
 · subst q;go_enter Tryz.func218, Tryz.ntmps218
   go_wp2
   go_ret
   exact ⟨_, _, rfl, World.ownsRow_nil _ _ _ _, Below.refl _ _⟩
 · have z : (0 : Int) < (n : Int) := by omega
   obtain ⟨o, j, k, l, g⟩ := info_parts Vn;have c : (Builtin.firstCells o.size 0 (.slice none 0 0)).run Tryz.prog w.drew = .ok ([] : List Value).toArray w.drew := run_firstCells_none w.drew o.size 0 0 0
   have b := fun t => Lib.run_append_grow_zeros (P := Tryz.prog) w 23 3 t 65 o _ .i64 .i64 Tryz.underlying23 Tryz.underlying3 j k none 0 0 [] c n (by omega) (by rw [l]; omega) (by omega) (by omega) (by rw [g]; omega) (growslice_fits (by omega) (by rw [g]; omega))
   simp only [LF] at b;have m := grownCap_ge w n 0 65;have d := grownCap_le_maxLen w n 0 65 (by unfold maxLen; omega);generalize grownCap w n 0 65 = G at b m d
   have i : ((([] : List Value).toArray ++ Builtin.zeroCells (Value.agg #[.int .i64 0, .int .i64 0]).cells n ++ Builtin.zeroCells (Value.agg #[.int .i64 0, .int .i64 0]).cells (G - n)) : Array Value).size = G * 2 := by
    simp only [Array.size_append, size_zeroCells];show 0 + n * 2 + (G - n) * 2 = G * 2;omega
   generalize (([] : List Value).toArray ++ Builtin.zeroCells (Value.agg #[.int .i64 0, .int .i64 0]).cells n ++ Builtin.zeroCells (Value.agg #[.int .i64 0, .int .i64 0]).cells (G - n)) = cs at b i;have h := Lh b;have s : G ≤ 9223372036854775807 := by unfold maxLen at d; omega
   clear b j k l g c q;go_enter Tryz.func218, Tryz.ntmps218
   go_wp2_with (at_builtin; refine Xp ?_)
   refine Stop.to ?_;refine Zd rfl _ (UQ rfl (h.out _)) ?_;have rn : Row (w.drew.alloc (.cells cs 65)) w.heap.size 65 cs := Row.new w.drew _ _;have p : Below w.heap.size w (w.drew.alloc (.cells cs 65)) := (⟨rfl, rfl, rfl, Nat.le_refl _, fun _ _ => rfl⟩ : Below w.heap.size w w.drew).trans ((Below.refl _ w.drew).alloc (Nat.le_refl _) _);generalize w.drew.alloc (.cells cs 65) = w1 at rn p ⊢;clear h;go_wp2
   go_ret
   exact ⟨_, _, rfl, ⟨by simp, .inr ⟨w.heap.size, G, cs, rfl, Nat.le_refl _, rn, Nat.zero_le _, d, i, by simp⟩⟩, p⟩
structure PtV where
 addr : Option Addr
 cap : Nat
 body : List Nd
def PtV.val (q : PtV) : Value := .slice q.addr q.body.length q.cap
def PtV.rd (q : PtV) (w : World) : Prop := Rd w q.addr (q.body.flatMap Nd.cells) ∧ (q.addr = none → q.body = [])
def Q6 (ps : List PtV) : List Nd := ps.flatMap PtV.body
theorem PtV.rd.go {q : PtV} {w w' : World} (h : q.rd w) (b : Below w.heap.size w w') : q.rd w' := ⟨h.1.go b, h.2⟩
theorem Z1 (l : List Nd) : (l.flatMap Nd.cells).length = l.length * 2 := by
 induction l with
 | nil => rfl
 | cons a l ih => simp only [LA, Ld, ih, Lc]; simp [Nd.cells]; omega
theorem Vp (l : List Nd) : ∀ u ∈ l.flatMap Nd.cells, u.oneCell' = true := by
 intro u b;simp only [ND, Nd.cells, Lt, L3, or_false] at b;obtain ⟨a, _, rfl | rfl⟩ := b <;> rfl
theorem AdJ {W : World} {B n m cap : Nat} {v : Value} {xs : List Value} {A : Option Addr} {l : List Nd} (hown : W.ownsRow B 65 2 v n xs) (hB : B ≤ W.heap.size) (hr : Rd W A (l.flatMap Nd.cells)) (hm : m = l.length) (hA : A = none → m = 0) (hb : n + m ≤ 1000000) :
 ∃ v' W', (Builtin.append_ #[23, 23] 23 #[v, .slice A m cap]).run Tryz.prog W = .ok v' W' ∧ W'.ownsRow B 65 2 v' (n + m) (xs ++ l.flatMap Nd.cells) ∧ W.grownBy W' v.ownBlock ∧ (v'.ownBlock = v.ownBlock ∨ v'.ownBlock = some W.heap.size) :=
 Zr 23 65 _ 2 16 Tryz.underlying23 Vn rfl (by decide) (by decide) hown hB hr (by rw [Z1, hm]) (Vp l) hA hb
theorem Zh {w : World} {base n size : Nat} {e : TypeId} {v : Value} {xs : List Value} (h : w.ownsRow base e size v n xs) : ∃ A cap, v = .slice A n cap := by
 rcases h.2 with ⟨rfl, c⟩ | ⟨g, cap, b, rfl, _⟩
 · subst c; exact ⟨_, _, rfl⟩
 · exact ⟨_, _, rfl⟩
theorem U7 {ps : List PtV} {k : Nat} {q : PtV} (h : ps[k]? = some q) : Q6 (ps.take (k + 1)) = Q6 (ps.take k) ++ q.body := by
 unfold Q6;rw [Lz, h];simp
theorem AaZ (ps : List PtV) (k : Nat) : (Q6 (ps.take k)).length ≤ (Q6 ps).length := by
 have : Q6 ps = Q6 (ps.take k) ++ Q6 (ps.drop k) := by
  unfold Q6;rw [← L5, LC]
 rw [this]; simp
theorem AdV (A : Option Addr) (m cp : Nat) (ps : List PtV) (w : World) (hm : m = ps.length) (hr : Rd w A (ps.map PtV.val)) (hps : ∀ q ∈ ps, q.rd w) (hl : (Q6 ps).length ≤ 1000000) (hml : m ≤ 1000) :
 Calls Tryz.prog 197 #[.slice A m cp] w fun e w' => ∃ v, e = .returned v ∧ w'.ownsRow w.heap.size 65 2 v (Q6 ps).length ((Q6 ps).flatMap Nd.cells) ∧ Below w.heap.size w w' := by
 have Hr := Lh hr;have ae := Lh hps;have Hm := Lh hm;have af := hl;clear hr hps hm;go_enter Tryz.func197, Tryz.ntmps197
 go_wp2
 go_loopw [3, 11] (fun s i wr => ∃ k : Nat, i = .int .i64 (k : Int) ∧ s = .int .i64 ((Q6 (ps.take k)).length : Int) ∧ k ≤ m ∧ w = wr) (fun _ i _ => m - (intOf i).toNat)
 case atStart => exact ⟨0, rfl, by simp [Q6], Nat.zero_le _, rfl⟩
 case round =>
  obtain ⟨k, rfl, rfl, hk, rfl⟩ := hrel;by_cases x : k < m
  · obtain ⟨q, o⟩ : ∃ q, ps[k]? = some q := ⟨_, La (by have := Hm.out; omega)⟩;obtain ⟨ad, rfl, hc⟩ := Hr.out k q.val (by simp [o]);have aj : (k : Int) < (m : Int) := by omega
    have z := U7 o;have d := AaZ ps (k + 1);rw [z, Ld] at d;have e1 : IntKind.i64.wrap (((Q6 (ps.take k)).length : Int) + (q.body.length : Int)) = ((Q6 (ps.take k)).length : Int) + (q.body.length : Int) := IntWalk.i64_in _ (by omega);have e2 : ¬ (((Q6 (ps.take k)).length : Int) + (q.body.length : Int) < 0) := by omega
    have ah : IntKind.i64.wrap ((k : Int) + 1) = (k : Int) + 1 := IntWalk.i64_in _ (by omega);have Hs : Hid ((((Q6 (ps.take k)).length : Int) + (q.body.length : Int)) = ((Q6 (ps.take (k + 1))).length : Int)) := by show _ = _; rw [z, Ld]; omega
    unfold PtV.val at hc;clear z d o;generalize (Q6 (ps.take k)).length = sk at *;go_wp2
    go_roundw
    case rel => exact ⟨k + 1, by go_num, by rw [← Hs.out], by omega, by trivial⟩
    case measure => simp [intOf]; omega
  · obtain rfl : k = m := by omega
    have ht : ps.take k = ps := by rw [Hm.out]; exact LQ
    rw [ht];obtain ⟨n, hn⟩ : ∃ n, n = (Q6 ps).length := ⟨_, rfl⟩;have Hn := Lh hn;rw [← hn] at hl ⊢;clear x hk ht hn af;go_wp2_with fail
    refine (AfD n hl w).mono ?_;rintro e w1 ⟨A1, c1, rfl, l, b1⟩;have b := Lh l;have aa := Lh b1;clear l b1;go_wp2
    go_loopw [6, 27] (fun s i W => ∃ (k' : Nat) (v : Value), s = v ∧ i = .int .i64 (k' : Int) ∧ k' ≤ k ∧ Hid (W.ownsRow w.heap.size 65 2 v (Q6 (ps.take k')).length ((Q6 (ps.take k')).flatMap Nd.cells)) ∧ Hid (Below w.heap.size w W)) (fun _ i _ => k - (intOf i).toNat)
    case atStart => exact ⟨0, _, rfl, rfl, Nat.zero_le _, by simpa [Q6] using b, aa⟩
    case round =>
     clear b aa;obtain ⟨j, v, rfl, rfl, hj, b, t⟩ := hrel;by_cases x : j < k
     · obtain ⟨q, o⟩ : ∃ q, ps[j]? = some q := ⟨_, La (by have := Hm.out; omega)⟩;obtain ⟨ad, rfl, hc⟩ := (Hr.out.go t.out) j q.val (by simp [o]);have y := (ae.out q (Lg o)).go t.out;have ai : (j : Int) < (k : Int) := by omega
       have z := U7 o;have d := AaZ ps (j + 1);rw [z, Ld, ← Hn.out] at d;have ag : IntKind.i64.wrap ((j : Int) + 1) = (j : Int) + 1 := IntWalk.i64_in _ (by omega);obtain ⟨v2, W2, p, c, ab, _⟩ := AdJ (cap := q.cap) b.out t.out.size y.1 (rfl : q.body.length = q.body.length) (fun h => by rw [y.2 h]; rfl) (by omega);have b2 := QD (Below.refl w.heap.size _) b.out ab t.out.size (Nat.le_refl _)
       have u : Hid (W2.ownsRow w.heap.size 65 2 v2 (Q6 (ps.take (j + 1))).length ((Q6 (ps.take (j + 1))).flatMap Nd.cells)) := by
        show W2.ownsRow _ _ _ _ _ _;rw [z, Ld, L5]; exact c
       have ac := Lh (t.out.trans b2);have g := Lh p;obtain ⟨A2, c2, rfl⟩ := Zh c;obtain ⟨A3, c3, rfl⟩ := Zh b.out;unfold PtV.val at hc;clear z d o p c ab b2 y b t;go_wp2_with (at_builtin; refine Xp ?_)
       refine Stop.to ?_;refine Zd rfl _ (Qy rfl g.out) ?_;clear g hc;go_wp2
       go_roundw
       case rel => exact ⟨j + 1, _, rfl, by go_num, by omega, u, ac⟩
       case measure => simp [intOf]; omega
     · obtain rfl : j = k := by omega
       have ht : ps.take j = ps := by rw [Hm.out]; exact LQ
       rw [ht] at b;obtain ⟨A3, c3, rfl⟩ := Zh b.out;clear x hj ht;go_wp2
       go_ret
       exact ⟨_, rfl, b.out, t.out⟩
theorem VS : ∀ (l : List EvV) (k : Nat) (e : EvV), l[k]? = some e → ∀ j u, e.cells[j]? = some u → (l.flatMap EvV.cells)[k * 3 + j]? = some u
 | [], k, e, h, _, _, _ => by simp at h
 | a :: l, 0, e, h, j, u, hj => by
  simp at h; subst h
  have hl : j < a.cells.length := (Lb.1 hj).1
  simp only [LA]
  rw [L1 (by omega)]
  simpa using hj
 | a :: l, k + 1, e, h, j, u, hj => by
  simp only [LA]
  rw [Lw (by simp [EvV.cells]; omega)]
  have := VS l k e (by simpa using h) j u hj
  rw [← this]; congr 1; simp [EvV.cells]; omega
theorem ZM {P : Program} {ops : Array Oper} {S : World → Prop} {Q : Act → Prop} {a : Act} {o : Oper} {rest : List Oper} (hw : Region.wanted o (yielded ops a.tmps) = true) (ty : TypeId) (x : Operand) (ho : o.op = .load ty x) (ad : Addr) (hx : a.eval x = .pointer (some ad)) (cs : List Value) (d : TypeDesc)
 (hr : ∀ W, S W → ∀ j v, cs[j]? = some v → W.cell? (ad.add j) = some v) (hu : P.underlying ty = some d) (hd : (match d with | .struct _ | .array _ _ => true | _ => false) = true) (hi : (P.info? ty).map (·.size) = some cs.length)
 (h : ZX P ops S Q rest (a.put o.dst (.agg cs.toArray))) : ZX P ops S Q (o :: rest) a :=
 Qg hw (.agg cs.toArray) (fun W hW => by
  simp only [execOp, ho, hx, Instr.loadAt, Instr.sureAddr, Sem.run_bind, Sem.run_pure, Result.andThen_ok, JT W ad ty cs d (hr W hW) hu hd hi]) h
theorem Yb {P : Program} {o : Oper} {w : World} {ρ : Operand → Value} {b : BinOp} {t t' : TypeId} {x y : Operand} (ho : o.op = .binOp b t x y t') (v : Value) (hg : (eqGuard b t x y (ρ x) (ρ y)).run P w = .ok () w) (hv : (binOp b t (ρ x) (ρ y)).run P w = .ok v w) : (execOp ρ o).run P w = .ok (.value v) w := by
 simp only [execOp, ho, Sem.run_bind, hg, hv, Result.andThen_ok, Sem.run_pure]
end Go.Proofs.YtkoikjnlpifbjaaGreat
namespace Go.Proofs.YtkoikjnlpifbjaaGreat
open Go.RowKit
section
variable {P : Program} {ops : Array Oper} {rest : List Oper} {o : Oper} {a : Act} {w : World} {Q : Exit → Act → World → Prop}
theorem AdA (S : World → Prop) (hS : S w) : ∀ (n : Nat) (l : List Oper) (a : Act) (w : World), S w → ZX P ops S (fun a' => ∀ W, S W → wpList P ops Q (l.drop n) a' W) (l.take n) a → wpList P ops Q l a w := by
 intro n
 induction n with
 | zero => intro l a w hS h; exact h w hS
 | succ n ih =>
  intro l a w hS h;cases l with
  | nil => exact h w hS
  | cons o l =>
   obtain ⟨v, k, d⟩ := h;refine wpList_step fun K c => ?_
   rcases k with ⟨i, j⟩ | ⟨i, rfl⟩
   · rw [if_pos i];have b := j w hS;unfold Oper.wp;generalize (execOp a.eval o).run P w = r at b;cases r with
     | ok n' w' =>
      cases n' <;> simp only [X3] at b <;> simp only [Oper.upon]
      case value u => obtain ⟨rfl, g⟩ := b; exact c _ _ (ih l _ _ g d)
      case skip => obtain ⟨rfl, g⟩ := b; exact c _ _ (ih l _ _ g d)
      case enter f args => exact b.mono fun e w'' ⟨he, hs⟩ => by subst he; exact c _ _ (ih l _ _ hs d)
     | halt x w' => simp only [X3] at b
   · rw [if_neg (by rw [i]; simp)];exact c _ _ (ih l _ _ hS d)
theorem AbY (S : World → Prop) (n : Nat) {l : List Oper} (hS : S w) (h : ZX P ops S (fun a' => ∀ W, S W → wpList P ops Q (l.drop n) a' W) (l.take n) a) : wpList P ops Q l a w := AdA S hS n l a w hS h
theorem ZC (t : TypeId) (n : Nat) (ps : Array (Nat × Operand)) (_ : o.op = .buildSlice t n ps) (h : Stop (wpList P ops Q (o :: rest) a w) id) : wpList P ops Q (o :: rest) a w := h.out
theorem Ajj (h : Stop (wpList P ops Q (o :: rest) a w) id) : wpList P ops Q (o :: rest) a w := h.out
theorem Qt (hw : Region.wanted o (yielded ops a.tmps) = true) (t : TypeId) (n : Nat) (ps : Array (Nat × Operand)) (ho : o.op = .buildSlice t n ps) (e : TypeId) (cells : Array Value)
 (hx : ∀ W, (Instr.buildSlice t n (ps.map fun (i, x) => (i, a.eval x))).run P W = .ok (.slice (some ⟨W.heap.size, 0, none⟩) n n) (W.alloc (.cells cells e)))
 (h : ∀ g w', w.heap.size ≤ g → Row w' g e cells → Below g w w' → wpList P ops Q rest (a.put o.dst (.slice (some ⟨g, 0, none⟩) n n)) w') : wpList P ops Q (o :: rest) a w := by
 refine BigFrame.wpList_want hw fun K b => ?_
 unfold Oper.wp execOp;simp only [ho, Sem.run_bind, hx, Result.andThen_ok, Sem.run_pure];exact b _ _ (h _ _ (Nat.le_refl _) (Row.new _ _ _) ((Below.refl _ _).alloc (Nat.le_refl _) _))
theorem Z2 {t e : TypeId} {n sz : Nat} {z : Value} {parts : Array (Nat × Value)} {cells : Array Value} (hu : P.underlying t = some (.slice e)) (hi : (P.info? e).map (fun i => (i.zero, i.size)) = some (some z, sz)) (h1 : n * sz ≤ 2 ^ 24) (h2 : n * sz ≠ 0)
 (hf : Instr.fill (fun i => some (i * sz, sz)) ((Array.range (n * sz)).map (z.cells[· % z.cells.size]!)) parts.toList = some cells) : ∀ W, (Instr.buildSlice t n parts).run P W = .ok (.slice (some ⟨W.heap.size, 0, none⟩) n n) (W.alloc (.cells cells e)) := by
 intro W;cases hq : P.info? e with
 | none => rw [hq] at hi; cases hi
 | some ie =>
  rw [hq] at hi;simp only [Nl, Nb, Prod.mk.injEq] at hi;obtain ⟨b, rfl⟩ := hi;exact run_buildSlice W t e n parts cells ie z hu hq b (by omega) h2 hf
end
end Go.Proofs.YtkoikjnlpifbjaaGreat
