/- Lemmas for RunnerJustP. -/
import Derived.Test.YtkoikjnlpifbjaaGreatZb7
import Derived.Test.YtkoikjnlpifbjaaGreatZb4
import Derived.Test.YtkoikjnlpifbjaaGreatZb5
import Derived.Test.YtkoikjnlpifbjaaGreatZb1
import Derived.Test.YtkoikjnlpifbjaaGreatZb2
import Derived.Maps.AppendAt
import Derived.Deep.Cut
import Derived.Lib.AppendZerosOnto
import Derived.Great.BuildSlice
import Derived.Lib.SliceRun
set_option linter.unusedVariables false
set_option linter.unusedSimpArgs false
set_option maxRecDepth 100000
set_option maxHeartbeats 16000000
namespace Go.Proofs.YtkoikjnlpifbjaaGreat
open Go.RowKit Go.Deep
structure Good (p : PgV) (t : Tr) : Prop where
 hat : At p.body 0 t
 size : t.size = p.body.length
 vars : Xj p.params p.V
 tag : t.root.tag = 20
 kind : ofT p.V t = 2
open Classical in
noncomputable def Zs (p : PgV) (n : Nat) (fuel : Int) : Int := if ∃ t, Good p t then (if (n : Int) ≠ p.params then 18 else if fuel < 0 ∨ 10000 < fuel then 19 else 0) else 23
theorem JM {p : PgV} {n : Nat} {fuel : Int} (h : ∀ t, ¬ Good p t) : Zs p n fuel = 23 := by unfold Zs; rw [if_neg (fun ⟨t, ht⟩ => h t ht)]
theorem JL {p : PgV} {n : Nat} {fuel : Int} {t : Tr} (h : Good p t) : Zs p n fuel = if (n : Int) ≠ p.params then 18 else if fuel < 0 ∨ 10000 < fuel then 19 else 0 := by unfold Zs; rw [if_pos ⟨t, h⟩]
theorem At.uniq {l : List Nd} {q : Nat} {a b : Tr} (ha : At l q a) (hb : At l q b) : a = b := by
 have o : ∀ n, (∀ (a b : Tr) (r s : List Nd), a.size ≤ n → a.fits → b.fits → a.flat ++ r = b.flat ++ s → a = b) ∧ (∀ (c g : List Tr) (r s : List Nd), (QL c).length ≤ n → c.length = g.length → (∀ t ∈ c, t.fits) → (∀ t ∈ g, t.fits) → QL c ++ r = QL g ++ s → c = g) := by
  intro n
  induction n with
  | zero =>
   refine ⟨fun a b r s h => by have := a.size_eq; omega, fun c g r s h d _ _ _ => ?_⟩;cases c with
   | nil => exact (L0 (by simpa using d.symm)).symm
   | cons t ts => rw [QL, Lf] at h; have := t.size_eq; have aa : t.size = t.flat.length := rfl; omega
  | succ n ih =>
   have one : ∀ (a b : Tr) (r s : List Nd), a.size ≤ n + 1 → a.fits → b.fits → a.flat ++ r = b.flat ++ s → a = b := by
    rintro ⟨x, p⟩ ⟨y, w⟩ r s h i j e;have v := e;rw [Tr.flat_eq, Tr.flat_eq, Ln, Ln] at v;injection v with e1 e2;simp only [Tr.root, Tr.kids] at e1 e2;subst e1
    have d : p.length = w.length := by
     have z := i.arity;have h2 := j.arity;simp only [Tr.root, Tr.kids] at z h2;omega
    have h4 := (Tr.node x p).size_eq;simp only [Tr.kids] at h4;rw [ih.2 p w r s (by omega) d i.kid j.kid e2]
   refine ⟨one, fun c g => ?_⟩
   induction c generalizing g with
   | nil => intro r s _ d _ _ _; exact (L0 (by simpa using d.symm)).symm
   | cons t ts iht =>
    intro r s h d i j e;cases g with
    | nil => simp at d
    | cons u us =>
     rw [QL, QL, L4, L4] at e;rw [QL, Lf] at h;have ht : t = u := one t u _ _ (by unfold Tr.size; omega) (i t (by simp)) (j u (by simp)) e;subst ht;rw [iht us r s (by omega) (by simpa using d) (fun k m => i k (by simp [m])) (fun k m => j k (by simp [m])) (List.append_cancel_left e)]
 obtain ⟨r, hr⟩ := ha.here;obtain ⟨s, hs⟩ := hb.here;exact (o a.size).1 a b r s (Nat.le_refl _) ha.fits hb.fits (by rw [← hr, hs])
theorem Ku {p : PgV} {t : Tr} (hat : At p.body 0 t) (h : ¬ (t.root.tag = 20 ∧ ofT p.V t = 2)) : ∀ t', ¬ Good p t' := fun t' g => by
 have := hat.uniq g.hat;subst this;exact h ⟨g.tag, g.kind⟩
theorem AaA {p : PgV} (h : Jt p.params p.V ≠ 0) : ∀ t', ¬ Good p t' := fun t' g => h (by unfold Jt; rw [if_pos g.vars])
theorem AbQ {p : PgV} (h : endZ p.body 0 ≠ (p.body.length : Int)) : ∀ t', ¬ Good p t' := fun t' g => h (by
 have := g.hat.endZ
 rw [g.size, LN] at this
 exact this)
theorem AbR {p : PgV} (h : p.body.length = 0) : ∀ t', ¬ Good p t' := fun t' g => by have := g.hat.lt; omega
theorem YF (a : Int) (V : List Int) : Jt a V = 0 ∧ Xj a V ∨ Jt a V = 14 := by
 unfold Jt;by_cases h : Xj a V
 · rw [if_pos h]; exact .inl ⟨rfl, h⟩
 · rw [if_neg h]; exact .inr rfl
theorem EK (p : PgV) (aa : Option Addr) (acap n : Nat) (fuel : Int) (hbl : p.body.length ≤ 1000) (hn : n ≤ 1000) (w : World) (hok : p.ok w) : Calls Tryz.prog 96 #[.agg p.cells, .slice aa n acap, .int .i64 fuel] w fun e w' => e = .returned (.int .i64 (Zs p n fuel)) ∧ Below w.heap.size w w' := by
 have ab := Lv hbl;have ac := Lv hok;clear hbl hok;go_enter Tryz.func96, Tryz.ntmps96
 go_wp2_with (refine Qm _ _ rfl ?_)
 refine Stop.to ?_;refine Qe rfl 25 _ rfl p.cells rfl ?_;intro G w1 hG r1 b1;have b1 := (Below.refl w.heap.size w).trans (b1.mono hG);obtain ⟨S, g⟩ : ∃ S, S = (fun W => Row W G 25 p.cells ∧ p.ok W ∧ Below w.heap.size w W) := ⟨_, rfl⟩;have av : St S := by rw [g]; infer_instance
 have s0 : ∀ W, S W → Row W G 25 p.cells := by rw [g]; exact fun W h => h.1
 have S1 : Hid (∀ W, S W → p.ok W) := by show ∀ W, _; rw [g]; exact fun W h => h.2.1
 have q : Hid (∀ W, S W → Below w.heap.size w W) := by show ∀ W, _; rw [g]; exact fun W h => h.2.2
 have hS : S w1 := by rw [g]; exact ⟨r1, ac.out.go b1, b1⟩
 have s := Lv s0;clear g r1 b1 hG ac s0;go_wp2_with fail
 refine ZJ S (by kernel_rfl) (by kernel_rfl) (St.drew hS) ?_;clear hS;(refine Zd rfl 25 _ rfl (G) rfl 25 _ _ s.out Tryz.underlying25 rfl (by kernel_rfl) ?_; simp only [Act.put, Qa, Qb, Qc]);(refine QG rfl 61 _ (fun W => by (go_simp; try rfl)) _ (fun W b => Ad3 p W (S1.out _ b)) ?_; simp only [Act.put, Qa, Qb, Qc])
 have aj := YF p.params p.V;generalize u : Jt p.params p.V = ve at aj;have am := Lv u;clear u;rcases aj with ⟨rfl, x⟩ | rfl;rotate_left
 · have d := Lv (JM (n := n) (fuel := fuel) (AaA (p := p) (by rw [am.out]; omega)))
   iterate 2 (refine Qg rfl ?_ (fun W b => ?_) ?_; rotate_left; (focus (go_simp; exact rfl)); simp only [Act.put, Qa, Qb, Qc])
   iterate 4 (refine YO rfl ?_; simp only [Act.put, Qa, Qb, Qc])
   iterate 2 (refine Qg rfl ?_ (fun W b => ?_) ?_; rotate_left; (focus (go_simp; exact rfl)); simp only [Act.put, Qa, Qb, Qc])
   iterate 7 (refine YO rfl ?_; simp only [Act.put, Qa, Qb, Qc])
   iterate 2 (refine Qg rfl ?_ (fun W b => ?_) ?_; rotate_left; (focus (go_simp; exact rfl)); simp only [Act.put, Qa, Qb, Qc])
   refine QS fun W b => ?_
   go_wp2
   go_ret
   exact ⟨Q1 d.out, q.out _ b⟩
 have ad := Lv x;clear x;by_cases hl : p.body.length = 0
 · have d := Lv (JM (n := n) (fuel := fuel) (AbR hl));have ap : ((p.body.length : Int) == 0) = true := by simp [hl]
   clear hl
   iterate 3 (refine Qg rfl ?_ (fun W b => ?_) ?_; rotate_left; (focus (go_simp; exact rfl)); simp only [Act.put, Qa, Qb, Qc])
   (refine Qg rfl ?_ (fun W b => ?_) ?_; rotate_left; (focus (have c := (s.out _ b).cellv (i := 2) (v := .slice p.ba p.body.length p.bcap) rfl; go_simp; exact rfl)); simp only [Act.put, Qa, Qb, Qc])
   iterate 4 (refine Qg rfl ?_ (fun W b => ?_) ?_; rotate_left; (focus (go_simp; exact rfl)); simp only [Act.put, Qa, Qb, Qc])
   iterate 7 (refine YO rfl ?_; simp only [Act.put, Qa, Qb, Qc])
   iterate 2 (refine Qg rfl ?_ (fun W b => ?_) ?_; rotate_left; (focus (go_simp; exact rfl)); simp only [Act.put, Qa, Qb, Qc])
   refine QS fun W b => ?_
   go_wp2
   go_ret
   exact ⟨Q1 d.out, q.out _ b⟩
 have ap : ((p.body.length : Int) == 0) = false := by simpa using hl
 have Hl := Lv hl;clear hl
 iterate 3 (refine Qg rfl ?_ (fun W b => ?_) ?_; rotate_left; (focus (go_simp; exact rfl)); simp only [Act.put, Qa, Qb, Qc])
 (refine Qg rfl ?_ (fun W b => ?_) ?_; rotate_left; (focus (have c := (s.out _ b).cellv (i := 2) (v := .slice p.ba p.body.length p.bcap) rfl; go_simp; exact rfl)); simp only [Act.put, Qa, Qb, Qc])
 iterate 5 (refine Qg rfl ?_ (fun W b => ?_) ?_; rotate_left; (focus (go_simp; exact rfl)); simp only [Act.put, Qa, Qb, Qc])
 (refine Qg rfl ?_ (fun W b => ?_) ?_; rotate_left; (focus (have c := (s.out _ b).cellv (i := 2) (v := .slice p.ba p.body.length p.bcap) rfl; go_simp; exact rfl)); simp only [Act.put, Qa, Qb, Qc]);(refine QG rfl 102 _ (fun W => by (go_simp; try rfl)) _ (fun W b => JV p.ba p.bcap p.body 0 W (S1.out _ b).brd ab.out) ?_; simp only [Act.put, Qa, Qb, Qc])
 iterate 1 (refine Qg rfl ?_ (fun W b => ?_) ?_; rotate_left; (focus (go_simp; exact rfl)); simp only [Act.put, Qa, Qb, Qc])
 (refine Qg rfl ?_ (fun W b => ?_) ?_; rotate_left; (focus (have c := (s.out _ b).cellv (i := 2) (v := .slice p.ba p.body.length p.bcap) rfl; go_simp; exact rfl)); simp only [Act.put, Qa, Qb, Qc])
 iterate 1 (refine Qg rfl ?_ (fun W b => ?_) ?_; rotate_left; (focus (go_simp; exact rfl)); simp only [Act.put, Qa, Qb, Qc])
 by_cases y : endZ p.body 0 = (p.body.length : Int);rotate_left
 · have d := Lv (JM (n := n) (fuel := fuel) (AbQ y));have an : (endZ p.body 0 != (p.body.length : Int)) = true := by simpa using y
   clear y
   iterate 3 (refine Qg rfl ?_ (fun W b => ?_) ?_; rotate_left; (focus (go_simp; exact rfl)); simp only [Act.put, Qa, Qb, Qc])
   refine QS fun W b => ?_
   go_wp2
   go_ret
   exact ⟨Q1 d.out, q.out _ b⟩
 have an : (endZ p.body 0 != (p.body.length : Int)) = false := by simp [y]
 have He := Lv y;clear y
 iterate 3 (refine Qg rfl ?_ (fun W b => ?_) ?_; rotate_left; (focus (go_simp; exact rfl)); simp only [Act.put, Qa, Qb, Qc])
 refine QS fun W b => ?_
 obtain ⟨t, m, _⟩ := YZ (l := p.body) (a := 0) (by rw [He.out]; omega);have m : At p.body 0 t := m;have ai : t.size = p.body.length := by have h1 := m.endZ; have h2 := He.out; simp only [LN] at h1; have h3 : endZ p.body 0 = (t.size : Int) := h1; omega
 have o := Lv m;have al := Lv ai;have c2 := (s.out _ b).cellv (i := 2) (v := .slice p.ba p.body.length p.bcap) rfl;obtain ⟨bd, ae, ag⟩ := JW (S1.out _ b).brd (k := 0) m.root;have af := ag 0 (.int .i64 t.root.tag) rfl;rw [show (bd.add (0 * 2)).add 0 = bd by rw [KY]; simp [Addr.add]] at af;rw [ae] at c2;have aq : (0 : Int) < (p.body.length : Int) := by have := Hl.out; omega
 have ak : 0 < p.body.length := by omega
 clear ag ae m ai;by_cases ht : t.root.tag = 20;rotate_left
 · have d := Lv (JM (n := n) (fuel := fuel) (Ku o.out (fun h => ht h.1)));have au : (t.root.tag != 20) = true := by simpa using ht
   clear ht;go_wp2
   go_ret
   exact ⟨Q1 d.out, q.out _ b⟩
 have au : (t.root.tag != 20) = false := by simp [ht]
 have Ht := Lv ht;clear ht;go_wp2_with (refine Ko rfl 25 _ rfl G rfl 25 p.cells (0, 0) _ (s.out _ b) Tryz.underlying25 rfl (by kernel_rfl) ?_)
 refine (Adc p ab.out t 0 o.out W (S1.out _ b)).mono ?_;rintro e W2 ⟨rfl, b2⟩;have j := av.go b b2;clear c2 af b2 b;by_cases z : ofT p.V t = 2;rotate_left
 · have d := Lv (JM (n := n) (fuel := fuel) (Ku o.out (fun h => z h.2)));have ao : (ofT p.V t != 2) = true := by simpa using z
   clear z;go_wp2
   go_ret
   exact ⟨Q1 d.out, q.out _ j⟩
 have ao : (ofT p.V t != 2) = false := by simp [z]
 have d := Lv (JL (n := n) (fuel := fuel) (⟨o.out, al.out, ad.out, Ht.out, z⟩ : Good p t));have c0 := (s.out _ j).cellv (i := 0) (v := .int .i64 p.params) rfl;clear z;by_cases hp : (n : Int) = p.params;rotate_left
 · have ar : ((n : Int) != p.params) = true := by simpa using hp
   have Hp := Lv hp;clear hp;go_wp2
   go_ret
   exact ⟨Q1 (by rw [d.out, if_pos Hp.out]), q.out _ j⟩
 have ar : ((n : Int) != p.params) = false := by simp [hp]
 have Hp := Lv hp;clear hp;by_cases hf : fuel < 0
 · go_wp2
   go_ret
   exact ⟨Q1 (by rw [d.out, if_neg (fun h => h Hp.out), if_pos (.inl hf)]), q.out _ j⟩
 have aw : 0 ≤ fuel := by omega
 by_cases ah : 10000 < fuel
 · clear hf;go_wp2
   go_ret
   exact ⟨Q1 (by rw [d.out, if_neg (fun h => h Hp.out), if_pos (.inr ah)]), q.out _ j⟩
 have ax : fuel ≤ 10000 := by omega
 clear hf ah;go_wp2
 go_ret
 exact ⟨Q1 (by rw [d.out, if_neg (fun h => h Hp.out), if_neg (by omega)]), q.out _ j⟩
end Go.Proofs.YtkoikjnlpifbjaaGreat
namespace Go.Proofs.YtkoikjnlpifbjaaGreat
open Go.RowKit
structure Mt where
 d : Dl
 verdict : Int
 test : Int
 kind : Int
 value : Int
 digest : List UInt8
structure Sc where
 alive : Int
 killed : Int
 timeout : Int
def ZI (l : List Mt) (v : Int) : Int := ((l.filter fun m => m.verdict == v).length : Int)
def Qx (l : List Mt) : Sc := ⟨ZI l 0, ZI l 1, ZI l 2⟩
def ZR (params : Int) (tests : List (List Int)) (fuel : Int) : Int :=
 if tests.length < 1 ∨ 20 < tests.length then 18 else if ∀ l ∈ tests, (l.length : Int) = params then (if fuel < 1 ∨ 10000 < fuel then 19 else 0) else 18
def JY (m : Mt) : Bool :=
 if m.verdict = 0 then decide (m.test = -1 ∧ m.kind = 0 ∧ m.value = 0 ∧ m.digest = [])
 else if m.verdict = 1 then decide ((0 ≤ m.test ∧ m.test ≤ 19 ∧ m.digest.length = 32) ∧ 0 ≤ m.kind ∧ m.kind ≤ 3 ∧ (m.kind = 0 ∨ m.value = 0))
 else if m.verdict = 2 then decide ((0 ≤ m.test ∧ m.test ≤ 19 ∧ m.digest.length = 32) ∧ m.kind = 4 ∧ m.value = 0) else false
def KL : List Mt → Prop
 | [] => True
 | [_] => True
 | a :: b :: l => Z8 a.d b.d < 0 ∧ KL (b :: l)
def YC (a b : Mt) : Bool := decide (Z8 a.d b.d = 0 ∧ a.verdict = b.verdict ∧ a.test = b.test ∧ (a.kind = b.kind ∧ a.value = b.value) ∧ a.digest = b.digest)
theorem sameM_iff {a b : Mt} : YC a b = true ↔ a = b := by
 unfold YC;rw [decide_eq_true_eq, cmpD_eq];cases a; cases b;simp only [Mt.mk.injEq];constructor
 · rintro ⟨c, d, e, ⟨g, h⟩, i⟩; exact ⟨c, d, e, g, h, i⟩
 · rintro ⟨c, d, e, g, h, i⟩; exact ⟨c, d, e, ⟨g, h⟩, i⟩
theorem riseM_iff : ∀ {l : List Mt}, KL l ↔ KJ (l.map Mt.d)
 | [] => Iff.rfl
 | [_] => Iff.rfl
 | a :: b :: l => by
  show Z8 a.d b.d < 0 ∧ KL (b :: l) ↔ Z8 a.d b.d < 0 ∧ KJ ((b :: l).map Mt.d)
  rw [riseM_iff]
end Go.Proofs.YtkoikjnlpifbjaaGreat
namespace Go.Proofs.YtkoikjnlpifbjaaGreat
open Go.RowKit Go.Deep
theorem X8 {W' : World} {B g size : Nat} {e : TypeId} (hB : B ≤ g) (h : Row W' g e #[]) : W'.ownsRow B e size (.slice (some ⟨g, 0, none⟩) 0 0) 0 [] :=
 ⟨by simp, .inr ⟨g, 0, #[], rfl, hB, h, Nat.le_refl _, Nat.zero_le _, by simp, by simp⟩⟩
theorem QV {P : Program} {o : Oper} {w w1 : World} {ρ : Operand → Value} {t : TypeId} {n : Nat} (ps : List (Nat × Operand)) (ho : o.op = .buildSlice t n ps.toArray) {v : Value} (hv : (Instr.buildSlice t n (ps.map fun (i, x) => (i, ρ x)).toArray).run P w = .ok v w1) : (execOp ρ o).run P w = .ok (.value v) w1 := by
 simp only [execOp, ho, Sem.run_bind, N1, hv, Result.andThen_ok, Sem.run_pure]
theorem QA {P : Program} {o : Oper} {w w1 : World} {ρ : Operand → Value} {s x : Operand} {t : TypeId} (ho : o.op = .call { callee := .builtin .append, args := #[s, x], argTypes := #[t, t] }) {v : Value} (hv : (Builtin.append_ #[t, t] o.type #[ρ s, ρ x]).run P w = .ok v w1) : (execOp ρ o).run P w = .ok (.value v) w1 := by
 unfold execOp;simp only [ho, resolve, invoke, builtin, Sem.run_bind, Sem.run_pure, Result.andThen_ok, N1, LQ, Np, hv]
theorem E7 {P : Program} {w : World} {base size n c : Nat} {t ty e : TypeId} {i : TypeInfo} {v : Value} {xs : List Value} (ht : P.underlying t = some (.slice e)) (hi : P.info? e = some i) (hown : w.ownsRow base e size v n xs) : (Builtin.append_ #[t, t] ty #[v, .slice none 0 c]).run P w = .ok v w := by
 rcases hown.2 with ⟨rfl, rfl⟩ | ⟨g, d, h, rfl, _, _, b, _⟩
 · simp [Builtin.append_, run_underlying ht, sizeOf, typeInfo, hi, Builtin.lenOf, Builtin.firstCells]
 · simp [Builtin.append_, run_underlying ht, sizeOf, typeInfo, hi, Builtin.lenOf, Builtin.firstCells, b, storeCells]
theorem Zp {P : Program} (t e : TypeId) (z : Value) (size bytes : Nat) (ht : P.underlying t = some (.slice e)) (hinf : (P.info? e).map (fun i => (i.zero, i.size, i.bytes)) = some (some z, size, bytes)) (hzs : z.cells.size = size) (hsz : 0 < size) (hby : bytes ≤ 100)
 {W : World} {B n m cap : Nat} {v : Value} {xs cs : List Value} {A : Option Addr} (hown : W.ownsRow B e size v n xs) (hB : B ≤ W.heap.size) (hr : Rd W A cs) (hlen : cs.length = m * size) (h1 : ∀ u ∈ cs, u.oneCell' = true) (hA : A = none → m = 0) (hb : n + m ≤ 1000000) :
 ∃ v' W', (Builtin.append_ #[t, t] t #[v, .slice A m cap]).run P W = .ok v' W' ∧ W'.ownsRow B e size v' (n + m) (xs ++ cs) ∧ W.grownBy W' v.ownBlock ∧ (v'.ownBlock = v.ownBlock ∨ v'.ownBlock = some W.heap.size) := by
 obtain ⟨y, b, c, d, g⟩ := info_parts hinf;rcases A with _ | h
 · have l := hA rfl;subst l;have x : cs = [] := L0 (by simpa using hlen);subst x;exact ⟨v, W, E7 ht b hown, by simpa using hown, World.grownBy.refl _ _, .inl rfl⟩
 · obtain ⟨v', W', h1, o, p, _, q⟩ := run_append_own_at (P := P) W B t t e y z size bytes ht b c d g hzs hsz v n xs hown h m cap cs hlen
    (fun j u w => by obtain ⟨k, e, s⟩ := hr j u w; injection e with e; subst e; exact s) h1 (by unfold maxLen; omega) (by have := Nat.mul_le_mul hb hby; omega) hB
   exact ⟨v', W', h1, o, p, q⟩
theorem VL : (Tryz.prog.info? 65).map (fun i => (i.zero, i.size, i.bytes)) = some (some (.agg #[.int .i64 0, .int .i64 0]), 2, 16) := by kernel_rfl
theorem XK {ops : Array Oper} {rest : List Oper} {o : Oper} {a : Act} {w : World} {Q : Exit → Act → World → Prop} (h : Stop (wpList Tryz.prog ops Q (o :: rest) a w) id) : wpList Tryz.prog ops Q (o :: rest) a w := h.out
theorem Zc {P : Program} {ops : Array Oper} {rest : List Oper} {o : Oper} {a : Act} {w w1 : World} {Q : Exit → Act → World → Prop} (hgd : o.guard = none) (v : Value) (hv : (execOp a.eval o).run P w = .ok (.value v) w1) (h : wpList P ops Q rest (a.put o.dst v) w1) : wpList P ops Q (o :: rest) a w :=
 wpList_plain hgd fun _ hK => by unfold Oper.wp; rw [hv]; exact hK _ _ h
theorem Ve {P : Program} {o : Oper} {w w1 : World} {ρ : Operand → Value} {s x : Operand} {t u : TypeId} (ho : o.op = .call { callee := .builtin .append, args := #[s, x], argTypes := #[t, u] }) {v : Value} (hv : (Builtin.append_ #[t, u] o.type #[ρ s, ρ x]).run P w = .ok v w1) : (execOp ρ o).run P w = .ok (.value v) w1 := by
 unfold execOp;simp only [ho, resolve, invoke, builtin, Sem.run_bind, Sem.run_pure, Result.andThen_ok, N1, LQ, Np, hv]
theorem Agi (n : Nat) (hn : n ≤ 1000000) (w : World) : Calls Tryz.prog 218 #[.slice none 0 0, .int .i64 (n : Int)] w fun e w' => ∃ A cap, e = .returned (.slice A 0 cap) ∧ w'.ownsRow w.heap.size 65 2 (.slice A 0 cap) 0 [] ∧ Below w.heap.size w w' := by
 have u : ¬ ((n : Int) < 0) := by omega
 have v : wrap64 ((0 : Int) - 0) = 0 := by unfold wrap64; omega
 have x : wrap64 ((n : Int) - 0) = (n : Int) := by unfold wrap64; omega
 have y : IntKind.i64.wrap (n : Int) = (n : Int) := IntWalk.i64_in _ (by omega);by_cases q : n = 0
 · subst q;go_enter Tryz.func218, Tryz.ntmps218
   go_wp2
   go_ret
   exact ⟨_, _, rfl, World.ownsRow_nil _ _ _ _, Below.refl _ _⟩
 · have z : (0 : Int) < (n : Int) := by omega
   obtain ⟨o, j, k, l, g⟩ := info_parts VL;have c : (Builtin.firstCells o.size 0 (.slice none 0 0)).run Tryz.prog w.drew = .ok ([] : List Value).toArray w.drew := run_firstCells_none w.drew o.size 0 0 0
   have b := fun t => Lib.run_append_grow_zeros (P := Tryz.prog) w 23 3 t 65 o _ .i64 .i64 Tryz.underlying23 Tryz.underlying3 j k none 0 0 [] c n (by omega) (by rw [l]; omega) (by omega) (by omega) (by rw [g]; omega) (growslice_fits (by omega) (by rw [g]; omega))
   simp only [LN] at b;have m := grownCap_ge w n 0 65;have d := grownCap_le_maxLen w n 0 65 (by unfold maxLen; omega);generalize grownCap w n 0 65 = G at b m d
   have i : ((([] : List Value).toArray ++ Builtin.zeroCells (Value.agg #[.int .i64 0, .int .i64 0]).cells n ++ Builtin.zeroCells (Value.agg #[.int .i64 0, .int .i64 0]).cells (G - n)) : Array Value).size = G * 2 := by
    simp only [Array.size_append, size_zeroCells];show 0 + n * 2 + (G - n) * 2 = G * 2;omega
   generalize (([] : List Value).toArray ++ Builtin.zeroCells (Value.agg #[.int .i64 0, .int .i64 0]).cells n ++ Builtin.zeroCells (Value.agg #[.int .i64 0, .int .i64 0]).cells (G - n)) = cs at b i;have h := Lv b;have s : G ≤ 9223372036854775807 := by unfold maxLen at d; omega
   clear b j k l g c q;go_enter Tryz.func218, Tryz.ntmps218
   go_wp2_with (at_builtin; refine XK ?_)
   refine Stop.to ?_;refine Zc rfl _ (Ve rfl (h.out _)) ?_;have rn : Row (w.drew.alloc (.cells cs 65)) w.heap.size 65 cs := Row.new w.drew _ _;have p : Below w.heap.size w (w.drew.alloc (.cells cs 65)) := (⟨rfl, rfl, rfl, Nat.le_refl _, fun _ _ => rfl⟩ : Below w.heap.size w w.drew).trans ((Below.refl _ w.drew).alloc (Nat.le_refl _) _);generalize w.drew.alloc (.cells cs 65) = w1 at rn p ⊢;clear h;go_wp2
   go_ret
   exact ⟨_, _, rfl, ⟨by simp, .inr ⟨w.heap.size, G, cs, rfl, Nat.le_refl _, rn, Nat.zero_le _, d, i, by simp⟩⟩, p⟩
structure PtV where
 addr : Option Addr
 cap : Nat
 body : List Nd
def PtV.val (q : PtV) : Value := .slice q.addr q.body.length q.cap
def PtV.rd (q : PtV) (w : World) : Prop := Rd w q.addr (q.body.flatMap Nd.cells) ∧ (q.addr = none → q.body = [])
def Zg (ps : List PtV) : List Nd := ps.flatMap PtV.body
theorem PtV.rd.go {q : PtV} {w w' : World} (h : q.rd w) (b : Below w.heap.size w w') : q.rd w' := ⟨h.1.go b, h.2⟩
theorem Z5 (l : List Nd) : (l.flatMap Nd.cells).length = l.length * 2 := by
 induction l with
 | nil => rfl
 | cons a l ih => simp only [LI, Lf, ih, Le]; simp [Nd.cells]; omega
theorem VO (l : List Nd) : ∀ u ∈ l.flatMap Nd.cells, u.oneCell' = true := by
 intro u b;simp only [NO, Nd.cells, L2, L9, or_false] at b;obtain ⟨a, _, rfl | rfl⟩ := b <;> rfl
theorem Aeg {W : World} {B n m cap : Nat} {v : Value} {xs : List Value} {A : Option Addr} {l : List Nd} (hown : W.ownsRow B 65 2 v n xs) (hB : B ≤ W.heap.size) (hr : Rd W A (l.flatMap Nd.cells)) (hm : m = l.length) (hA : A = none → m = 0) (hb : n + m ≤ 1000000) :
 ∃ v' W', (Builtin.append_ #[23, 23] 23 #[v, .slice A m cap]).run Tryz.prog W = .ok v' W' ∧ W'.ownsRow B 65 2 v' (n + m) (xs ++ l.flatMap Nd.cells) ∧ W.grownBy W' v.ownBlock ∧ (v'.ownBlock = v.ownBlock ∨ v'.ownBlock = some W.heap.size) :=
 Zp 23 65 _ 2 16 Tryz.underlying23 VL rfl (by decide) (by decide) hown hB hr (by rw [Z5, hm]) (VO l) hA hb
theorem Zj {w : World} {base n size : Nat} {e : TypeId} {v : Value} {xs : List Value} (h : w.ownsRow base e size v n xs) : ∃ A cap, v = .slice A n cap := by
 rcases h.2 with ⟨rfl, c⟩ | ⟨g, cap, b, rfl, _⟩
 · subst c; exact ⟨_, _, rfl⟩
 · exact ⟨_, _, rfl⟩
theorem Vt {ps : List PtV} {k : Nat} {q : PtV} (h : ps[k]? = some q) : Zg (ps.take (k + 1)) = Zg (ps.take k) ++ q.body := by
 unfold Zg;rw [LG, h];simp
theorem Abo (ps : List PtV) (k : Nat) : (Zg (ps.take k)).length ≤ (Zg ps).length := by
 have : Zg ps = Zg (ps.take k) ++ Zg (ps.drop k) := by
  unfold Zg;rw [← LD, LK]
 rw [this]; simp
theorem Aet (A : Option Addr) (m cp : Nat) (ps : List PtV) (w : World) (hm : m = ps.length) (hr : Rd w A (ps.map PtV.val)) (hps : ∀ q ∈ ps, q.rd w) (hl : (Zg ps).length ≤ 1000000) (hml : m ≤ 1000) :
 Calls Tryz.prog 197 #[.slice A m cp] w fun e w' => ∃ v, e = .returned v ∧ w'.ownsRow w.heap.size 65 2 v (Zg ps).length ((Zg ps).flatMap Nd.cells) ∧ Below w.heap.size w w' := by
 have Hr := Lv hr;have ae := Lv hps;have Hm := Lv hm;have af := hl;clear hr hps hm;go_enter Tryz.func197, Tryz.ntmps197
 go_wp2
 go_loopw [3, 11] (fun s i wr => ∃ k : Nat, i = .int .i64 (k : Int) ∧ s = .int .i64 ((Zg (ps.take k)).length : Int) ∧ k ≤ m ∧ w = wr) (fun _ i _ => m - (intOf i).toNat)
 case atStart => exact ⟨0, rfl, by simp [Zg], Nat.zero_le _, rfl⟩
 case round =>
  obtain ⟨k, rfl, rfl, hk, rfl⟩ := hrel;by_cases x : k < m
  · obtain ⟨q, o⟩ : ∃ q, ps[k]? = some q := ⟨_, La (by have := Hm.out; omega)⟩;obtain ⟨ad, rfl, hc⟩ := Hr.out k q.val (by simp [o]);have aj : (k : Int) < (m : Int) := by omega
    have z := Vt o;have d := Abo ps (k + 1);rw [z, Lf] at d;have e1 : IntKind.i64.wrap (((Zg (ps.take k)).length : Int) + (q.body.length : Int)) = ((Zg (ps.take k)).length : Int) + (q.body.length : Int) := IntWalk.i64_in _ (by omega);have e2 : ¬ (((Zg (ps.take k)).length : Int) + (q.body.length : Int) < 0) := by omega
    have ah : IntKind.i64.wrap ((k : Int) + 1) = (k : Int) + 1 := IntWalk.i64_in _ (by omega);have Hs : Hid ((((Zg (ps.take k)).length : Int) + (q.body.length : Int)) = ((Zg (ps.take (k + 1))).length : Int)) := by show _ = _; rw [z, Lf]; omega
    unfold PtV.val at hc;clear z d o;generalize (Zg (ps.take k)).length = sk at *;go_wp2
    go_roundw
    case rel => exact ⟨k + 1, by go_num, by rw [← Hs.out], by omega, by trivial⟩
    case measure => simp [intOf]; omega
  · obtain rfl : k = m := by omega
    have ht : ps.take k = ps := by rw [Hm.out]; exact LW
    rw [ht];obtain ⟨n, hn⟩ : ∃ n, n = (Zg ps).length := ⟨_, rfl⟩;have Hn := Lv hn;rw [← hn] at hl ⊢;clear x hk ht hn af;go_wp2_with fail
    refine (Agi n hl w).mono ?_;rintro e w1 ⟨A1, c1, rfl, l, b1⟩;have b := Lv l;have aa := Lv b1;clear l b1;go_wp2
    go_loopw [6, 27] (fun s i W => ∃ (k' : Nat) (v : Value), s = v ∧ i = .int .i64 (k' : Int) ∧ k' ≤ k ∧ Hid (W.ownsRow w.heap.size 65 2 v (Zg (ps.take k')).length ((Zg (ps.take k')).flatMap Nd.cells)) ∧ Hid (Below w.heap.size w W)) (fun _ i _ => k - (intOf i).toNat)
    case atStart => exact ⟨0, _, rfl, rfl, Nat.zero_le _, by simpa [Zg] using b, aa⟩
    case round =>
     clear b aa;obtain ⟨j, v, rfl, rfl, hj, b, t⟩ := hrel;by_cases x : j < k
     · obtain ⟨q, o⟩ : ∃ q, ps[j]? = some q := ⟨_, La (by have := Hm.out; omega)⟩;obtain ⟨ad, rfl, hc⟩ := (Hr.out.go t.out) j q.val (by simp [o]);have y := (ae.out q (Lj o)).go t.out;have ai : (j : Int) < (k : Int) := by omega
       have z := Vt o;have d := Abo ps (j + 1);rw [z, Lf, ← Hn.out] at d;have ag : IntKind.i64.wrap ((j : Int) + 1) = (j : Int) + 1 := IntWalk.i64_in _ (by omega);obtain ⟨v2, W2, p, c, ab, _⟩ := Aeg (cap := q.cap) b.out t.out.size y.1 (rfl : q.body.length = q.body.length) (fun h => by rw [y.2 h]; rfl) (by omega);have b2 := QK (Below.refl w.heap.size _) b.out ab t.out.size (Nat.le_refl _)
       have u : Hid (W2.ownsRow w.heap.size 65 2 v2 (Zg (ps.take (j + 1))).length ((Zg (ps.take (j + 1))).flatMap Nd.cells)) := by
        show W2.ownsRow _ _ _ _ _ _;rw [z, Lf, LD]; exact c
       have ac := Lv (t.out.trans b2);have g := Lv p;obtain ⟨A2, c2, rfl⟩ := Zj c;obtain ⟨A3, c3, rfl⟩ := Zj b.out;unfold PtV.val at hc;clear z d o p c ab b2 y b t;go_wp2_with (at_builtin; refine XK ?_)
       refine Stop.to ?_;refine Zc rfl _ (QA rfl g.out) ?_;clear g hc;go_wp2
       go_roundw
       case rel => exact ⟨j + 1, _, rfl, by go_num, by omega, u, ac⟩
       case measure => simp [intOf]; omega
     · obtain rfl : j = k := by omega
       have ht : ps.take j = ps := by rw [Hm.out]; exact LW
       rw [ht] at b;obtain ⟨A3, c3, rfl⟩ := Zj b.out;clear x hj ht;go_wp2
       go_ret
       exact ⟨_, rfl, b.out, t.out⟩
theorem Eu : ∀ (l : List EvV) (k : Nat) (e : EvV), l[k]? = some e → ∀ j u, e.cells[j]? = some u → (l.flatMap EvV.cells)[k * 3 + j]? = some u
 | [], k, e, h, _, _, _ => by simp at h
 | a :: l, 0, e, h, j, u, hj => by
  simp at h; subst h
  have hl : j < a.cells.length := (Ld.1 hj).1
  simp only [LI]
  rw [LC (by omega)]
  simpa using hj
 | a :: l, k + 1, e, h, j, u, hj => by
  simp only [LI]
  rw [L8 (by simp [EvV.cells]; omega)]
  have := Eu l k e (by simpa using h) j u hj
  rw [← this]; congr 1; simp [EvV.cells]; omega
theorem Zl {P : Program} {ops : Array Oper} {S : World → Prop} {Q : Act → Prop} {a : Act} {o : Oper} {rest : List Oper} (hw : Region.wanted o (yielded ops a.tmps) = true) (ty : TypeId) (x : Operand) (ho : o.op = .load ty x) (ad : Addr) (hx : a.eval x = .pointer (some ad)) (cs : List Value) (d : TypeDesc)
 (hr : ∀ W, S W → ∀ j v, cs[j]? = some v → W.cell? (ad.add j) = some v) (hu : P.underlying ty = some d) (hd : (match d with | .struct _ | .array _ _ => true | _ => false) = true) (hi : (P.info? ty).map (·.size) = some cs.length)
 (h : ZX P ops S Q rest (a.put o.dst (.agg cs.toArray))) : ZX P ops S Q (o :: rest) a :=
 Qg hw (.agg cs.toArray) (fun W hW => by
  simp only [execOp, ho, hx, Instr.loadAt, Instr.sureAddr, Sem.run_bind, Sem.run_pure, Result.andThen_ok, JZ W ad ty cs d (hr W hW) hu hd hi]) h
theorem YB {P : Program} {o : Oper} {w : World} {ρ : Operand → Value} {b : BinOp} {t t' : TypeId} {x y : Operand} (ho : o.op = .binOp b t x y t') (v : Value) (hg : (eqGuard b t x y (ρ x) (ρ y)).run P w = .ok () w) (hv : (binOp b t (ρ x) (ρ y)).run P w = .ok v w) : (execOp ρ o).run P w = .ok (.value v) w := by
 simp only [execOp, ho, Sem.run_bind, hg, hv, Result.andThen_ok, Sem.run_pure]
end Go.Proofs.YtkoikjnlpifbjaaGreat
namespace Go.Proofs.YtkoikjnlpifbjaaGreat
open Go.RowKit
section
variable {P : Program} {ops : Array Oper} {rest : List Oper} {o : Oper} {a : Act} {w : World} {Q : Exit → Act → World → Prop}
theorem Ad8 (S : World → Prop) (hS : S w) : ∀ (n : Nat) (l : List Oper) (a : Act) (w : World), S w → ZX P ops S (fun a' => ∀ W, S W → wpList P ops Q (l.drop n) a' W) (l.take n) a → wpList P ops Q l a w := by
 intro n
 induction n with
 | zero => intro l a w hS h; exact h w hS
 | succ n ih =>
  intro l a w hS h;cases l with
  | nil => exact h w hS
  | cons o l =>
   obtain ⟨v, k, d⟩ := h;refine wpList_step fun K c => ?_
   rcases k with ⟨i, j⟩ | ⟨i, rfl⟩
   · rw [if_pos i];have b := j w hS;unfold Oper.wp;generalize (execOp a.eval o).run P w = r at b;cases r with
     | ok n' w' =>
      cases n' <;> simp only [Yt] at b <;> simp only [Oper.upon]
      case value u => obtain ⟨rfl, g⟩ := b; exact c _ _ (ih l _ _ g d)
      case skip => obtain ⟨rfl, g⟩ := b; exact c _ _ (ih l _ _ g d)
      case enter f args => exact b.mono fun e w'' ⟨he, hs⟩ => by subst he; exact c _ _ (ih l _ _ hs d)
     | halt x w' => simp only [Yt] at b
   · rw [if_neg (by rw [i]; simp)];exact c _ _ (ih l _ _ hS d)
theorem Acn (S : World → Prop) (n : Nat) {l : List Oper} (hS : S w) (h : ZX P ops S (fun a' => ∀ W, S W → wpList P ops Q (l.drop n) a' W) (l.take n) a) : wpList P ops Q l a w := Ad8 S hS n l a w hS h
theorem AiW (ty : TypeId) (x : Operand) (_ : o.op = .load ty x) (h : Stop (wpList P ops Q (o :: rest) a w) id) : wpList P ops Q (o :: rest) a w := h.out
theorem ZE (t : TypeId) (n : Nat) (ps : Array (Nat × Operand)) (_ : o.op = .buildSlice t n ps) (h : Stop (wpList P ops Q (o :: rest) a w) id) : wpList P ops Q (o :: rest) a w := h.out
theorem Qz (hw : Region.wanted o (yielded ops a.tmps) = true) (t : TypeId) (n : Nat) (ps : Array (Nat × Operand)) (ho : o.op = .buildSlice t n ps) (e : TypeId) (cells : Array Value)
 (hx : ∀ W, (Instr.buildSlice t n (ps.map fun (i, x) => (i, a.eval x))).run P W = .ok (.slice (some ⟨W.heap.size, 0, none⟩) n n) (W.alloc (.cells cells e)))
 (h : ∀ g w', w.heap.size ≤ g → Row w' g e cells → Below g w w' → wpList P ops Q rest (a.put o.dst (.slice (some ⟨g, 0, none⟩) n n)) w') : wpList P ops Q (o :: rest) a w := by
 refine BigFrame.wpList_want hw fun K b => ?_
 unfold Oper.wp execOp;simp only [ho, Sem.run_bind, hx, Result.andThen_ok, Sem.run_pure];exact b _ _ (h _ _ (Nat.le_refl _) (Row.new _ _ _) ((Below.refl _ _).alloc (Nat.le_refl _) _))
theorem Z6 {t e : TypeId} {n sz : Nat} {z : Value} {parts : Array (Nat × Value)} {cells : Array Value} (hu : P.underlying t = some (.slice e)) (hi : (P.info? e).map (fun i => (i.zero, i.size)) = some (some z, sz)) (h1 : n * sz ≤ 2 ^ 24) (h2 : n * sz ≠ 0)
 (hf : Instr.fill (fun i => some (i * sz, sz)) ((Array.range (n * sz)).map (z.cells[· % z.cells.size]!)) parts.toList = some cells) : ∀ W, (Instr.buildSlice t n parts).run P W = .ok (.slice (some ⟨W.heap.size, 0, none⟩) n n) (W.alloc (.cells cells e)) := by
 intro W;cases hq : P.info? e with
 | none => rw [hq] at hi; cases hi
 | some ie =>
  rw [hq] at hi;simp only [Ns, No, Prod.mk.injEq] at hi;obtain ⟨b, rfl⟩ := hi;exact run_buildSlice W t e n parts cells ie z hu hq b (by omega) h2 hf
end
end Go.Proofs.YtkoikjnlpifbjaaGreat
namespace Go.Proofs.YtkoikjnlpifbjaaGreat
open Go.RowKit Go.Deep
theorem Jq {W : World} {g : Nat} {t : TypeId} {cs : List Value} (h : Row W g t cs.toArray) : Rd W (some ⟨g, 0, none⟩) cs := fun j u hj => ⟨_, rfl, by
 have := h.cellv (i := j) (v := u) (by simpa using hj)
 unfold Addr.add
 by_cases h0 : j = 0
 · subst h0; exact this
 · rw [if_neg h0]; simpa using this⟩
theorem AhF : (Tryz.prog.info? 23).map (fun i => (i.zero, i.size)) = some (some (.slice none 0 0), 1) := by kernel_rfl
structure NdsR (l : List Nd) (w w' : World) (e : Ending) : Prop where
 ex : ∃ v, e = .returned v ∧ w'.ownsRow w.heap.size 65 2 v l.length (l.flatMap Nd.cells) ∧ Below w.heap.size w w'
theorem ED (A : Option Addr) (m cp : Nat) (ps : List PtV) (w : World) (hm : m = ps.length) (hr : Rd w A (ps.map PtV.val)) (hps : ∀ q ∈ ps, q.rd w) (hl : (Zg ps).length ≤ 1000000) (hml : m ≤ 1000) :
 Calls Tryz.prog 163 #[.slice A m cp] w (fun e w' => NdsR (Zg ps) w w' e) := by
 have c := Lv (Aet A m cp ps w hm hr hps hl hml);clear hm hr hps hl hml;go_enter Tryz.func163, Tryz.ntmps163
 go_wp2_with fail
 refine c.out.mono ?_;rintro e i ⟨v, rfl, b, d⟩;obtain ⟨g, h, rfl⟩ := Zj b;go_wp2
 go_ret
 exact ⟨_, rfl, b, d⟩
theorem Aia (A : Option Addr) (cap : Nat) (l : List Nd) (q : Nat) (t : Tr) (w : World) (hat : At l q t) (hr : Rd w A (l.flatMap Nd.cells)) (hl : l.length ≤ 1000) (hlc : l.length ≤ cap) (hcm : cap ≤ maxLen) :
 Calls Tryz.prog 192 #[.slice A l.length cap, .int .i64 (q : Int)] w (fun e w' => NdsR t.flat w w' e) := by
 have he := JV A cap l (q : Int) w hr hl;rw [hat.endZ] at he;have af := hat.le;have ab := t.size_eq;obtain ⟨k, rfl, _⟩ := JW hr hat.root;obtain ⟨s, g⟩ := hat.here
 have d : ∀ W, Rd W (some k) (l.flatMap Nd.cells) → Rd W (some (k.add (q * 2))) (t.flat.flatMap Nd.cells) := by
  intro W h j u o
  obtain ⟨ae, e, hc⟩ := h.part (q * 2) (t.flat.flatMap Nd.cells) (fun j u o => by
   have h1 : l = l.take q ++ (t.flat ++ s) := by rw [← g, LK]
   have h2 : (l.take q).length = q := by rw [L7]; omega
   rw [h1, LD, L8 (by rw [Z5, h2]; omega), Z5, h2, Ny, LD, LC (Ld.1 o).1]
   exact o) (by rw [t.flat_eq]; simp [Nd.cells])
  injection e with e;subst e;exact ⟨_, rfl, hc j u o⟩
 have b := Lv d;have He := Lv he;have Hr := Lv hr;have i : Hid (t.flat.length = t.size) := rfl;generalize aa : t.size = sz at *;have ac : (cap : Int) ≤ 9223372036854775807 := by unfold maxLen at hcm; omega
 have ag : (q : Int) ≤ ((q + sz : Nat) : Int) := by omega
 have ah : ((q + sz : Nat) : Int) ≤ (cap : Int) := by omega
 have ai : ¬ (((q + sz : Nat) : Int) < 0) := by omega
 have aj : (1 : Int) ≤ (sz : Int) := by omega
 clear he hr d g hat ab aa;go_enter Tryz.func192, Tryz.ntmps192
 go_wp2_with fail
 refine He.out.mono ?_;rintro e w1 ⟨rfl, y⟩;have p := Lv (Hr.out.go y);have m := Lv y;clear He Hr y;go_wp2_with (refine ZE _ _ _ rfl ?_)
 refine Stop.to ?_;have hv : PtV.val ⟨some (k.add (q * 2)), cap - q, t.flat⟩ = .slice (some (k.add (q * 2))) (q + sz - q) (cap - q) := by unfold PtV.val; rw [i.out, Ny]
 refine Qz rfl 284 1 _ rfl 23 #[PtV.val ⟨some (k.add (q * 2)), cap - q, t.flat⟩] ?_ ?_
 · rw [hv];exact Z6 Tryz.underlying284 AhF (by decide) (by decide) (by kernel_rfl)
 intro G w2 hG rG z;have b2 := m.out.trans ((z.mono hG).mono m.out.size)
 have o := ED (some ⟨G, 0, none⟩) 1 1 [⟨some (k.add (q * 2)), cap - q, t.flat⟩] w2 rfl (Jq (cs := [PtV.val ⟨some (k.add (q * 2)), cap - q, t.flat⟩]) rG) (fun x hx => by
  rw [L3.1 hx]
  exact ⟨b.out _ (p.out.go (z.mono hG)), fun e => by cases e⟩) (by simp [Zg]; have := i.out; omega) (by omega)
 have Hj := Lv o;have n := Lv b2;clear o b2 rG z hG p m b hv;go_wp2_with fail
 refine Hj.out.mono ?_;rintro e w3 ⟨v, rfl, c, b3⟩;rw [show Zg [⟨some (k.add (q * 2)), cap - q, t.flat⟩] = t.flat by simp [Zg]] at c;obtain ⟨A3, c3, rfl⟩ := Zj c;go_wp2
 go_ret
 exact ⟨_, rfl, QQ c n.out.size, n.out.trans (b3.mono n.out.size)⟩
theorem AiY (W : World) : (Instr.buildSlice 22 0 #[]).run Tryz.prog W = .ok (.slice (some ⟨W.heap.size, 0, none⟩) 0 0) (W.alloc (.cells #[] 3)) := by kernel_rfl
theorem X9 {w : World} {base n : Nat} {e : TypeId} {v : Value} {xs : List Value} (h : w.ownsRow base e 1 v n xs) : ∃ A cap, v = .slice A n cap ∧ Rd w A xs ∧ n ≤ cap ∧ (A = none → cap = 0) ∧ ∀ ad, A = some ad → base ≤ ad.block := by
 obtain ⟨A, cap, rfl, i, j, k⟩ := AeX h;refine ⟨A, cap, rfl, i, j, k, fun ad e => ?_⟩;rcases h.2 with ⟨b, _⟩ | ⟨g, c, d, b, l, _⟩
 · injection b with e3; rw [e] at e3; cases e3
 · injection b with e3; rw [e] at e3; injection e3 with e3; rw [e3]; exact l
theorem UY (A : Option Addr) (cap : Nat) (l : List Int) (w : World) (hr : Rd w A (Qj l)) (hnil : A = none → l = []) (hl : l.length ≤ 100000) :
 Calls Tryz.prog 95 #[.slice A l.length cap] w fun e w' => IntsR l w w' e := by
 rcases A with _ | o
 · have q := hnil rfl;subst q;have j := fun W : World => Lib.run_eql_slice_nil (P := Tryz.prog) W 22 3 none 0 cap 0 0 Tryz.underlying22
   simp only [Option.isNone_none] at j;rw [show ([] : List Int).length = 0 from rfl];go_enter Tryz.func95, Tryz.ntmps95
   go_wp2_with fail
   go_ret
   exact ⟨_, rfl, World.ownsRow_nil _ _ _ _, Below.refl _ _⟩
 · have n := Lv hr;have k := Lv hl;clear hr hl hnil;have j := fun W : World => Lib.run_eql_slice_nil (P := Tryz.prog) W 22 3 (some o) l.length cap 0 0 Tryz.underlying22
   simp only [Option.isNone_some] at j;go_enter Tryz.func95, Tryz.ntmps95
   go_wp2_with (refine ZE _ _ _ rfl ?_)
   refine Stop.to ?_;refine Zc rfl _ (QV [] rfl (AiY w)) ?_;have i := Row.new w 3 #[];have g := (Below.refl w.heap.size w).alloc (Nat.le_refl _) (.cells #[] 3);generalize w.alloc (.cells #[] 3) = w1 at i g ⊢;obtain ⟨u, v, c, b, h, _⟩ := Zp (P := Tryz.prog) 22 3 (.int .i64 0) 1 8 Tryz.underlying22 Jk rfl (by decide) (by decide) (X8 (B := w.heap.size) (size := 1) (Nat.le_refl _) i) g.size (n.out.go g) (m := l.length) (cap := cap) (by simp [Qj]) (Jl l) (by simp) (by have := k.out; omega);rw [LN, Lp] at b;have p := QK g (X8 (B := w.heap.size) (size := 1) (Nat.le_refl _) i) h g.size (Nat.le_refl _);have d := Lv c;clear c h i;go_wp2_with (refine XK ?_)
   refine Stop.to ?_;refine Zc rfl _ (QA rfl d.out) ?_;obtain ⟨s, t, rfl⟩ := Zj b;go_wp2
   go_ret
   exact ⟨_, rfl, b, p⟩
end Go.Proofs.YtkoikjnlpifbjaaGreat
