/- Lemmas for VerdictJustP. -/
import Derived.Test.YtdcmppdhdcjpfaaGreatZy6
import Derived.Test.YtdcmppdhdcjpfaaGreatZy4
import Derived.Test.YtdcmppdhdcjpfaaGreatZy3
import Derived.Test.YtdcmppdhdcjpfaaGreatZy1
import Derived.Maps.AppendAt
import Derived.Deep.Cut
import Derived.Lib.AppendZerosOnto
import Derived.Test.YtdcmppdhdcjpfaaGreatRows
import Derived.Great.BuildSlice
import Derived.Lib.SliceRun
set_option linter.unusedVariables false
set_option linter.unusedSimpArgs false
set_option maxRecDepth 100000
set_option maxHeartbeats 16000000
namespace Go.Proofs.YtdcmppdhdcjpfaaGreat
open Go.RowKit Go.Deep
structure Good (p : PgV) (t : Tr) : Prop where
 hat : At p.body 0 t
 size : t.size = p.body.length
 vars : Kc p.params p.V
 tag : t.root.tag = 20
 kind : ofT p.V t = 2
open Classical in
noncomputable def Q2 (p : PgV) (n : Nat) (fuel : Int) : Int := if ∃ t, Good p t then (if (n : Int) ≠ p.params then 18 else if fuel < 0 ∨ 10000 < fuel then 19 else 0) else 23
theorem JL {p : PgV} {n : Nat} {fuel : Int} (h : ∀ t, ¬ Good p t) : Q2 p n fuel = 23 := by unfold Q2; rw [if_neg (fun ⟨t, ht⟩ => h t ht)]
theorem KF {p : PgV} {n : Nat} {fuel : Int} {t : Tr} (h : Good p t) : Q2 p n fuel = if (n : Int) ≠ p.params then 18 else if fuel < 0 ∨ 10000 < fuel then 19 else 0 := by unfold Q2; rw [if_pos ⟨t, h⟩]
theorem At.uniq {l : List Nd} {q : Nat} {a b : Tr} (ha : At l q a) (hb : At l q b) : a = b := by
 have o : ∀ n, (∀ (a b : Tr) (r s : List Nd), a.size ≤ n → a.fits → b.fits → a.flat ++ r = b.flat ++ s → a = b) ∧ (∀ (c g : List Tr) (r s : List Nd), (QJ c).length ≤ n → c.length = g.length → (∀ t ∈ c, t.fits) → (∀ t ∈ g, t.fits) → QJ c ++ r = QJ g ++ s → c = g) := by
  intro n
  induction n with
  | zero =>
   refine ⟨fun a b r s h => by have := a.size_eq; omega, fun c g r s h d _ _ _ => ?_⟩;cases c with
   | nil => exact (Lx (by simpa using d.symm)).symm
   | cons t ts => rw [QJ, Lf] at h; have := t.size_eq; have aa : t.size = t.flat.length := rfl; omega
  | succ n ih =>
   have one : ∀ (a b : Tr) (r s : List Nd), a.size ≤ n + 1 → a.fits → b.fits → a.flat ++ r = b.flat ++ s → a = b := by
    rintro ⟨x, p⟩ ⟨y, w⟩ r s h i j e;have v := e;rw [Tr.flat_eq, Tr.flat_eq, Lk, Lk] at v;injection v with e1 e2;simp only [Tr.root, Tr.kids] at e1 e2;subst e1
    have d : p.length = w.length := by
     have z := i.arity;have h2 := j.arity;simp only [Tr.root, Tr.kids] at z h2;omega
    have h4 := (Tr.node x p).size_eq;simp only [Tr.kids] at h4;rw [ih.2 p w r s (by omega) d i.kid j.kid e2]
   refine ⟨one, fun c g => ?_⟩
   induction c generalizing g with
   | nil => intro r s _ d _ _ _; exact (Lx (by simpa using d.symm)).symm
   | cons t ts iht =>
    intro r s h d i j e;cases g with
    | nil => simp at d
    | cons u us =>
     rw [QJ, QJ, Lz, Lz] at e;rw [QJ, Lf] at h;have ht : t = u := one t u _ _ (by unfold Tr.size; omega) (i t (by simp)) (j u (by simp)) e;subst ht;rw [iht us r s (by omega) (by simpa using d) (fun k m => i k (by simp [m])) (fun k m => j k (by simp [m])) (List.append_cancel_left e)]
 obtain ⟨r, hr⟩ := ha.here;obtain ⟨s, hs⟩ := hb.here;exact (o a.size).1 a b r s (Nat.le_refl _) ha.fits hb.fits (by rw [← hr, hs])
theorem Ky {p : PgV} {t : Tr} (hat : At p.body 0 t) (h : ¬ (t.root.tag = 20 ∧ ofT p.V t = 2)) : ∀ t', ¬ Good p t' := fun t' g => by
 have := hat.uniq g.hat;subst this;exact h ⟨g.tag, g.kind⟩
theorem Aan {p : PgV} (h : Ju p.params p.V ≠ 0) : ∀ t', ¬ Good p t' := fun t' g => h (by unfold Ju; rw [if_pos g.vars])
theorem AbG {p : PgV} (h : endZ p.body 0 ≠ (p.body.length : Int)) : ∀ t', ¬ Good p t' := fun t' g => h (by
 have := g.hat.endZ
 rw [g.size, LJ] at this
 exact this)
theorem AbH {p : PgV} (h : p.body.length = 0) : ∀ t', ¬ Good p t' := fun t' g => by have := g.hat.lt; omega
theorem Yw (a : Int) (V : List Int) : Ju a V = 0 ∧ Kc a V ∨ Ju a V = 14 := by
 unfold Ju;by_cases h : Kc a V
 · rw [if_pos h]; exact .inl ⟨rfl, h⟩
 · rw [if_neg h]; exact .inr rfl
theorem XZ (p : PgV) (aa : Option Addr) (acap n : Nat) (fuel : Int) (hbl : p.body.length ≤ 1000) (hn : n ≤ 1000) (w : World) (hok : p.ok w) : Calls Tryz.prog 22 #[.agg p.cells, .slice aa n acap, .int .i64 fuel] w fun e w' => e = .returned (.int .i64 (Q2 p n fuel)) ∧ Below w.heap.size w w' := by
 have ab := Lh hbl;have ac := Lh hok;clear hbl hok;go_enter Tryz.func22, Tryz.ntmps22
 go_wp2_with (refine Qn _ _ rfl ?_)
 refine Stop.to ?_;refine Qe rfl 25 _ rfl p.cells rfl ?_;intro G w1 hG r1 b1;have b1 := (Below.refl w.heap.size w).trans (b1.mono hG);obtain ⟨S, j⟩ : ∃ S, S = (fun W => Row W G 25 p.cells ∧ p.ok W ∧ Below w.heap.size w W) := ⟨_, rfl⟩;have av : St S := by rw [j]; infer_instance
 have s0 : ∀ W, S W → Row W G 25 p.cells := by rw [j]; exact fun W h => h.1
 have S1 : Hid (∀ W, S W → p.ok W) := by show ∀ W, _; rw [j]; exact fun W h => h.2.1
 have r : Hid (∀ W, S W → Below w.heap.size w W) := by show ∀ W, _; rw [j]; exact fun W h => h.2.2
 have hS : S w1 := by rw [j]; exact ⟨r1, ac.out.go b1, b1⟩
 have s := Lh s0;clear j r1 b1 hG ac s0;go_wp2_with fail
 refine Jl S (by kernel_rfl) (by kernel_rfl) (St.drew hS) ?_;clear hS;(refine QA rfl 25 _ rfl (G) rfl 25 _ _ s.out Tryz.underlying25 rfl (by kernel_rfl) ?_; simp only [Act.put, Qa, Qb, Qc]);(refine QI rfl 64 _ (fun W => by (go_simp; try rfl)) _ (fun W d => AdH p W (S1.out _ d)) ?_; simp only [Act.put, Qa, Qb, Qc])
 have aj := Yw p.params p.V;generalize u : Ju p.params p.V = ve at aj;have am := Lh u;clear u;rcases aj with ⟨rfl, x⟩ | rfl;rotate_left
 · have g := Lh (JL (n := n) (fuel := fuel) (Aan (p := p) (by rw [am.out]; omega)))
   iterate 2 (refine Qg rfl ?_ (fun W d => ?_) ?_; rotate_left; (focus (go_simp; exact rfl)); simp only [Act.put, Qa, Qb, Qc])
   iterate 4 (refine UQ rfl ?_; simp only [Act.put, Qa, Qb, Qc])
   iterate 2 (refine Qg rfl ?_ (fun W d => ?_) ?_; rotate_left; (focus (go_simp; exact rfl)); simp only [Act.put, Qa, Qb, Qc])
   iterate 7 (refine UQ rfl ?_; simp only [Act.put, Qa, Qb, Qc])
   iterate 2 (refine Qg rfl ?_ (fun W d => ?_) ?_; rotate_left; (focus (go_simp; exact rfl)); simp only [Act.put, Qa, Qb, Qc])
   refine QG fun W d => ?_
   go_wp2
   go_ret
   exact ⟨QP g.out, r.out _ d⟩
 have ad := Lh x;clear x;by_cases hl : p.body.length = 0
 · have g := Lh (JL (n := n) (fuel := fuel) (AbH hl));have ap : ((p.body.length : Int) == 0) = true := by simp [hl]
   clear hl
   iterate 3 (refine Qg rfl ?_ (fun W d => ?_) ?_; rotate_left; (focus (go_simp; exact rfl)); simp only [Act.put, Qa, Qb, Qc])
   (refine Qg rfl ?_ (fun W d => ?_) ?_; rotate_left; (focus (have c := (s.out _ d).cellv (i := 2) (v := .slice p.ba p.body.length p.bcap) rfl; go_simp; exact rfl)); simp only [Act.put, Qa, Qb, Qc])
   iterate 4 (refine Qg rfl ?_ (fun W d => ?_) ?_; rotate_left; (focus (go_simp; exact rfl)); simp only [Act.put, Qa, Qb, Qc])
   iterate 7 (refine UQ rfl ?_; simp only [Act.put, Qa, Qb, Qc])
   iterate 2 (refine Qg rfl ?_ (fun W d => ?_) ?_; rotate_left; (focus (go_simp; exact rfl)); simp only [Act.put, Qa, Qb, Qc])
   refine QG fun W d => ?_
   go_wp2
   go_ret
   exact ⟨QP g.out, r.out _ d⟩
 have ap : ((p.body.length : Int) == 0) = false := by simpa using hl
 have Hl := Lh hl;clear hl
 iterate 3 (refine Qg rfl ?_ (fun W d => ?_) ?_; rotate_left; (focus (go_simp; exact rfl)); simp only [Act.put, Qa, Qb, Qc])
 (refine Qg rfl ?_ (fun W d => ?_) ?_; rotate_left; (focus (have c := (s.out _ d).cellv (i := 2) (v := .slice p.ba p.body.length p.bcap) rfl; go_simp; exact rfl)); simp only [Act.put, Qa, Qb, Qc])
 iterate 5 (refine Qg rfl ?_ (fun W d => ?_) ?_; rotate_left; (focus (go_simp; exact rfl)); simp only [Act.put, Qa, Qb, Qc])
 (refine Qg rfl ?_ (fun W d => ?_) ?_; rotate_left; (focus (have c := (s.out _ d).cellv (i := 2) (v := .slice p.ba p.body.length p.bcap) rfl; go_simp; exact rfl)); simp only [Act.put, Qa, Qb, Qc]);(refine QI rfl 65 _ (fun W => by (go_simp; try rfl)) _ (fun W d => Jq p.ba p.bcap p.body 0 W (S1.out _ d).brd ab.out) ?_; simp only [Act.put, Qa, Qb, Qc])
 iterate 1 (refine Qg rfl ?_ (fun W d => ?_) ?_; rotate_left; (focus (go_simp; exact rfl)); simp only [Act.put, Qa, Qb, Qc])
 (refine Qg rfl ?_ (fun W d => ?_) ?_; rotate_left; (focus (have c := (s.out _ d).cellv (i := 2) (v := .slice p.ba p.body.length p.bcap) rfl; go_simp; exact rfl)); simp only [Act.put, Qa, Qb, Qc])
 iterate 1 (refine Qg rfl ?_ (fun W d => ?_) ?_; rotate_left; (focus (go_simp; exact rfl)); simp only [Act.put, Qa, Qb, Qc])
 by_cases y : endZ p.body 0 = (p.body.length : Int);rotate_left
 · have g := Lh (JL (n := n) (fuel := fuel) (AbG y));have an : (endZ p.body 0 != (p.body.length : Int)) = true := by simpa using y
   clear y
   iterate 3 (refine Qg rfl ?_ (fun W d => ?_) ?_; rotate_left; (focus (go_simp; exact rfl)); simp only [Act.put, Qa, Qb, Qc])
   refine QG fun W d => ?_
   go_wp2
   go_ret
   exact ⟨QP g.out, r.out _ d⟩
 have an : (endZ p.body 0 != (p.body.length : Int)) = false := by simp [y]
 have He := Lh y;clear y
 iterate 3 (refine Qg rfl ?_ (fun W d => ?_) ?_; rotate_left; (focus (go_simp; exact rfl)); simp only [Act.put, Qa, Qb, Qc])
 refine QG fun W d => ?_
 obtain ⟨t, o, _⟩ := YP (l := p.body) (a := 0) (by rw [He.out]; omega);have o : At p.body 0 t := o;have ai : t.size = p.body.length := by have h1 := o.endZ; have h2 := He.out; simp only [LJ] at h1; have h3 : endZ p.body 0 = (t.size : Int) := h1; omega
 have q := Lh o;have al := Lh ai;have c2 := (s.out _ d).cellv (i := 2) (v := .slice p.ba p.body.length p.bcap) rfl;obtain ⟨bd, ae, ag⟩ := JP (S1.out _ d).brd (k := 0) o.root;have af := ag 0 (.int .i64 t.root.tag) rfl;rw [show (bd.add (0 * 2)).add 0 = bd by rw [KZ]; simp [Addr.add]] at af;rw [ae] at c2;have aq : (0 : Int) < (p.body.length : Int) := by have := Hl.out; omega
 have ak : 0 < p.body.length := by omega
 clear ag ae o ai;by_cases ht : t.root.tag = 20;rotate_left
 · have g := Lh (JL (n := n) (fuel := fuel) (Ky q.out (fun h => ht h.1)));have au : (t.root.tag != 20) = true := by simpa using ht
   clear ht;go_wp2
   go_ret
   exact ⟨QP g.out, r.out _ d⟩
 have au : (t.root.tag != 20) = false := by simp [ht]
 have Ht := Lh ht;clear ht;go_wp2_with (refine XQ rfl 25 _ rfl G rfl 25 p.cells (0, 0) _ (s.out _ d) Tryz.underlying25 rfl (by kernel_rfl) ?_)
 refine (AcT p ab.out t 0 q.out W (S1.out _ d)).mono ?_;rintro e W2 ⟨rfl, b2⟩;have m := av.go d b2;clear c2 af b2 d;by_cases z : ofT p.V t = 2;rotate_left
 · have g := Lh (JL (n := n) (fuel := fuel) (Ky q.out (fun h => z h.2)));have ao : (ofT p.V t != 2) = true := by simpa using z
   clear z;go_wp2
   go_ret
   exact ⟨QP g.out, r.out _ m⟩
 have ao : (ofT p.V t != 2) = false := by simp [z]
 have g := Lh (KF (n := n) (fuel := fuel) (⟨q.out, al.out, ad.out, Ht.out, z⟩ : Good p t));have c0 := (s.out _ m).cellv (i := 0) (v := .int .i64 p.params) rfl;clear z;by_cases hp : (n : Int) = p.params;rotate_left
 · have ar : ((n : Int) != p.params) = true := by simpa using hp
   have Hp := Lh hp;clear hp;go_wp2
   go_ret
   exact ⟨QP (by rw [g.out, if_pos Hp.out]), r.out _ m⟩
 have ar : ((n : Int) != p.params) = false := by simp [hp]
 have Hp := Lh hp;clear hp;by_cases hf : fuel < 0
 · go_wp2
   go_ret
   exact ⟨QP (by rw [g.out, if_neg (fun h => h Hp.out), if_pos (.inl hf)]), r.out _ m⟩
 have aw : 0 ≤ fuel := by omega
 by_cases ah : 10000 < fuel
 · clear hf;go_wp2
   go_ret
   exact ⟨QP (by rw [g.out, if_neg (fun h => h Hp.out), if_pos (.inr ah)]), r.out _ m⟩
 have ax : fuel ≤ 10000 := by omega
 clear hf ah;go_wp2
 go_ret
 exact ⟨QP (by rw [g.out, if_neg (fun h => h Hp.out), if_neg (by omega)]), r.out _ m⟩
end Go.Proofs.YtdcmppdhdcjpfaaGreat
namespace Go.Proofs.YtdcmppdhdcjpfaaGreat
open Go.RowKit
structure Mt where
 d : Dl
 verdict : Int
 test : Int
 kind : Int
 value : Int
 digest : List UInt8
def J8 (params : Int) (tests : List (List Int)) (fuel : Int) : Int :=
 if tests.length < 1 ∨ 20 < tests.length then 18 else if ∀ l ∈ tests, (l.length : Int) = params then (if fuel < 1 ∨ 10000 < fuel then 19 else 0) else 18
def Xp (a b : Mt) : Bool := decide (Jv a.d b.d = 0 ∧ a.verdict = b.verdict ∧ a.test = b.test ∧ (a.kind = b.kind ∧ a.value = b.value) ∧ a.digest = b.digest)
theorem sameM_iff {a b : Mt} : Xp a b = true ↔ a = b := by
 unfold Xp;rw [decide_eq_true_eq, cmpD_eq];cases a; cases b;simp only [Mt.mk.injEq];constructor
 · rintro ⟨c, d, e, ⟨g, h⟩, i⟩; exact ⟨c, d, e, g, h, i⟩
 · rintro ⟨c, d, e, g, h, i⟩; exact ⟨c, d, e, ⟨g, h⟩, i⟩
end Go.Proofs.YtdcmppdhdcjpfaaGreat
namespace Go.Proofs.YtdcmppdhdcjpfaaGreat
open Go.RowKit Go.Deep
theorem X2 {W' : World} {B g size : Nat} {e : TypeId} (hB : B ≤ g) (h : Row W' g e #[]) : W'.ownsRow B e size (.slice (some ⟨g, 0, none⟩) 0 0) 0 [] :=
 ⟨by simp, .inr ⟨g, 0, #[], rfl, hB, h, Nat.le_refl _, Nat.zero_le _, by simp, by simp⟩⟩
theorem QX {P : Program} {o : Oper} {w w1 : World} {ρ : Operand → Value} {t : TypeId} {n : Nat} (ps : List (Nat × Operand)) (ho : o.op = .buildSlice t n ps.toArray) {v : Value} (hv : (Instr.buildSlice t n (ps.map fun (i, x) => (i, ρ x)).toArray).run P w = .ok v w1) : (execOp ρ o).run P w = .ok (.value v) w1 := by
 simp only [execOp, ho, Sem.run_bind, Nv, hv, Result.andThen_ok, Sem.run_pure]
theorem Q1 {P : Program} {o : Oper} {w w1 : World} {ρ : Operand → Value} {s x : Operand} {t : TypeId} (ho : o.op = .call { callee := .builtin .append, args := #[s, x], argTypes := #[t, t] }) {v : Value} (hv : (Builtin.append_ #[t, t] o.type #[ρ s, ρ x]).run P w = .ok v w1) : (execOp ρ o).run P w = .ok (.value v) w1 := by
 unfold execOp;simp only [ho, resolve, invoke, builtin, Sem.run_bind, Sem.run_pure, Result.andThen_ok, Nv, LE, Nc, hv]
theorem EV {P : Program} {w : World} {base size n c : Nat} {t ty e : TypeId} {i : TypeInfo} {v : Value} {xs : List Value} (ht : P.underlying t = some (.slice e)) (hi : P.info? e = some i) (hown : w.ownsRow base e size v n xs) : (Builtin.append_ #[t, t] ty #[v, .slice none 0 c]).run P w = .ok v w := by
 rcases hown.2 with ⟨rfl, rfl⟩ | ⟨g, h, j, rfl, _, _, d, _⟩
 · simp [Builtin.append_, run_underlying ht, sizeOf, typeInfo, hi, Builtin.lenOf, Builtin.firstCells]
 · simp [Builtin.append_, run_underlying ht, sizeOf, typeInfo, hi, Builtin.lenOf, Builtin.firstCells, d, storeCells]
theorem ZZ {P : Program} (t e : TypeId) (z : Value) (size bytes : Nat) (ht : P.underlying t = some (.slice e)) (hinf : (P.info? e).map (fun i => (i.zero, i.size, i.bytes)) = some (some z, size, bytes)) (hzs : z.cells.size = size) (hsz : 0 < size) (hby : bytes ≤ 100)
 {W : World} {B n m cap : Nat} {v : Value} {xs cs : List Value} {A : Option Addr} (hown : W.ownsRow B e size v n xs) (hB : B ≤ W.heap.size) (hr : Rd W A cs) (hlen : cs.length = m * size) (h1 : ∀ u ∈ cs, u.oneCell' = true) (hA : A = none → m = 0) (hb : n + m ≤ 1000000) :
 ∃ v' W', (Builtin.append_ #[t, t] t #[v, .slice A m cap]).run P W = .ok v' W' ∧ W'.ownsRow B e size v' (n + m) (xs ++ cs) ∧ W.grownBy W' v.ownBlock ∧ (v'.ownBlock = v.ownBlock ∨ v'.ownBlock = some W.heap.size) := by
 obtain ⟨y, c, d, g, h⟩ := info_parts hinf;rcases A with _ | k
 · have o := hA rfl;subst o;have x : cs = [] := Lx (by simpa using hlen);subst x;exact ⟨v, W, EV ht c hown, by simpa using hown, World.grownBy.refl _ _, .inl rfl⟩
 · obtain ⟨v', W', h1, p, q, _, r⟩ := run_append_own_at (P := P) W B t t e y z size bytes ht c d g h hzs hsz v n xs hown k m cap cs hlen
    (fun j u w => by obtain ⟨l, e, s⟩ := hr j u w; injection e with e; subst e; exact s) h1 (by unfold maxLen; omega) (by have := Nat.mul_le_mul hb hby; omega) hB
   exact ⟨v', W', h1, p, q, r⟩
theorem Aby : (Tryz.prog.info? 85).map (fun i => (i.zero, i.size, i.bytes)) = some (some (.agg #[.int .i64 0, .int .i64 0]), 2, 16) := by kernel_rfl
theorem Uc {ops : Array Oper} {rest : List Oper} {o : Oper} {a : Act} {w : World} {Q : Exit → Act → World → Prop} (h : Stop (wpList Tryz.prog ops Q (o :: rest) a w) id) : wpList Tryz.prog ops Q (o :: rest) a w := h.out
theorem Zk {P : Program} {ops : Array Oper} {rest : List Oper} {o : Oper} {a : Act} {w w1 : World} {Q : Exit → Act → World → Prop} (hgd : o.guard = none) (v : Value) (hv : (execOp a.eval o).run P w = .ok (.value v) w1) (h : wpList P ops Q rest (a.put o.dst v) w1) : wpList P ops Q (o :: rest) a w :=
 wpList_plain hgd fun _ hK => by unfold Oper.wp; rw [hv]; exact hK _ _ h
theorem U7 {P : Program} {o : Oper} {w w1 : World} {ρ : Operand → Value} {s x : Operand} {t u : TypeId} (ho : o.op = .call { callee := .builtin .append, args := #[s, x], argTypes := #[t, u] }) {v : Value} (hv : (Builtin.append_ #[t, u] o.type #[ρ s, ρ x]).run P w = .ok v w1) : (execOp ρ o).run P w = .ok (.value v) w1 := by
 unfold execOp;simp only [ho, resolve, invoke, builtin, Sem.run_bind, Sem.run_pure, Result.andThen_ok, Nv, LE, Nc, hv]
theorem Af1 (n : Nat) (hn : n ≤ 1000000) (w : World) : Calls Tryz.prog 290 #[.slice none 0 0, .int .i64 (n : Int)] w fun e w' => ∃ A cap, e = .returned (.slice A 0 cap) ∧ w'.ownsRow w.heap.size 85 2 (.slice A 0 cap) 0 [] ∧ Below w.heap.size w w' := by
 have u : ¬ ((n : Int) < 0) := by omega
 have v : wrap64 ((0 : Int) - 0) = 0 := by unfold wrap64; omega
 have x : wrap64 ((n : Int) - 0) = (n : Int) := by unfold wrap64; omega
 have y : IntKind.i64.wrap (n : Int) = (n : Int) := IntWalk.i64_in _ (by omega);by_cases r : n = 0
 · subst r;go_enter Tryz.func290, Tryz.ntmps290
   go_wp2
   go_ret
   exact ⟨_, _, rfl, World.ownsRow_nil _ _ _ _, Below.refl _ _⟩
 · have z : (0 : Int) < (n : Int) := by omega
   obtain ⟨p, k, l, m, h⟩ := info_parts Aby;have d : (Builtin.firstCells p.size 0 (.slice none 0 0)).run Tryz.prog w.drew = .ok ([] : List Value).toArray w.drew := run_firstCells_none w.drew p.size 0 0 0
   have c := fun t => Lib.run_append_grow_zeros (P := Tryz.prog) w 23 3 t 85 p _ .i64 .i64 Tryz.underlying23 Tryz.underlying3 k l none 0 0 [] d n (by omega) (by rw [m]; omega) (by omega) (by omega) (by rw [h]; omega) (growslice_fits (by omega) (by rw [h]; omega))
   simp only [LJ] at c;have o := grownCap_ge w n 0 85;have g := grownCap_le_maxLen w n 0 85 (by unfold maxLen; omega);generalize grownCap w n 0 85 = G at c o g
   have j : ((([] : List Value).toArray ++ Builtin.zeroCells (Value.agg #[.int .i64 0, .int .i64 0]).cells n ++ Builtin.zeroCells (Value.agg #[.int .i64 0, .int .i64 0]).cells (G - n)) : Array Value).size = G * 2 := by
    simp only [Array.size_append, size_zeroCells];show 0 + n * 2 + (G - n) * 2 = G * 2;omega
   generalize (([] : List Value).toArray ++ Builtin.zeroCells (Value.agg #[.int .i64 0, .int .i64 0]).cells n ++ Builtin.zeroCells (Value.agg #[.int .i64 0, .int .i64 0]).cells (G - n)) = cs at c j;have i := Lh c;have s : G ≤ 9223372036854775807 := by unfold maxLen at g; omega
   clear c k l m h d r;go_enter Tryz.func290, Tryz.ntmps290
   go_wp2_with (at_builtin; refine Uc ?_)
   refine Stop.to ?_;refine Zk rfl _ (U7 rfl (i.out _)) ?_;have rn : Row (w.drew.alloc (.cells cs 85)) w.heap.size 85 cs := Row.new w.drew _ _;have q : Below w.heap.size w (w.drew.alloc (.cells cs 85)) := (⟨rfl, rfl, rfl, Nat.le_refl _, fun _ _ => rfl⟩ : Below w.heap.size w w.drew).trans ((Below.refl _ w.drew).alloc (Nat.le_refl _) _);generalize w.drew.alloc (.cells cs 85) = w1 at rn q ⊢;clear i;go_wp2
   go_ret
   exact ⟨_, _, rfl, ⟨by simp, .inr ⟨w.heap.size, G, cs, rfl, Nat.le_refl _, rn, Nat.zero_le _, g, j, by simp⟩⟩, q⟩
structure PtV where
 addr : Option Addr
 cap : Nat
 body : List Nd
def PtV.val (q : PtV) : Value := .slice q.addr q.body.length q.cap
def PtV.rd (q : PtV) (w : World) : Prop := Rd w q.addr (q.body.flatMap Nd.cells) ∧ (q.addr = none → q.body = [])
def Za (ps : List PtV) : List Nd := ps.flatMap PtV.body
theorem PtV.rd.go {q : PtV} {w w' : World} (h : q.rd w) (b : Below w.heap.size w w') : q.rd w' := ⟨h.1.go b, h.2⟩
theorem ZY (l : List Nd) : (l.flatMap Nd.cells).length = l.length * 2 := by
 induction l with
 | nil => rfl
 | cons a l ih => simp only [LC, Lf, ih, Ld]; simp [Nd.cells]; omega
theorem VE (l : List Nd) : ∀ u ∈ l.flatMap Nd.cells, u.oneCell' = true := by
 intro u c;simp only [Np, Nd.cells, Lt, L0, or_false] at c;obtain ⟨a, _, rfl | rfl⟩ := c <;> rfl
theorem AdW {W : World} {B n m cap : Nat} {v : Value} {xs : List Value} {A : Option Addr} {l : List Nd} (hown : W.ownsRow B 85 2 v n xs) (hB : B ≤ W.heap.size) (hr : Rd W A (l.flatMap Nd.cells)) (hm : m = l.length) (hA : A = none → m = 0) (hb : n + m ≤ 1000000) :
 ∃ v' W', (Builtin.append_ #[23, 23] 23 #[v, .slice A m cap]).run Tryz.prog W = .ok v' W' ∧ W'.ownsRow B 85 2 v' (n + m) (xs ++ l.flatMap Nd.cells) ∧ W.grownBy W' v.ownBlock ∧ (v'.ownBlock = v.ownBlock ∨ v'.ownBlock = some W.heap.size) :=
 ZZ 23 85 _ 2 16 Tryz.underlying23 Aby rfl (by decide) (by decide) hown hB hr (by rw [ZY, hm]) (VE l) hA hb
theorem Zi {w : World} {base n size : Nat} {e : TypeId} {v : Value} {xs : List Value} (h : w.ownsRow base e size v n xs) : ∃ A cap, v = .slice A n cap := by
 rcases h.2 with ⟨rfl, d⟩ | ⟨g, cap, c, rfl, _⟩
 · subst d; exact ⟨_, _, rfl⟩
 · exact ⟨_, _, rfl⟩
theorem Vn {ps : List PtV} {k : Nat} {q : PtV} (h : ps[k]? = some q) : Za (ps.take (k + 1)) = Za (ps.take k) ++ q.body := by
 unfold Za;rw [LF, h];simp
theorem Aa5 (ps : List PtV) (k : Nat) : (Za (ps.take k)).length ≤ (Za ps).length := by
 have : Za ps = Za (ps.take k) ++ Za (ps.drop k) := by
  unfold Za;rw [← L6, LD]
 rw [this]; simp
theorem Aed (A : Option Addr) (m cp : Nat) (ps : List PtV) (w : World) (hm : m = ps.length) (hr : Rd w A (ps.map PtV.val)) (hps : ∀ q ∈ ps, q.rd w) (hl : (Za ps).length ≤ 1000000) (hml : m ≤ 1000) :
 Calls Tryz.prog 269 #[.slice A m cp] w fun e w' => ∃ v, e = .returned v ∧ w'.ownsRow w.heap.size 85 2 v (Za ps).length ((Za ps).flatMap Nd.cells) ∧ Below w.heap.size w w' := by
 have Hr := Lh hr;have ae := Lh hps;have Hm := Lh hm;have af := hl;clear hr hps hm;go_enter Tryz.func269, Tryz.ntmps269
 go_wp2
 go_loopw [3, 11] (fun s i wr => ∃ k : Nat, i = .int .i64 (k : Int) ∧ s = .int .i64 ((Za (ps.take k)).length : Int) ∧ k ≤ m ∧ w = wr) (fun _ i _ => m - (intOf i).toNat)
 case atStart => exact ⟨0, rfl, by simp [Za], Nat.zero_le _, rfl⟩
 case round =>
  obtain ⟨k, rfl, rfl, hk, rfl⟩ := hrel;by_cases x : k < m
  · obtain ⟨q, p⟩ : ∃ q, ps[k]? = some q := ⟨_, Lb (by have := Hm.out; omega)⟩;obtain ⟨ad, rfl, hc⟩ := Hr.out k q.val (by simp [p]);have aj : (k : Int) < (m : Int) := by omega
    have z := Vn p;have g := Aa5 ps (k + 1);rw [z, Lf] at g;have e1 : IntKind.i64.wrap (((Za (ps.take k)).length : Int) + (q.body.length : Int)) = ((Za (ps.take k)).length : Int) + (q.body.length : Int) := IntWalk.i64_in _ (by omega);have e2 : ¬ (((Za (ps.take k)).length : Int) + (q.body.length : Int) < 0) := by omega
    have ah : IntKind.i64.wrap ((k : Int) + 1) = (k : Int) + 1 := IntWalk.i64_in _ (by omega);have Hs : Hid ((((Za (ps.take k)).length : Int) + (q.body.length : Int)) = ((Za (ps.take (k + 1))).length : Int)) := by show _ = _; rw [z, Lf]; omega
    unfold PtV.val at hc;clear z g p;generalize (Za (ps.take k)).length = sk at *;go_wp2
    go_roundw
    case rel => exact ⟨k + 1, by go_num, by rw [← Hs.out], by omega, by trivial⟩
    case measure => simp [intOf]; omega
  · obtain rfl : k = m := by omega
    have ht : ps.take k = ps := by rw [Hm.out]; exact LS
    rw [ht];obtain ⟨n, hn⟩ : ∃ n, n = (Za ps).length := ⟨_, rfl⟩;have Hn := Lh hn;rw [← hn] at hl ⊢;clear x hk ht hn af;go_wp2_with fail
    refine (Af1 n hl w).mono ?_;rintro e w1 ⟨A1, c1, rfl, o, b1⟩;have c := Lh o;have aa := Lh b1;clear o b1;go_wp2
    go_loopw [6, 27] (fun s i W => ∃ (k' : Nat) (v : Value), s = v ∧ i = .int .i64 (k' : Int) ∧ k' ≤ k ∧ Hid (W.ownsRow w.heap.size 85 2 v (Za (ps.take k')).length ((Za (ps.take k')).flatMap Nd.cells)) ∧ Hid (Below w.heap.size w W)) (fun _ i _ => k - (intOf i).toNat)
    case atStart => exact ⟨0, _, rfl, rfl, Nat.zero_le _, by simpa [Za] using c, aa⟩
    case round =>
     clear c aa;obtain ⟨j, v, rfl, rfl, hj, c, t⟩ := hrel;by_cases x : j < k
     · obtain ⟨q, p⟩ : ∃ q, ps[j]? = some q := ⟨_, Lb (by have := Hm.out; omega)⟩;obtain ⟨ad, rfl, hc⟩ := (Hr.out.go t.out) j q.val (by simp [p]);have y := (ae.out q (Lg p)).go t.out;have ai : (j : Int) < (k : Int) := by omega
       have z := Vn p;have g := Aa5 ps (j + 1);rw [z, Lf, ← Hn.out] at g;have ag : IntKind.i64.wrap ((j : Int) + 1) = (j : Int) + 1 := IntWalk.i64_in _ (by omega);obtain ⟨v2, W2, r, d, ab, _⟩ := AdW (cap := q.cap) c.out t.out.size y.1 (rfl : q.body.length = q.body.length) (fun h => by rw [y.2 h]; rfl) (by omega);have b2 := QV (Below.refl w.heap.size _) c.out ab t.out.size (Nat.le_refl _)
       have u : Hid (W2.ownsRow w.heap.size 85 2 v2 (Za (ps.take (j + 1))).length ((Za (ps.take (j + 1))).flatMap Nd.cells)) := by
        show W2.ownsRow _ _ _ _ _ _;rw [z, Lf, L6]; exact d
       have ac := Lh (t.out.trans b2);have l := Lh r;obtain ⟨A2, c2, rfl⟩ := Zi d;obtain ⟨A3, c3, rfl⟩ := Zi c.out;unfold PtV.val at hc;clear z g p r d ab b2 y c t;go_wp2_with (at_builtin; refine Uc ?_)
       refine Stop.to ?_;refine Zk rfl _ (Q1 rfl l.out) ?_;clear l hc;go_wp2
       go_roundw
       case rel => exact ⟨j + 1, _, rfl, by go_num, by omega, u, ac⟩
       case measure => simp [intOf]; omega
     · obtain rfl : j = k := by omega
       have ht : ps.take j = ps := by rw [Hm.out]; exact LS
       rw [ht] at c;obtain ⟨A3, c3, rfl⟩ := Zi c.out;clear x hj ht;go_wp2
       go_ret
       exact ⟨_, rfl, c.out, t.out⟩
end Go.Proofs.YtdcmppdhdcjpfaaGreat
namespace Go.Proofs.YtdcmppdhdcjpfaaGreat
open Go.ChangeShapes Go.WideShapes Go.RowKit Go.Deep
theorem UN : Tryz.prog.cellsOf 3 = 1 := by kernel_rfl
section
variable {H : Type} {enc : TypeId × Value → H} {w : World} {base : Nat} {spare : Nat → Bool} {held : Bool}
def RunV.val (r : RunV) : Value := .agg #[.int .i64 r.kind, .int .i64 r.value, .int .i64 r.steps, .slice r.addr r.evs.length r.cap]
structure RunV.ok (r : RunV) (w : World) : Prop where
 kind : InI r.kind
 value : InI r.value
 steps : InI r.steps
 len : r.evs.length ≤ r.cap
 cap : r.cap ≤ maxLen
 nil : r.addr = none → r.cap = 0
 reads : Rd w r.addr (r.evs.flatMap EvV.cells)
 evs : ∀ e ∈ r.evs, e.ok
end
end Go.Proofs.YtdcmppdhdcjpfaaGreat
namespace Go.Proofs.YtdcmppdhdcjpfaaGreat
open Go.RowKit Go.Deep
theorem Eg : ∀ (l : List EvV) (k : Nat) (e : EvV), l[k]? = some e → ∀ j u, e.cells[j]? = some u → (l.flatMap EvV.cells)[k * 3 + j]? = some u
 | [], k, e, h, _, _, _ => by simp at h
 | a :: l, 0, e, h, j, u, hj => by
  simp at h; subst h
  have hl : j < a.cells.length := (La.1 hj).1
  simp only [LC]
  rw [Ly (by omega)]
  simpa using hj
 | a :: l, k + 1, e, h, j, u, hj => by
  simp only [LC]
  rw [Lu (by simp [EvV.cells]; omega)]
  have := Eg l k e (by simpa using h) j u hj
  rw [← this]; congr 1; simp [EvV.cells]; omega
theorem ZA {P : Program} {ops : Array Oper} {S : World → Prop} {Q : Act → Prop} {a : Act} {o : Oper} {rest : List Oper} (hw : Region.wanted o (yielded ops a.tmps) = true) (ty : TypeId) (x : Operand) (ho : o.op = .load ty x) (ad : Addr) (hx : a.eval x = .pointer (some ad)) (cs : List Value) (d : TypeDesc)
 (hr : ∀ W, S W → ∀ j v, cs[j]? = some v → W.cell? (ad.add j) = some v) (hu : P.underlying ty = some d) (hd : (match d with | .struct _ | .array _ _ => true | _ => false) = true) (hi : (P.info? ty).map (·.size) = some cs.length)
 (h : ZR P ops S Q rest (a.put o.dst (.agg cs.toArray))) : ZR P ops S Q (o :: rest) a :=
 Qg hw (.agg cs.toArray) (fun W hW => by
  simp only [execOp, ho, hx, Instr.loadAt, Instr.sureAddr, Sem.run_bind, Sem.run_pure, Result.andThen_ok, JZ W ad ty cs d (hr W hW) hu hd hi]) h
theorem ZD {P : Program} {o : Oper} {w : World} {ρ : Operand → Value} {b : BinOp} {t t' : TypeId} {x y : Operand} (ho : o.op = .binOp b t x y t') (v : Value) (hg : (eqGuard b t x y (ρ x) (ρ y)).run P w = .ok () w) (hv : (binOp b t (ρ x) (ρ y)).run P w = .ok v w) : (execOp ρ o).run P w = .ok (.value v) w := by
 simp only [execOp, ho, Sem.run_bind, hg, hv, Result.andThen_ok, Sem.run_pure]
end Go.Proofs.YtdcmppdhdcjpfaaGreat
namespace Go.Proofs.YtdcmppdhdcjpfaaGreat
open Go.RowKit
section
variable {P : Program} {ops : Array Oper} {rest : List Oper} {o : Oper} {a : Act} {w : World} {Q : Exit → Act → World → Prop}
theorem AdM (S : World → Prop) (hS : S w) : ∀ (n : Nat) (l : List Oper) (a : Act) (w : World), S w → ZR P ops S (fun a' => ∀ W, S W → wpList P ops Q (l.drop n) a' W) (l.take n) a → wpList P ops Q l a w := by
 intro n
 induction n with
 | zero => intro l a w hS h; exact h w hS
 | succ n ih =>
  intro l a w hS h;cases l with
  | nil => exact h w hS
  | cons o l =>
   obtain ⟨v, m, g⟩ := h;refine wpList_step fun K d => ?_
   rcases m with ⟨j, k⟩ | ⟨j, rfl⟩
   · rw [if_pos j];have c := k w hS;unfold Oper.wp;generalize (execOp a.eval o).run P w = r at c;cases r with
     | ok n' w' =>
      cases n' <;> simp only [Ym] at c <;> simp only [Oper.upon]
      case value u => obtain ⟨rfl, i⟩ := c; exact d _ _ (ih l _ _ i g)
      case skip => obtain ⟨rfl, i⟩ := c; exact d _ _ (ih l _ _ i g)
      case enter f args => exact c.mono fun e w'' ⟨he, hs⟩ => by subst he; exact d _ _ (ih l _ _ hs g)
     | halt x w' => simp only [Ym] at c
   · rw [if_neg (by rw [j]; simp)];exact d _ _ (ih l _ _ hS g)
theorem Z8 (S : World → Prop) (n : Nat) {l : List Oper} (hS : S w) (h : ZR P ops S (fun a' => ∀ W, S W → wpList P ops Q (l.drop n) a' W) (l.take n) a) : wpList P ops Q l a w := AdM S hS n l a w hS h
theorem XT (ty : TypeId) (x : Operand) (_ : o.op = .load ty x) (h : Stop (wpList P ops Q (o :: rest) a w) id) : wpList P ops Q (o :: rest) a w := h.out
theorem Zw (t : TypeId) (n : Nat) (ps : Array (Nat × Operand)) (_ : o.op = .buildSlice t n ps) (h : Stop (wpList P ops Q (o :: rest) a w) id) : wpList P ops Q (o :: rest) a w := h.out
theorem Qv (hw : Region.wanted o (yielded ops a.tmps) = true) (t : TypeId) (n : Nat) (ps : Array (Nat × Operand)) (ho : o.op = .buildSlice t n ps) (e : TypeId) (cells : Array Value)
 (hx : ∀ W, (Instr.buildSlice t n (ps.map fun (i, x) => (i, a.eval x))).run P W = .ok (.slice (some ⟨W.heap.size, 0, none⟩) n n) (W.alloc (.cells cells e)))
 (h : ∀ g w', w.heap.size ≤ g → Row w' g e cells → Below g w w' → wpList P ops Q rest (a.put o.dst (.slice (some ⟨g, 0, none⟩) n n)) w') : wpList P ops Q (o :: rest) a w := by
 refine BigFrame.wpList_want hw fun K c => ?_
 unfold Oper.wp execOp;simp only [ho, Sem.run_bind, hx, Result.andThen_ok, Sem.run_pure];exact c _ _ (h _ _ (Nat.le_refl _) (Row.new _ _ _) ((Below.refl _ _).alloc (Nat.le_refl _) _))
theorem ZP {t e : TypeId} {n sz : Nat} {z : Value} {parts : Array (Nat × Value)} {cells : Array Value} (hu : P.underlying t = some (.slice e)) (hi : (P.info? e).map (fun i => (i.zero, i.size)) = some (some z, sz)) (h1 : n * sz ≤ 2 ^ 24) (h2 : n * sz ≠ 0)
 (hf : Instr.fill (fun i => some (i * sz, sz)) ((Array.range (n * sz)).map (z.cells[· % z.cells.size]!)) parts.toList = some cells) : ∀ W, (Instr.buildSlice t n parts).run P W = .ok (.slice (some ⟨W.heap.size, 0, none⟩) n n) (W.alloc (.cells cells e)) := by
 intro W;cases hq : P.info? e with
 | none => rw [hq] at hi; cases hi
 | some ie =>
  rw [hq] at hi;simp only [Ny, LY, Prod.mk.injEq] at hi;obtain ⟨c, rfl⟩ := hi;exact run_buildSlice W t e n parts cells ie z hu hq c (by omega) h2 hf
end
end Go.Proofs.YtdcmppdhdcjpfaaGreat
namespace Go.Proofs.YtdcmppdhdcjpfaaGreat
open Go.RowKit Go.Deep
theorem Kz {W : World} {g : Nat} {t : TypeId} {cs : List Value} (h : Row W g t cs.toArray) : Rd W (some ⟨g, 0, none⟩) cs := fun j u hj => ⟨_, rfl, by
 have := h.cellv (i := j) (v := u) (by simpa using hj)
 unfold Addr.add
 by_cases h0 : j = 0
 · subst h0; exact this
 · rw [if_neg h0]; simpa using this⟩
theorem Ahr : (Tryz.prog.info? 23).map (fun i => (i.zero, i.size)) = some (some (.slice none 0 0), 1) := by kernel_rfl
structure NdsR (l : List Nd) (w w' : World) (e : Ending) : Prop where
 ex : ∃ v, e = .returned v ∧ w'.ownsRow w.heap.size 85 2 v l.length (l.flatMap Nd.cells) ∧ Below w.heap.size w w'
theorem Eo (A : Option Addr) (m cp : Nat) (ps : List PtV) (w : World) (hm : m = ps.length) (hr : Rd w A (ps.map PtV.val)) (hps : ∀ q ∈ ps, q.rd w) (hl : (Za ps).length ≤ 1000000) (hml : m ≤ 1000) :
 Calls Tryz.prog 246 #[.slice A m cp] w (fun e w' => NdsR (Za ps) w w' e) := by
 have d := Lh (Aed A m cp ps w hm hr hps hl hml);clear hm hr hps hl hml;go_enter Tryz.func246, Tryz.ntmps246
 go_wp2_with fail
 refine d.out.mono ?_;rintro e j ⟨v, rfl, c, g⟩;obtain ⟨h, i, rfl⟩ := Zi c;go_wp2
 go_ret
 exact ⟨_, rfl, c, g⟩
theorem AhS (A : Option Addr) (cap : Nat) (l : List Nd) (q : Nat) (t : Tr) (w : World) (hat : At l q t) (hr : Rd w A (l.flatMap Nd.cells)) (hl : l.length ≤ 1000) (hlc : l.length ≤ cap) (hcm : cap ≤ maxLen) :
 Calls Tryz.prog 267 #[.slice A l.length cap, .int .i64 (q : Int)] w (fun e w' => NdsR t.flat w w' e) := by
 have he := Jq A cap l (q : Int) w hr hl;rw [hat.endZ] at he;have af := hat.le;have ab := t.size_eq;obtain ⟨m, rfl, _⟩ := JP hr hat.root;obtain ⟨s, i⟩ := hat.here
 have g : ∀ W, Rd W (some m) (l.flatMap Nd.cells) → Rd W (some (m.add (q * 2))) (t.flat.flatMap Nd.cells) := by
  intro W h j u p
  obtain ⟨ae, e, hc⟩ := h.part (q * 2) (t.flat.flatMap Nd.cells) (fun j u p => by
   have h1 : l = l.take q ++ (t.flat ++ s) := by rw [← i, LD]
   have h2 : (l.take q).length = q := by rw [L4]; omega
   rw [h1, L6, Lu (by rw [ZY, h2]; omega), ZY, h2, Ns, L6, Ly (La.1 p).1]
   exact p) (by rw [t.flat_eq]; simp [Nd.cells])
  injection e with e;subst e;exact ⟨_, rfl, hc j u p⟩
 have c := Lh g;have He := Lh he;have Hr := Lh hr;have k : Hid (t.flat.length = t.size) := rfl;generalize aa : t.size = sz at *;have ac : (cap : Int) ≤ 9223372036854775807 := by unfold maxLen at hcm; omega
 have ag : (q : Int) ≤ ((q + sz : Nat) : Int) := by omega
 have ah : ((q + sz : Nat) : Int) ≤ (cap : Int) := by omega
 have ai : ¬ (((q + sz : Nat) : Int) < 0) := by omega
 have aj : (1 : Int) ≤ (sz : Int) := by omega
 clear he hr g i hat ab aa;go_enter Tryz.func267, Tryz.ntmps267
 go_wp2_with fail
 refine He.out.mono ?_;rintro e w1 ⟨rfl, y⟩;have r := Lh (Hr.out.go y);have n := Lh y;clear He Hr y;go_wp2_with (refine Zw _ _ _ rfl ?_)
 refine Stop.to ?_;have hv : PtV.val ⟨some (m.add (q * 2)), cap - q, t.flat⟩ = .slice (some (m.add (q * 2))) (q + sz - q) (cap - q) := by unfold PtV.val; rw [k.out, Ns]
 refine Qv rfl 316 1 _ rfl 23 #[PtV.val ⟨some (m.add (q * 2)), cap - q, t.flat⟩] ?_ ?_
 · rw [hv];exact ZP Tryz.underlying316 Ahr (by decide) (by decide) (by kernel_rfl)
 intro G w2 hG rG z;have b2 := n.out.trans ((z.mono hG).mono n.out.size)
 have p := Eo (some ⟨G, 0, none⟩) 1 1 [⟨some (m.add (q * 2)), cap - q, t.flat⟩] w2 rfl (Kz (cs := [PtV.val ⟨some (m.add (q * 2)), cap - q, t.flat⟩]) rG) (fun x hx => by
  rw [Ls.1 hx]
  exact ⟨c.out _ (r.out.go (z.mono hG)), fun e => by cases e⟩) (by simp [Za]; have := k.out; omega) (by omega)
 have Hj := Lh p;have o := Lh b2;clear p b2 rG z hG r n c hv;go_wp2_with fail
 refine Hj.out.mono ?_;rintro e w3 ⟨v, rfl, d, b3⟩;rw [show Za [⟨some (m.add (q * 2)), cap - q, t.flat⟩] = t.flat by simp [Za]] at d;obtain ⟨A3, c3, rfl⟩ := Zi d;go_wp2
 go_ret
 exact ⟨_, rfl, QL d o.out.size, o.out.trans (b3.mono o.out.size)⟩
theorem Aiy (W : World) : (Instr.buildSlice 22 0 #[]).run Tryz.prog W = .ok (.slice (some ⟨W.heap.size, 0, none⟩) 0 0) (W.alloc (.cells #[] 3)) := by kernel_rfl
theorem X4 {w : World} {base n : Nat} {e : TypeId} {v : Value} {xs : List Value} (h : w.ownsRow base e 1 v n xs) : ∃ A cap, v = .slice A n cap ∧ Rd w A xs ∧ n ≤ cap ∧ (A = none → cap = 0) ∧ ∀ ad, A = some ad → base ≤ ad.block := by
 obtain ⟨A, cap, rfl, j, k, l⟩ := AbI h;refine ⟨A, cap, rfl, j, k, l, fun ad e => ?_⟩;rcases h.2 with ⟨d, _⟩ | ⟨g, c, i, d, m, _⟩
 · injection d with e3; rw [e] at e3; cases e3
 · injection d with e3; rw [e] at e3; injection e3 with e3; rw [e3]; exact m
theorem UO (A : Option Addr) (cap : Nat) (l : List Int) (w : World) (hr : Rd w A (Qi l)) (hnil : A = none → l = []) (hl : l.length ≤ 100000) :
 Calls Tryz.prog 117 #[.slice A l.length cap] w fun e w' => IntsR l w w' e := by
 rcases A with _ | p
 · have r := hnil rfl;subst r;have k := fun W : World => Lib.run_eql_slice_nil (P := Tryz.prog) W 22 3 none 0 cap 0 0 Tryz.underlying22
   simp only [Option.isNone_none] at k;rw [show ([] : List Int).length = 0 from rfl];go_enter Tryz.func117, Tryz.ntmps117
   go_wp2_with fail
   go_ret
   exact ⟨_, rfl, World.ownsRow_nil _ _ _ _, Below.refl _ _⟩
 · have o := Lh hr;have n := Lh hl;clear hr hl hnil;have k := fun W : World => Lib.run_eql_slice_nil (P := Tryz.prog) W 22 3 (some p) l.length cap 0 0 Tryz.underlying22
   simp only [Option.isNone_some] at k;go_enter Tryz.func117, Tryz.ntmps117
   go_wp2_with (refine Zw _ _ _ rfl ?_)
   refine Stop.to ?_;refine Zk rfl _ (QX [] rfl (Aiy w)) ?_;have j := Row.new w 3 #[];have h := (Below.refl w.heap.size w).alloc (Nat.le_refl _) (.cells #[] 3);generalize w.alloc (.cells #[] 3) = w1 at j h ⊢;obtain ⟨u, v, d, c, i, _⟩ := ZZ (P := Tryz.prog) 22 3 (.int .i64 0) 1 8 Tryz.underlying22 Z9 rfl (by decide) (by decide) (X2 (B := w.heap.size) (size := 1) (Nat.le_refl _) j) h.size (o.out.go h) (m := l.length) (cap := cap) (by simp [Qi]) (Jj l) (by simp) (by have := n.out; omega);rw [LJ, Lo] at c;have q := QV h (X2 (B := w.heap.size) (size := 1) (Nat.le_refl _) j) i h.size (Nat.le_refl _);have g := Lh d;clear d i j;go_wp2_with (refine Uc ?_)
   refine Stop.to ?_;refine Zk rfl _ (Q1 rfl g.out) ?_;obtain ⟨s, t, rfl⟩ := Zi c;go_wp2
   go_ret
   exact ⟨_, rfl, c, q⟩
end Go.Proofs.YtdcmppdhdcjpfaaGreat
