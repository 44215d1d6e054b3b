/- Lemmas for RunnerJustP. -/
import Derived.Test.YtkoikjnlpifbjaaGreatZb1
import Derived.Test.YtkoikjnlpifbjaaGreatZb11
import Derived.Test.YtkoikjnlpifbjaaGreatZb20
import Derived.Test.YtkoikjnlpifbjaaGreatZb19
import Derived.Test.YtkoikjnlpifbjaaGreatZb8
import Derived.Test.YtkoikjnlpifbjaaGreatZb14
import Derived.Test.YtkoikjnlpifbjaaGreatZb13
import Derived.OrdersHeld
set_option linter.unusedVariables false
set_option linter.unusedSimpArgs false
set_option maxRecDepth 100000
set_option maxHeartbeats 16000000
namespace Go.Proofs.YtkoikjnlpifbjaaGreat
open Go.RowKit
section
variable {P : Program} {ops : Array Oper} {Q : Exit → Act → World → Prop} {md : Region.Mode} {S : World → Prop} {last : Nat}
def YieldsC (P : Program) (ops : Array Oper) (S : World → Prop) (o : Oper) (v : Value) (a : Act) : Prop :=
 (Region.wanted o (yielded ops a.tmps) = true ∧ ∀ w, S w → (execOp a.eval o).run P w = .ok (.value v) w ∨ ∃ f args, (execOp a.eval o).run P w = .ok (.enter f args) w ∧ Calls P f args w fun e w' => e = .returned v ∧ w' = w) ∨
 (Region.wanted o (yielded ops a.tmps) = false ∧ v = undef)
theorem Qn {o : Oper} {v : Value} {a : Act} (h : YieldsIf P ops S o v a) : YieldsC P ops S o v a := h.imp (fun ⟨hw, hv⟩ => ⟨hw, fun w hS => .inl (hv w hS)⟩) id
theorem YieldsC.wpOp {i : Nat} {o : Oper} {v : Value} {a : Act} (hi : ops[i]? = some o) (hy : YieldsC P ops S o v a) {K : Act → World → Prop} {w : World} (hS : S w) (h : K (a.put o.dst v) w) : wpOp P ops Q i K a w := by
 unfold Go.wpOp;simp only [hi];rcases hy with ⟨c, b⟩ | ⟨c, rfl⟩
 · rw [if_pos c];refine .inl ?_;unfold Oper.wp;rcases b w hS with b | ⟨f, d, b, g⟩
   · rw [b]; exact h
   · rw [b];refine Calls.mono g fun e k j => ?_
     obtain ⟨rfl, rfl⟩ := j;exact h
 · rw [if_neg (by rw [c]; simp)]; exact h
theorem YieldsC.of_same {o : Oper} {v : Value} {a a' : Act} (hy : YieldsC P ops S o v a) (he : execOp a'.eval o = execOp a.eval o) (hw : Region.wanted o (yielded ops a'.tmps) = Region.wanted o (yielded ops a.tmps)) : YieldsC P ops S o v a' := by
 unfold YieldsC at *;rw [he, hw];exact hy
theorem AgW {j : Nat} {oi oj : Oper} {v : Value} (hj : ops[j]? = some oj) (hap : oi.apart ops oj = true)
 (hsi : ∀ cs b, oi.op ≠ .select cs b) (hsj : ∀ cs b, oj.op ≠ .select cs b)
 (hQ : ∀ c a w, Q (.panic c) (a.put oi.dst v) w → Q (.panic c) a w) {K : Act → World → Prop} {a : Act} {w : World}
 (hy : YieldsC P ops S oi v a) (h : wpOp P ops Q j K (a.put oi.dst v) w) :
 wpOp P ops Q j (fun a' w' => YieldsC P ops S oi v a' ∧ K (a'.put oi.dst v) w') a w := by
 obtain ⟨o, l, s⟩ := Oper.apart_spec hap
 have keep : ∀ (a : Act), YieldsC P ops S oi v a → ∀ u, YieldsC P ops S oi v (a.put oj.dst u) := fun a hy u =>
  hy.of_same (execOp_put oi hsi a oj.dst u s) (wanted_put oi a oj.dst u s)
 have k : ∀ d, YieldsC P ops S oi v { a with defers := d :: a.defers } := fun d => hy.of_same rfl rfl
 unfold wpOp at *;simp only [hj] at *;rw [wanted_put oj a oi.dst v o] at h;split
 · rename_i p;simp only [p, if_true] at h;rcases h with h | ⟨g, i⟩
   case inr => exact .inr ⟨by unfold Oper.asks at *; rw [execOp_put oj hsj a oi.dst v o] at g; exact g, i⟩
   refine .inl ?_;unfold Oper.wp at *;rw [execOp_put oj hsj a oi.dst v o] at h;generalize (execOp a.eval oj).run P w = r at *;cases r with
   | ok n w' =>
    cases n <;> simp only [Oper.upon] at h ⊢
    case value u => exact ⟨keep a hy u, by rw [← Act.put_comm a v u l]; exact h⟩
    case skip => exact ⟨keep a hy _, by rw [← Act.put_comm a v undef l]; exact h⟩
    case defer d =>
     refine ⟨keep _ (k d) _, ?_⟩;rw [← Act.put_comm _ v undef l, ← Act.put_defers];exact h
    case enter f args =>
     refine Calls.mono h fun e q m => ?_
     cases e with
     | returned u => exact ⟨keep a hy u, by rw [← Act.put_comm a v u l]; exact m⟩
     | panicked c => exact hQ _ _ _ m
     | outgrown => exact m
    case row row args => exact Rows.mono h fun u q m => ⟨keep a hy u, by rw [← Act.put_comm a v u l]; exact m⟩
   | halt x w' =>
    cases x <;> simp only [Oper.upon] at h ⊢
    case panic u => exact hQ _ _ _ h
 · rename_i p;simp only [p] at h;exact ⟨keep a hy _, by rw [← Act.put_comm a v undef l]; exact h⟩
def XE (P : Program) (md : Region.Mode) (ops : Array Oper) (Q : Exit → Act → World → Prop) (S : World → Prop) (last : Nat) : Nat → Array Bool → Act → World → Prop
 | 0, listed, a, w => Region.ready md ops listed = [] ∧ Q .normal a w
 | fuel + 1, listed, a, w =>
  (Region.ready md ops listed = [] → Q .normal a w) ∧
  ∀ i ∈ Region.ready md ops listed, wpOp P ops Q i (fun a' w' => (i ≠ last → S w') ∧ XE P md ops Q S last fuel (listed.setIfInBounds i true) a' w') a w
theorem Aas : ∀ (fuel : Nat) (listed : Array Bool) (a : Act) (w : World), XE P md ops Q S last fuel listed a w → wpAny P md ops Q fuel listed a w
 | 0, _, _, _, h => h
 | fuel + 1, _, _, _, h => ⟨h.1, fun i hi => wpOp_mono (fun a' w' h' => Aas fuel _ a' w' h'.2) (h.2 i hi)⟩
theorem Acl {i : Nat} {oi : Oper} {v : Value} (hi : ops[i]? = some oi) (hsel : ∀ (j : Nat) (o : Oper) cs b, ops[j]? = some o → o.op ≠ .select cs b)
 (hil : i ≠ last) (hdep : ∀ o, ops[last]? = some o → ∃ e ∈ o.after, Region.binds md e = true ∧ e.on = i)
 (hQ : ∀ c a w, Q (.panic c) (a.put oi.dst v) w → Q (.panic c) a w) :
 ∀ (fuel : Nat) (listed : Array Bool) (a : Act) (w : World),
  (∀ j oj, ops[j]? = some oj → j ≠ i → listed.getD j true = false → (∀ e ∈ oj.after, Region.binds md e = true → e.on ≠ i) → oi.apart ops oj = true) →
  i ∈ Region.ready md ops listed → YieldsC P ops S oi v a → S w →
  XE P md ops Q S last fuel (listed.setIfInBounds i true) (a.put oi.dst v) w → XE P md ops Q S last (fuel + 1) listed a w := by
 intro fuel
 induction fuel with
 | zero =>
  intro listed a w _ t hy u H;refine ⟨fun h => (by rw [h] at t; cases t), fun j hj => ?_⟩;by_cases d : j = i
  · subst d; exact hy.wpOp hi u ⟨fun _ => u, H⟩
  · have := ready_mono hj d;rw [H.1] at this;cases this
 | succ fuel ih =>
  intro listed a w g t hy u H;refine ⟨fun h => (by rw [h] at t; cases t), fun j hj => ?_⟩;by_cases d : j = i
  · subst d; exact hy.wpOp hi u ⟨fun _ => u, H⟩
  · have q := H.2 j (ready_mono hj d);obtain ⟨n, oj, m, x⟩ := mem_ready.1 hj
    have p : ∀ e ∈ oj.after, Region.binds md e = true → e.on ≠ i := fun e he hb s => by
     have q := x e he hb;have h0 := (mem_ready.1 t).1;rw [s] at q;rcases Nat.lt_or_ge i listed.size with h' | h'
     · simp [h'] at h0 q; rw [h0] at q; cases q
     · simp [NC h'] at q
    have z : j ≠ last := fun e => by
     subst e;obtain ⟨e, he, hb, s⟩ := hdep oj m;exact p e he hb s
    have h2 := AgW m (g j oj m d n p) (fun cs b => hsel i oi cs b hi) (fun cs b => hsel j oj cs b m) hQ hy q
    have l : ∀ k ok, ops[k]? = some ok → k ≠ i → (listed.setIfInBounds j true).getD k true = false →
     (∀ e ∈ ok.after, Region.binds md e = true → e.on ≠ i) → oi.apart ops ok = true := fun k ok hk ab aa ac => by
     refine g k ok hk ab ?_ ac;by_cases y : j = k
     · subst y; exact n
     · rw [getD_set_ne true y] at aa; exact aa
    refine wpOp_mono (fun a' w' h3 => ⟨fun _ => h3.2.1 z, ih (listed.setIfInBounds j true) a' w' l (ready_mono t (Ne.symm d)) h3.1 (h3.2.1 z) ?_⟩) h2;rw [NR _ _ d];exact h3.2.2
theorem Qv {rs : List Nat} {fuel : Nat} {listed : Array Bool} {a : Act} {w : World} (hr : Region.ready md ops listed = rs) (hne : rs ≠ [])
 (h : ∀ i ∈ rs, wpOp P ops Q i (fun a' w' => (i ≠ last → S w') ∧ XE P md ops Q S last fuel (listed.setIfInBounds i true) a' w') a w) : XE P md ops Q S last (fuel + 1) listed a w :=
 ⟨fun h0 => absurd (hr ▸ h0) hne, hr ▸ h⟩
theorem JU {listed : Array Bool} {a : Act} {w : World} (hr : Region.ready md ops listed = []) (h : Q .normal a w) : ∀ fuel, XE P md ops Q S last fuel listed a w
 | 0 => ⟨hr, h⟩
 | _ + 1 => ⟨fun _ => h, by rw [hr]; simp⟩
end
def AeE (md : Region.Mode) (ops : Array Oper) (last i : Nat) : Bool := match ops[last]? with | some o => o.after.any (fun e => Region.binds md e && e.on == i) && (i != last) | none => false
theorem Zf {P : Program} {md : Region.Mode} {l : List Oper} {Q : Exit → Act → World → Prop} {S : World → Prop} {last i : Nat} {oi : Oper} {rest : List Oper} {v : Value} {fuel : Nat} {listed : Array Bool} {a : Act} {w : World} (ho : l.drop i = oi :: rest)
 (hs : Region.noSelect l.toArray = true) (hf : Region.free md l.toArray listed i = true) (hr : (Region.ready md l.toArray listed).contains i = true) (hd : AeE md l.toArray last i = true)
 (hQ : ∀ c a w, Q (.panic c) (a.put oi.dst v) w → Q (.panic c) a w) (hy : YieldsC P l.toArray S oi v a) (hS : S w)
 (h : XE P md l.toArray Q S last fuel (listed.setIfInBounds i true) (a.put oi.dst v) w) : XE P md l.toArray Q S last (fuel + 1) listed a w := by
 have d : i ≠ last := fun e => by
  subst e;unfold AeE at hd;split at hd
  · simp at hd
  · cases hd
 refine Acl (VJ ho) (Region.noSelect_spec hs) d (fun o g => ?_) hQ fuel listed a w (Region.free_spec (VJ ho) hf) (by simpa using hr) hy hS h;unfold AeE at hd;rw [g] at hd;simp only [Nc] at hd;obtain ⟨n, j, b⟩ := Array.any_eq_true.1 hd.1;simp only [Nc, beq_iff_eq] at b;exact ⟨_, Array.getElem_mem j, b.1, b.2⟩
theorem JP {P : Program} {last id : Nat} {Q : Exit → Act → World → Prop} {a : Act} {w : World} {l : List Oper} {S : World → Prop} (hm : P.follows .mixedOrders = true) (h : XE P .any l.toArray Q S last l.toArray.size (Array.replicate l.toArray.size false) a w.drew) : (Code.region id l.toArray true).wp P Q a w :=
 wp_region_any hm (Aas _ _ _ _ h)
end Go.Proofs.YtkoikjnlpifbjaaGreat
namespace Go.Proofs.YtkoikjnlpifbjaaGreat
open Go.RowKit Go.Deep
attribute [local go_sem] Oper.semAt_some
theorem MtOk.kx {X : Nat → Prop} {W W' : World} {x : MtV} (h : MtOk W x) (k : KpX X W W') (s : Qj x.m.d.path ≠ [] → ∀ ad, x.A = some ad → ¬ X ad.block) : MtOk W' x := ⟨k.rd h.rd s, h.len, h.nil, h.dig⟩
end Go.Proofs.YtkoikjnlpifbjaaGreat
namespace Go.Proofs.YtkoikjnlpifbjaaGreat
open Go.RowKit Go.Deep
attribute [local go_sem] Oper.semAt_some
theorem KR (w : World) : (zeroValue 38).run Tryz.prog w = .ok (.agg #[.int .i64 0, .slice none 0 0, .slice none 0 0, .slice none 0 0, .int .i64 0, .slice none 0 0, .int .i64 0, .int .i64 0, .int .i64 0]) w := by kernel_rfl
end Go.Proofs.YtkoikjnlpifbjaaGreat
namespace Go.Proofs.YtkoikjnlpifbjaaGreat
open Go.RowKit Go.Deep
def cp0 : CpV := ⟨⟨0, none, 0, [], none, 0, []⟩, none, 0, [], 0, none, 0, [], ⟨0, 0, 0⟩⟩
structure Cd where
 params : Int
 V : List Int
 body : List Nd
 tests : List (List Int)
 fuel : Int
 muts : List Mt
 sc : Sc
def CpV.data (c : CpV) : Cd := ⟨c.p.params, c.p.V, c.p.body, c.testsL, c.fuel, c.muts, c.sc⟩
theorem U3 {p q : PgV} (h1 : p.params = q.params) (h2 : p.V = q.V) (h3 : p.body = q.body) {t : Tr} (h : Good p t) : Good q t :=
 ⟨h3 ▸ h.hat, h3 ▸ h.size, by rw [← h1, ← h2]; exact h.vars, h.tag, h2 ▸ h.kind⟩
theorem Aa4 {p q : PgV} (h1 : p.params = q.params) (h2 : p.V = q.V) (h3 : p.body = q.body) {t : Tr} (h : Fine p t) : Fine q t :=
 ⟨U3 h1 h2 h3 h.good, h3 ▸ h.len, h3 ▸ h.ar, h.dep⟩
theorem AcL {p q : PgV} (h1 : p.params = q.params) (h2 : p.V = q.V) (h3 : p.body = q.body) : QI p = QI q := by
 have e : (∃ t, Good p t) ↔ (∃ t, Good q t) := ⟨fun ⟨t, h⟩ => ⟨t, U3 h1 h2 h3 h⟩, fun ⟨t, h⟩ => ⟨t, U3 h1.symm h2.symm h3.symm h⟩⟩;unfold QI;rw [h1, h2, h3];by_cases b : ∃ t, Good q t
 · rw [if_pos b, if_pos (e.2 b)]
 · rw [if_neg b, if_neg (fun h => b (e.1 h))]
theorem AhE {p q : PgV} (h1 : p.params = q.params) (h2 : p.V = q.V) (h3 : p.body = q.body) (d : Dl) : inP p d = inP q d := by
 unfold inP;exact decide_eq_decide.2 ⟨fun ⟨t, h, h'⟩ => ⟨t, Aa4 h1 h2 h3 h, h3 ▸ h'⟩, fun ⟨t, h, h'⟩ => ⟨t, Aa4 h1.symm h2.symm h3.symm h, h3.symm ▸ h'⟩⟩
theorem AjQ {a b : Sc} : scB a b = true ↔ a = b := by
 cases a; cases b;simp [scB]
structure OkC (c : CpV) : Prop where
 prog : QI c.p = 0
 suite : ZR c.p.params c.testsL c.fuel = 0
 len : c.muts.length ≤ 2000
 rise : KL c.muts
 inp : ∀ m ∈ c.muts, inP c.p m.d = true
 odd : ∀ m ∈ c.muts, AaC c.testsL.length m = false
 sc : c.sc = Qx c.muts
theorem AfL : ∀ {l : List Int}, orL l = 0 ↔ ∀ x ∈ l, x = 0
 | [] => by simp [orL]
 | x :: l => by
  rw [orL]
  by_cases h : x = 0
  · rw [if_pos h, AfL]; simp [h]
  · rw [if_neg h]; simp [h]
theorem JT {b : Bool} {n : Int} (h : n ≠ 0) : QP b n = 0 ↔ b = true := by cases b <;> simp [QP, h]
theorem okC {c : CpV} : K6 c = 0 ↔ OkC c := by
 unfold K6;rw [AfL];simp only [L2, L9, or_false, forall_eq_or_imp, forall_eq];rw [JT (by decide), JT (by decide), JT (by decide), JT (by decide), JT (by decide), JT (by decide)];rw [riseB_iff, AjQ];have e : c.muts.length = c.mts.length := by unfold CpV.muts; rw [Lz]
 have g : c.testsL.length = c.tests.length := by unfold CpV.testsL; rw [Lz]
 constructor
 · rintro ⟨i, j, k, l, n, o, p⟩;refine ⟨by simpa using i, j, by rw [e]; have := of_decide_eq_true k; omega, l, fun m d => ?_, fun m d => ?_, p⟩
   · obtain ⟨x, b, rfl⟩ := LR.1 d;have := n;simp only [Bool.not_eq_true', N8] at this;simpa using this x b
   · obtain ⟨x, b, rfl⟩ := LR.1 d;have := o;simp only [Bool.not_eq_true', N8] at this;rw [g];simpa using this x b
 · intro h;refine ⟨by simp [h.prog], h.suite, by have := h.len; rw [e] at this; exact decide_eq_true (by omega), h.rise, ?_, ?_, h.sc⟩
   · simp only [Bool.not_eq_true', N8];intro x b;simp [h.inp x.m (LY b)]
   · simp only [Bool.not_eq_true', N8];intro x b;have := h.odd x.m (LY b);rw [g] at this;simp [this]
theorem data_iff {a b : CpV} : a.data = b.data ↔ (a.p.params = b.p.params ∧ a.p.V = b.p.V ∧ a.p.body = b.p.body) ∧ a.testsL = b.testsL ∧ a.fuel = b.fuel ∧ a.muts = b.muts ∧ a.sc = b.sc := by
 unfold CpV.data;simp only [Cd.mk.injEq];constructor
 · rintro ⟨c, d, e, g, h, i, j⟩; exact ⟨⟨c, d, e⟩, g, h, i, j⟩
 · rintro ⟨⟨c, d, e⟩, g, h, i, j⟩; exact ⟨c, d, e, g, h, i, j⟩
theorem OkC.same {a b : CpV} (h : OkC a) (e : a.data = b.data) : OkC b := by
 obtain ⟨⟨g, j, k⟩, l, n, c, o⟩ := data_iff.1 e;exact ⟨(AcL g j k) ▸ h.prog, by rw [← g, ← l, ← n]; exact h.suite, c ▸ h.len, c ▸ h.rise, fun m i => (AhE g j k m.d) ▸ h.inp m (c ▸ i), fun m i => by rw [← l]; exact h.odd m (c ▸ i), by rw [← c, ← o]; exact h.sc⟩
theorem Ajg : (Tryz.prog.info? 54).map (fun i => (i.zero, i.size, i.bytes)) = some (some (.agg #[.slice none 0 0, .int .i64 0, .int .i64 0, .int .i64 0, .int .i64 0, .int .i64 0, .int .i64 0, .string ByteArray.empty]), 8, 88) := by kernel_rfl
theorem Vr (a b : List MtV) : J9 (a ++ b) = J9 a ++ J9 b := by simp [J9]
theorem Adv : ∀ l : List MtV, (J9 l).length = l.length * 8
 | [] => rfl
 | x :: l => by
  have := Adv l
  have h : J9 (x :: l) = x.cells ++ J9 l := rfl
  rw [h, Lf, this]; simp [MtV.cells]; omega
theorem AhR (l : List MtV) : ∀ u ∈ J9 l, u.oneCell' = true := fun u hu => by
 obtain ⟨x, _, b⟩ := NO.1 hu;have := AeQ x;rw [Array.all_eq_true'] at this;exact this u (by simpa using b)
theorem AaK {W : World} {B n m cap : Nat} {v : Value} {xs : List Value} {A : Option Addr} (hown : W.ownsRow B 54 8 v n xs) (hB : B ≤ W.heap.size) (l : List MtV) (hr : Rd W A (J9 l)) (hm : m = l.length) (hA : A = none → m = 0) (hb : n + m ≤ 1000000) :
 ∃ v' W', (Builtin.append_ #[34, 34] 34 #[v, .slice A m cap]).run Tryz.prog W = .ok v' W' ∧ W'.ownsRow B 54 8 v' (n + m) (xs ++ J9 l) ∧ W.grownBy W' v.ownBlock ∧ (v'.ownBlock = v.ownBlock ∨ v'.ownBlock = some W.heap.size) :=
 Zp 34 54 _ 8 88 Tryz.underlying34 Ajg rfl (by decide) (by decide) hown hB hr (by rw [Adv, hm]) (AhR l) hA hb
def MtT (W : World) (x : MtV) : Prop := MtOk W x ∧ IntB W x.A
theorem MtT.same {A B : World} {x : MtV} (h : MtT A x) (hb : ∀ (a : Addr) (cs : Array Value), x.A = some a → Row A a.block 3 cs → Row B a.block 3 cs) : MtT B x :=
 ⟨⟨fun j u hj => by
  obtain ⟨a, e, hc⟩ := h.1.rd j u hj
  obtain ⟨cs, hr⟩ := h.2 a e
  exact ⟨a, e, (World.cell?_of_block (by rw [JI]; exact (hb a cs e hr).trans (Eq.symm hr))).trans hc⟩, h.1.len, h.1.nil, h.1.dig⟩, fun a e => by
  obtain ⟨cs, hr⟩ := h.2 a e
  exact ⟨cs, hb a cs e hr⟩⟩
theorem MtT.go {A B : World} {x : MtV} (h : MtT A x) (b : Below A.heap.size A B) : MtT B x := h.same fun _ _ _ hr => hr.below b hr.lt
theorem MtT.abide {W W' : World} {x : MtV} {row : Option Nat} {q : Nat → Prop} (h : MtT W x) (hg : W.grownBy W' row) (hr : ∀ r, row = some r → False ∨ (q r ∧ ∃ o : Obj, W.heap[r]? = some o ∧ o.isCells = false)) : MtT W' x := h.same fun _ _ _ k => k.abide hg hr
theorem MtT.own {W W' : World} {x : MtV} {lim n : Nat} {v : Value} {xs : List Value} (h : MtT W x) (hown : W.ownsRow lim 54 8 v n xs) (hg : W.grownBy W' v.ownBlock) : MtT W' x := h.same fun _ _ _ k => k.grown hg (QD hown k (by decide))
theorem MtT.only {W W' : World} {x : MtV} {g : Nat} {t : TypeId} {cs : Array Value} (h : MtT W x) (hr : Row W g t cs) (ht : t ≠ 3) (o : Only g W W') : MtT W' x := h.same fun a cs' _ k => k.only o (fun e => by
 have h1 : W.heap[g]? = some (.cells cs' 3 (0, 0)) := by rw [← e]; exact k
 rw [show W.heap[g]? = some (.cells cs t (0, 0)) from hr] at h1
 injection h1 with h1; injection h1 with _ h1; exact ht h1)
theorem Ac4 : (Tryz.prog.info? 54).map (fun i => (i.zero, i.size)) = some (some (.agg #[.slice none 0 0, .int .i64 0, .int .i64 0, .int .i64 0, .int .i64 0, .int .i64 0, .int .i64 0, .string ByteArray.empty]), 8) := by kernel_rfl
attribute [local go_sem] Oper.semAt_some
theorem Y0 {w w' : World} (h : w.grownBy w' none) : Below w.heap.size w w' := ⟨h.os, h.tape, h.output, h.size, fun k hk => h.block k hk (by simp)⟩
def RowB (W : World) (t : TypeId) (A : Option Addr) : Prop := ∀ ad, A = some ad → ∃ cs : Array Value, Row W ad.block t cs
theorem RowB.go {W W' : World} {t : TypeId} {A : Option Addr} (h : RowB W t A) (b : Below W.heap.size W W') : RowB W' t A := fun ad e => by
 obtain ⟨d, c⟩ := h ad e;exact ⟨d, c.below b c.lt⟩
theorem RowB.only {W W' : World} {t t' : TypeId} {A : Option Addr} {g : Nat} {cs' : Array Value} (h : RowB W t A) (o : Only g W W') (hg : Row W g t' cs') (ne : t ≠ t') : RowB W' t A := fun ad e => by
 obtain ⟨c, d⟩ := h ad e;refine ⟨c, d.only o fun i => ne ?_⟩;have b : W.heap[g]? = some (.cells c t (0, 0)) := by rw [← i]; exact d
 rw [show W.heap[g]? = some (.cells cs' t' (0, 0)) from hg] at b;injection b with b; injection b with _ b; exact b.symm
theorem RowB.kp {W W' : World} {t : TypeId} {A : Option Addr} {X : Nat → Prop} (h : RowB W t A) (k : KpX X W W') (hx : ∀ i cs, Row W i t cs → ¬ X i) : RowB W' t A := fun ad e => by
 obtain ⟨cs, b⟩ := h ad e;exact ⟨cs, k.row b (hx _ _ b)⟩
theorem Xa {w : World} {base size n m c : Nat} {e : TypeId} {A : Option Addr} {xs : List Value} (h : w.ownsRow base e size (.slice A m c) n xs) : RowB w e A := fun ad ha => by
 rcases h.2 with ⟨d, _⟩ | ⟨g, c, b, d, j, i, _⟩
 · injection d with e3; rw [ha] at e3; cases e3
 · injection d with e3; rw [ha] at e3; injection e3 with e3; rw [e3]; exact ⟨b, i⟩
structure CpT (W : World) (c : CpV) : Prop where
 va : RowB W 3 c.p.va
 ba : RowB W 65 c.p.ba
 tA : RowB W 22 c.tA
 ts : ∀ x ∈ c.tests, RowB W 3 x.addr
 mA : RowB W 54 c.mA
 ms : ∀ x ∈ c.mts, RowB W 3 x.A
theorem CpT.zero (W : World) : CpT W cp0 := ⟨fun ad e => (by cases e), fun ad e => (by cases e), fun ad e => (by cases e), fun x hx => (by simp [cp0] at hx), fun ad e => (by cases e), fun x hx => (by simp [cp0] at hx)⟩
theorem PgV.ok.only {p : PgV} {W W' : World} {g : Nat} (h : p.ok W) (o : Only g W W') (h1 : ∀ a, p.va = some a → a.block ≠ g) (h2 : ∀ a, p.ba = some a → a.block ≠ g) : p.ok W' :=
 ⟨h.par, h.vlen, h.vmax, h.vnil, h.vrd.only o (fun _ a e => h1 a e), h.vin, h.blen, h.bmax, h.bnil, h.brd.only o (fun _ a e => h2 a e), h.bin⟩
theorem RowB.ne {W : World} {t : TypeId} {A : Option Addr} {g : Nat} {cs' : Array Value} (h : RowB W t A) (hg : Row W g 38 cs') (ne : t ≠ 38) : ∀ ad, A = some ad → ad.block ≠ g := fun ad e e2 => by
 obtain ⟨c, d⟩ := h ad e;have b : W.heap[g]? = some (.cells c t (0, 0)) := by rw [← e2]; exact d
 rw [show W.heap[g]? = some (.cells cs' 38 (0, 0)) from hg] at b;injection b with b; injection b with _ b; exact ne b.symm
theorem CpOk.onlyT {W W' : World} {c : CpV} {g : Nat} {cs : Array Value} (h : CpOk W c) (t : CpT W c) (o : Only g W W') (hg : Row W g 38 cs) : CpOk W' c :=
 ⟨h.pok.only o (t.va.ne hg (by decide)) (t.ba.ne hg (by decide)), h.bl, h.vl, h.trd.only o (fun _ => t.tA.ne hg (by decide)), fun x hx => ⟨(h.tok x hx).len, (h.tok x hx).cap, (h.tok x hx).nil, (h.tok x hx).reads.only o (fun _ => (t.ts x hx).ne hg (by decide)), (h.tok x hx).all⟩, h.tlen, h.tl, h.tnil, h.mrd.only o (fun _ => t.mA.ne hg (by decide)), fun x hx => ⟨(h.mok x hx).rd.only o (fun _ => (t.ms x hx).ne hg (by decide)), (h.mok x hx).len, (h.mok x hx).nil, (h.mok x hx).dig⟩, h.mlen, h.mnil⟩
theorem VY (W : World) (A : Option Addr) (cap : Nat) (l : List Int) (hr : Rd W A (Qj l)) (hn : A = none → l = []) (hl : l.length ≤ 100000) : ∃ A' c' W', (Builtin.append_ #[22, 22] 22 #[.slice none 0 0, .slice A l.length cap]).run Tryz.prog W = .ok (.slice A' l.length c') W' ∧ Below W.heap.size W W' ∧ Rd W' A' (Qj l) ∧ l.length ≤ c' ∧ c' ≤ maxLen ∧ (A' = none → c' = 0) ∧ (∀ ad, A' = some ad → W.heap.size ≤ ad.block) ∧ RowB W' 3 A' := by
 obtain ⟨o, n, c, b, d, -⟩ := Zp (P := Tryz.prog) 22 3 (.int .i64 0) 1 8 Tryz.underlying22 Jk rfl (by decide) (by decide) (World.ownsRow_nil W W.heap.size 3 1) (Nat.le_refl _) hr (m := l.length) (cap := cap) (by rw [Ju, Nat.mul_one]) (Jl l) (fun e => by rw [hn e]; rfl) (by omega);rw [LN, Lp] at b;obtain ⟨A', c', rfl, g, h, i, j, k⟩ := YR b;exact ⟨A', c', n, c, Y0 d, g, h, i, j, k, Xa b⟩
theorem AiR (W : World) (A : Option Addr) (cap : Nat) (l : List Nd) (hr : Rd W A (l.flatMap Nd.cells)) (hn : A = none → l = []) (hl : l.length ≤ 100000) : ∃ A' c' W', (Builtin.append_ #[23, 23] 23 #[.slice none 0 0, .slice A l.length cap]).run Tryz.prog W = .ok (.slice A' l.length c') W' ∧ Below W.heap.size W W' ∧ Rd W' A' (l.flatMap Nd.cells) ∧ l.length ≤ c' ∧ c' ≤ maxLen ∧ (A' = none → c' = 0) ∧ (∀ ad, A' = some ad → W.heap.size ≤ ad.block) ∧ RowB W' 65 A' := by
 have c : (l.flatMap Nd.cells).length = l.length * 2 := by
  clear hr hn hl
  induction l with
  | nil => rfl
  | cons x l ih => rw [LI, Lf, ih, Le]; show 2 + _ = _; omega
 obtain ⟨s, q, d, b, g, -⟩ := Zp (P := Tryz.prog) 23 65 (.agg #[.int .i64 0, .int .i64 0]) 2 16 Tryz.underlying23 VL rfl (by decide) (by decide) (World.ownsRow_nil W W.heap.size 65 2) (Nat.le_refl _) hr (m := l.length) (cap := cap) c (fun u p => by
  obtain ⟨x, -, h⟩ := NO.1 p
  simp only [Nd.cells, L2, L9, or_false] at h
  rcases h with rfl | rfl <;> rfl) (fun e => by rw [hn e]; rfl) (by omega)
 rw [LN, Lp] at b;obtain ⟨A', c', rfl, i, j, k, n, o⟩ := YR b;exact ⟨A', c', q, d, Y0 g, i, j, k, n, o, Xa b⟩
theorem Ac7 : (Tryz.prog.info? 22).map (fun i => (i.zero, i.size)) = some (some (.slice none 0 0), 1) := by kernel_rfl
theorem PgV.ok.kp {p : PgV} {W W' : World} {X : Nat → Prop} (h : p.ok W) (k : KpX X W W') (h1 : Qj p.V ≠ [] → ∀ a, p.va = some a → ¬ X a.block) (h2 : p.body.flatMap Nd.cells ≠ [] → ∀ a, p.ba = some a → ¬ X a.block) : p.ok W' :=
 ⟨h.par, h.vlen, h.vmax, h.vnil, k.rd h.vrd h1, h.vin, h.blen, h.bmax, h.bnil, k.rd h.brd h2, h.bin⟩
end Go.Proofs.YtkoikjnlpifbjaaGreat
namespace Go.Proofs.YtkoikjnlpifbjaaGreat
open Go.RowKit Go.Deep
theorem AgC (A B : Option Addr) (c d : Nat) (l : List Nd) (π : List Int) (w : World) (hr : Rd w A (l.flatMap Nd.cells)) (hl : l.length ≤ 1000) (hp : Rd w B (Qj π)) (hlp : π.length ≤ 1000000) :
 Calls Tryz.prog 94 #[.slice A l.length c, .slice B π.length d] w fun e w' => e = .returned (.int .i64 (K7 l π)) ∧ Below w.heap.size w w' := by
 obtain ⟨S, m⟩ : ∃ S, S = (fun W => Rd W A (l.flatMap Nd.cells) ∧ Rd W B (Qj π) ∧ Below w.heap.size w W) := ⟨_, rfl⟩;have z : St S := by rw [m]; infer_instance
 have T0 : Hid (∀ W, S W → Rd W A (l.flatMap Nd.cells)) := by show ∀ W, _; rw [m]; exact fun W h => h.1
 have T1 : Hid (∀ W, S W → Rd W B (Qj π)) := by show ∀ W, _; rw [m]; exact fun W h => h.2.1
 have T2 : Hid (∀ W, S W → Below w.heap.size w W) := by show ∀ W, _; rw [m]; exact fun W h => h.2.2
 have g : S w := by rw [m]; exact ⟨hr, hp, Below.refl _ _⟩
 have He := Lv (JV A c l (0 : Int) w hr hl);have Hl := Lv hl;have ak : (l.length : Int) ≤ 1000 := by omega
 have al : (π.length : Int) ≤ 1000000 := by omega
 clear m hr hp hl hlp;go_enter Tryz.func94, Tryz.ntmps94
 go_wp2_with fail
 go_step3
 go_wp2_with fail
 refine He.out.mono ?_;rintro e w1 ⟨rfl, b1⟩;replace g := z.go g b1;clear He b1;by_cases o : endZ l 0 = (l.length : Int);rotate_left
 · have af : (endZ l 0 != (l.length : Int)) = true := by simpa using o
   have u : K7 l π = -1 := if_neg o;have q := Lv u.symm;clear o u;go_wp2_with fail
   try rw [Exit.noGoto_ret]
   go_ret
   exact ⟨Zo q.out, T2.out _ g⟩
 have af : (endZ l 0 != (l.length : Int)) = false := by simpa using o
 have u : K7 l π = XW l 0 π := if_pos o;have q := Lv u;clear o u;go_wp2_with fail
 go_step3
 go_wp2_with fail
 go_loopw [5, 16] (fun ac i wr => ∃ (a : Int) (k : Nat), ac = .int .i64 a ∧ i = .int .i64 (k : Int) ∧ k ≤ π.length ∧ Hid (K7 l π = XW l a (π.drop k)) ∧ S wr) (fun _ i _ => π.length - (intOf i).toNat)
 case atStart => exact ⟨0, 0, rfl, by simp, Nat.zero_le _, q.out, g⟩
 case round =>
  clear g q;obtain ⟨a, k, rfl, rfl, ai, s, g⟩ := hrel;by_cases x : k < π.length;rotate_left
  · have ag : ¬ ((k : Int) < (π.length : Int)) := by omega
    obtain rfl : k = π.length := by omega
    have q : Hid (K7 l π = a) := by have := s.out; rw [List.drop_length] at this; exact this
    clear x s;go_wp2_with fail
    try rw [Exit.noGoto_ret]
    go_ret
    exact ⟨Zo q.out.symm, T2.out _ g⟩
  obtain ⟨i, hi⟩ : ∃ i, π[k]? = some i := ⟨_, La (by omega)⟩;obtain ⟨bd, ad, c0⟩ := ZP (T1.out _ g) hi;subst ad;have aj : (k : Int) < (π.length : Int) := by omega
  have Hi := Lv hi;have p := Lv (Uv A c l a wr (T0.out _ g) Hl.out);clear hi x;go_wp2_with fail
  refine p.out.mono ?_;rintro e w2 ⟨v, rfl, t, b2⟩;obtain ⟨C, cc, rfl, y, -, -, -⟩ := X9 t;replace g := z.go g b2;have aa := Lv y;clear p b2 t y c0;obtain ⟨n, hn⟩ : ∃ n, n = (kidsZ l a).length := ⟨_, rfl⟩;have Hn := Lv hn;rw [← hn];clear hn;by_cases h0 : i < 0
  · have q : Hid (K7 l π = -1) := by rw [Hid, s.out]; exact Abw Hi.out (Or.inl h0)
    clear s;go_wp2_with fail
    try rw [Exit.noGoto_ret]
    go_ret
    exact ⟨Zo q.out.symm, T2.out _ g⟩
  by_cases h1 : (n : Int) ≤ i
  · have q : Hid (K7 l π = -1) := by rw [Hid, s.out]; exact Abw Hi.out (Or.inr (by rw [← Hn.out]; exact h1))
    clear s;go_wp2_with fail
    try rw [Exit.noGoto_ret]
    go_ret
    exact ⟨Zo q.out.symm, T2.out _ g⟩
  obtain ⟨j, rfl⟩ : ∃ j : Nat, i = (j : Int) := ⟨i.toNat, by omega⟩;obtain ⟨b, hb⟩ : ∃ b, (kidsZ l a)[j]? = some b := ⟨_, La (by have := Hn.out; omega)⟩;obtain ⟨cd, ae, c2⟩ := ZP aa.out hb;subst ae;have ab : Hid (K7 l π = XW l b (π.drop (k + 1))) := by rw [Hid, s.out]; exact AiA Hi.out hb
  have ah : (j : Int) < (n : Int) := by omega
  clear s hb;go_wp2_with fail
  refine ⟨⟨b, k + 1, rfl, by simp, by omega, ab, g⟩, ?_⟩;simp only [intOf]; omega
def ZH (p : PgV) (q n : Int) : Array Value := #[.int .i64 p.params, .slice p.va p.V.length p.vcap, .slice p.ba p.body.length p.bcap, .int .i64 q, .int .i64 n]
theorem Aec {w : World} : (zeroValue 65).run Tryz.prog w = .ok (.agg #[.int .i64 0, .int .i64 0]) w := by kernel_rfl
theorem KT (p : PgV) (q : Nat) (n : Int) (x : Nd) (w : World) (hx : p.body[q]? = some x) (hok : p.ok w) :
 Calls Tryz.prog 128 #[.agg (ZH p q n)] w fun e w' => e = .returned (.agg #[.int .i64 x.tag, .int .i64 x.n]) ∧ Below w.heap.size w w' := by
 obtain ⟨pa, va, vc, V, ba, bc, body⟩ := p;obtain ⟨d, c, o⟩ := JW hok.brd hx;have c : ba = some d := c;subst c;have hx : body[q]? = some x := hx;have hq := (Ld.1 hx).1;have ab : (q : Int) < (body.length : Int) := by omega
 have z : Hid (∀ W, Below w.heap.size w W → ∀ j u, x.cells[j]? = some u → W.cell? ((d.add (q * 2)).add j) = some u) := fun W b => by
  obtain ⟨aa, e, o⟩ := JW (hok.go b).brd hx;injection e with e;subst e;exact o
 clear o hx hok hq;go_enter Tryz.func128, Tryz.ntmps128
 go_wp2_with (refine Qm _ _ rfl ?_)
 refine Stop.to ?_;refine Qe rfl 148 _ rfl (ZH ⟨pa, va, vc, V, some d, bc, body⟩ q n) rfl ?_;intro G Gw y k t;go_wp2_with (first | fail | (refine QE _ rfl ?_))
 refine Stop.to ?_;refine Qi rfl 65 rfl _ _ Aec rfl ?_;intro J Jw g Jr m;have s := k.below m (Lg k.lt g);have h := (Below.refl w.heap.size w).trans (t.mono y);have b2 := h.trans ((m.mono g).mono h.size);have hJ : w.heap.size ≤ J := Li h.size g;have c2 := s.cellv (i := 2) (v := .slice (some d) body.length bc) rfl;have c3 := s.cellv (i := 3) (v := .int .i64 q) rfl;have l := Lv (z.out _ b2);clear k t m h y g s z;go_wp2_with (first | (refine QF rfl 65 _ rfl (d.add (q * 2)) rfl x.cells _ l.out Tryz.underlying65 rfl (by kernel_rfl) ?_) | (refine Qp 65 _ _ rfl ?_))
 refine Stop.to ?_;refine Qk rfl 65 _ _ rfl J #[.int .i64 x.tag, .int .i64 x.n] rfl rfl 65 _ Jr (by kernel_rfl) rfl (by simp [Value.oneCell']) ?_;intro W9 r9 o9;go_wp2_with fail
 refine bodyPost_ret (results_cell_row Tryz.results128 _ _ J 65 _ (0, 0) _ rfl r9 Tryz.underlying65 rfl (by kernel_rfl)) rfl ?_;exact ⟨rfl, b2.trans (o9.below hJ)⟩
theorem YN (a b : Int) (w : World) : (Instr.field 65 (.agg #[.int .i64 a, .int .i64 b]) 0).run Tryz.prog w = .ok (.int .i64 a) w := by kernel_rfl
theorem Aa3 (a b : Int) (w : World) : (Instr.field 65 (.agg #[.int .i64 a, .int .i64 b]) 1).run Tryz.prog w = .ok (.int .i64 b) w := by kernel_rfl
theorem Af4 (p : PgV) (q : Nat) (n lo hi : Int) (x : Nd) (w : World) (hx : p.body[q]? = some x) (hok : p.ok w) (h1 : lo ≤ x.tag) (h2 : x.tag ≤ hi) (h3 : lo ≤ n) (h4 : n ≤ hi) :
 Calls Tryz.prog 162 #[.agg (ZH p q n), .int .i64 lo, .int .i64 hi] w fun e w' => e = .returned (.bool true) ∧ Below w.heap.size w w' := by
 have m : Hid (∀ W, Below w.heap.size w W → Calls Tryz.prog 128 #[.agg (ZH p q n)] W fun e w' => e = .returned (.agg #[.int .i64 x.tag, .int .i64 x.n]) ∧ Below W.heap.size W w') := fun W b => KT p q n x W hx (hok.go b);clear hx hok;have u := YN x.tag x.n;go_enter Tryz.func162, Tryz.ntmps162
 go_wp2_with (refine Qm _ _ rfl ?_)
 refine Stop.to ?_;refine Qe rfl 148 _ rfl (ZH p q n) rfl ?_;intro G s k d j;have g := (Below.refl w.heap.size w).trans (j.mono k);have l := Lv (m.out _ g);clear j k m;go_wp2_with (refine wpList_load_row rfl 148 _ rfl G rfl 148 (ZH p q n) (0, 0) _ d Tryz.underlying148 rfl (by kernel_rfl) ?_)
 refine l.out.mono ?_;rintro e y ⟨rfl, h⟩;have c := d.below h d.lt;have o := g.trans (h.mono g.size);have t := c.cellv (i := 4) (v := .int .i64 n) rfl;clear d c g h l;go_wp2_with fail
 go_ret
 exact ⟨rfl, o⟩
theorem Akk (W : World) : (Instr.buildSlice 23 0 #[]).run Tryz.prog W = .ok (.slice (some ⟨W.heap.size, 0, none⟩) 0 0) (W.alloc (.cells #[] 65)) := by kernel_rfl
theorem Eh (A : Option Addr) (cap : Nat) (l : List Nd) (w : World) (hr : Rd w A (l.flatMap Nd.cells)) (hnil : A = none → l = []) (hl : l.length ≤ 100000) :
 Calls Tryz.prog 132 #[.slice A l.length cap] w fun e w' => NdsR l w w' e := by
 rcases A with _ | o
 · have q := hnil rfl;subst q;have j := fun W : World => Lib.run_eql_slice_nil (P := Tryz.prog) W 23 65 none 0 cap 0 0 Tryz.underlying23
   simp only [Option.isNone_none] at j;rw [show ([] : List Nd).length = 0 from rfl];go_enter Tryz.func132, Tryz.ntmps132
   go_wp2_with fail
   go_ret
   exact ⟨_, rfl, World.ownsRow_nil _ _ _ _, Below.refl _ _⟩
 · have n := Lv hr;have k := Lv hl;clear hr hl hnil;have j := fun W : World => Lib.run_eql_slice_nil (P := Tryz.prog) W 23 65 (some o) l.length cap 0 0 Tryz.underlying23
   simp only [Option.isNone_some] at j;go_enter Tryz.func132, Tryz.ntmps132
   go_wp2_with (refine ZE _ _ _ rfl ?_)
   refine Stop.to ?_;refine Zc rfl _ (QV [] rfl (Akk w)) ?_;have i := Row.new w 65 #[];have g := (Below.refl w.heap.size w).alloc (Nat.le_refl _) (.cells #[] 65);generalize w.alloc (.cells #[] 65) = w1 at i g ⊢;obtain ⟨u, v, c, b, h, _⟩ := Zp (P := Tryz.prog) 23 65 (.agg #[.int .i64 0, .int .i64 0]) 2 16 Tryz.underlying23 VL rfl (by decide) (by decide) (X8 (B := w.heap.size) (size := 2) (Nat.le_refl _) i) g.size (n.out.go g) (m := l.length) (cap := cap) (by rw [Z5]) (VO l) (by simp) (by have := k.out; omega);rw [LN, Lp] at b;have p := QK g (X8 (B := w.heap.size) (size := 2) (Nat.le_refl _) i) h g.size (Nat.le_refl _);have d := Lv c;clear c h i;go_wp2_with (refine XK ?_)
   refine Stop.to ?_;refine Zc rfl _ (QA rfl d.out) ?_;obtain ⟨s, t, rfl⟩ := Zj b;go_wp2
   go_ret
   exact ⟨_, rfl, b, p⟩
theorem AcY : ∀ {l : List Nd} {q : Nat} (y : Nd), q < l.length → (l.set q y).flatMap Nd.cells = (l.flatMap Nd.cells).take (q * 2) ++ (y.cells ++ (l.flatMap Nd.cells).drop (q * 2 + 2))
 | [], _, _, h => by simp at h
 | x :: l, 0, y, _ => by simp [Nd.cells]
 | x :: l, q + 1, y, h => by
  have ih := AcY (l := l) (q := q) y (by simpa using h)
  rw [List.set_cons_succ, LI, LI, ih]
  have e : (q + 1) * 2 = 2 + q * 2 := by omega
  have e2 : (q + 1) * 2 + 2 = 2 + (q * 2 + 2) := by omega
  have hx : x.cells.length = 2 := rfl
  have d1 : List.drop (2 + (q * 2 + 2)) (x.cells ++ l.flatMap Nd.cells) = List.drop (q * 2 + 2) (l.flatMap Nd.cells) := by rw [← Nn, List.drop_left' hx]
  have d2 : List.take (2 + q * 2) (x.cells ++ l.flatMap Nd.cells) = x.cells ++ (l.flatMap Nd.cells).take (q * 2) := by rw [List.take_add, N4 hx, List.drop_left' hx]
  rw [e2, d1, e, d2, L4]
theorem Ah6 {W : World} {B n : Nat} {v : Value} {l : List Nd} (h : W.ownsRow B 65 2 v n (l.flatMap Nd.cells)) {q : Nat} (hq : q < n) :
 ∃ g cap cur, v = .slice (some ⟨g, 0, none⟩) n cap ∧ B ≤ g ∧ n ≤ cap ∧ Row W g 65 cur ∧ q * 2 + 2 ≤ cur.size ∧ ∀ (W' : World) (y : Nd), Row W' g 65 (ZQ cur (q * 2) y.cells) → W'.ownsRow B 65 2 v n ((l.set q y).flatMap Nd.cells) := by
 obtain ⟨m, o⟩ := h;have t : l.length = n := by rw [Z5] at m; omega
 rcases o with ⟨_, h0⟩ | ⟨g, cap, cur, i, d, s, e, u, x, z⟩
 · omega
 refine ⟨g, cap, cur, i, d, e, s, by omega, fun W' y w => ⟨by rw [Z5, LS, t], .inr ⟨g, cap, _, i, d, w, e, u, ?_, ?_⟩⟩⟩
 · unfold ZQ;have b : y.cells.length = 2 := rfl;simp only [Lm, Lf, L7, LU, Nf, b];omega
 · have b : y.cells.length = 2 := rfl;have p : cur.toList.length = cap * 2 := by rw [Nf, x]
   have c : (cur.toList.take (q * 2)).length = q * 2 := by rw [L7]; omega
   rw [AcY y (by omega), ← z];unfold ZQ;rw [List.toList_toArray, b];have j : (cur.toList.take (n * 2)).take (q * 2) = cur.toList.take (q * 2) := by rw [NL, NT (by omega)]
   have k : (cur.toList.take (n * 2)).drop (q * 2 + 2) = (cur.toList.drop (q * 2 + 2)).take (n * 2 - (q * 2 + 2)) := by rw [List.drop_take]
   have t1 : (cur.toList.take (q * 2)).take (n * 2) = cur.toList.take (q * 2) := LA (by omega);have t2 : y.cells.take (n * 2 - q * 2) = y.cells := LA (by omega);rw [j, k, L4, List.take_append, c, t1, List.take_append, t2, b, Nat.sub_sub]
theorem AcS (p : PgV) (q : Nat) (n : Int) (y : Nd) (w : World) (hq : q < p.body.length) (hbl : p.body.length ≤ 1000) (hok : p.ok w) :
 Calls Tryz.prog 129 #[.agg (ZH p q n), .agg #[.int .i64 y.tag, .int .i64 y.n]] w fun e w' => NdsR (p.body.set q y) w w' e := by
 have b := Lv hok;have Hq := Lv hq;have u := Lv hbl;have ac : (q : Int) < (p.body.length : Int) := by omega
 clear hok hbl hq;go_enter Tryz.func129, Tryz.ntmps129
 go_wp2_with (refine Qm _ _ rfl ?_)
 refine Stop.to ?_;refine Qe rfl 148 _ rfl (ZH p q n) rfl ?_;intro G Gw Gh t Gb;go_wp2_with (refine Qm _ _ rfl ?_)
 refine Stop.to ?_;refine Qe rfl 65 _ rfl #[.int .i64 y.tag, .int .i64 y.n] rfl ?_;intro J Jw z Jr x;have s := t.below x (Lg t.lt z);have b1 := (Below.refl w.heap.size w).trans (Gb.mono Gh);have k := b1.trans ((x.mono z).mono b1.size);have c2 := s.cellv (i := 2) (v := .slice p.ba p.body.length p.bcap) rfl;have h := Lv (Eh p.ba p.bcap p.body Jw (b.out.go k).brd (fun e => L0 (by have h1 := b.out.blen; have h2 := b.out.bnil e; omega)) (by have := u.out; omega));clear Gb x b1 Gh z t b;go_wp2_with fail
 refine h.out.mono ?_;rintro e w1 ⟨v, rfl, c, o⟩;obtain ⟨g, aa, l, rfl, hb, hc, hr, hs, d⟩ := Ah6 c Hq.out;have m := s.below o s.lt;have ab := Jr.below o Jr.lt;have b4 := k.trans (o.mono k.size);have c3 := m.cellv (i := 3) (v := .int .i64 q) rfl;have j := Lv d;have hg : w.heap.size ≤ g := Li k.size hb;clear h c d s Jr c2 o m hb;go_wp2_with (first | (refine wpList_load_row rfl 65 _ rfl J rfl 65 #[.int .i64 y.tag, .int .i64 y.n] (0, 0) _ ab Tryz.underlying65 rfl (by kernel_rfl) ?_) | (refine Qp 65 _ _ rfl ?_))
 refine Stop.to ?_;refine Qq rfl 65 _ _ rfl g (q * 2) (by first | rfl | simp [Addr.add]) (.agg #[.int .i64 y.tag, .int .i64 y.n]) rfl y.cells rfl 65 l _ hr (by kernel_rfl) (by show q * 2 + 2 ≤ l.size; exact hs) (by simp [Nd.cells, Value.oneCell']) rfl ?_
 intro W9 r9 o9;have HF : Hid (NdsR (p.body.set q y) w W9 (.returned (.slice (some ⟨g, 0, none⟩) p.body.length aa))) := ⟨_, rfl, by rw [LS]; exact QQ (j.out W9 y r9) k.size, b4.trans (o9.below hg)⟩;go_wp2_with fail
 go_ret
 exact HF.out
end Go.Proofs.YtkoikjnlpifbjaaGreat
