/- Lemmas for RunnerTurnsP. -/
import Derived.Test.YtkoikjnlpifbjaaGreatZa1
import Derived.Test.YtkoikjnlpifbjaaGreatZa12
import Derived.Test.YtkoikjnlpifbjaaGreatZa8
import Derived.Test.YtkoikjnlpifbjaaGreatZa2
import Derived.Test.YtkoikjnlpifbjaaGreatZa7
set_option linter.unusedVariables false
set_option linter.unusedSimpArgs false
set_option maxRecDepth 100000
set_option maxHeartbeats 16000000
namespace Go.Proofs.YtkoikjnlpifbjaaGreat
open Go.RowKit Go.Deep
theorem AaB {α : Type} {c : α → List Value} {sz : Nat} (hsz : ∀ x, (c x).length = sz) (h0 : 0 < sz) {W : World} {A : Option Addr} {l : List α} (hr : Rd W A (l.flatMap c)) {k : Nat} {x : α} (hx : l[k]? = some x) :
 ∃ ad, A = some ad ∧ ∀ j u, (c x)[j]? = some u → W.cell? ((ad.add (k * sz)).add j) = some u := by
 have d : ∀ (l : List α) (k : Nat) (x : α), l[k]? = some x → ∀ j u, (c x)[j]? = some u → (l.flatMap c)[k * sz + j]? = some u := by
  intro l
  induction l with
  | nil => intro k x h; simp at h
  | cons y l ih =>
   intro k x h j u b;rw [LA]
   match k, h with
   | 0, h =>
    simp at h; subst h;rw [Nat.zero_mul, LF, L1 (Lb.1 b).1]; exact b
   | k + 1, h =>
    rw [LZ] at h;rw [Lw (by rw [hsz, Nat.add_mul]; omega), hsz, show (k + 1) * sz + j - sz = k * sz + j by rw [Nat.add_mul]; omega];exact ih k x h j u b
 exact hr.part (k * sz) (c x) (d l k x hx) (fun e => by have := hsz x; rw [e] at this; simp at this; omega)
theorem Aje {x y : Nd} (h1 : x.tag = y.tag) (h2 : x.n = y.n) : x = y := by cases x; cases y; simp_all
instance : DecidableEq Nd := fun x y => decidable_of_iff (x.tag = y.tag ∧ x.n = y.n) ⟨fun h => Aje h.1 h.2, fun h => by rw [h]; exact ⟨rfl, rfl⟩⟩
def AfS (l : List Nd) : List Value := l.flatMap Nd.cells
theorem Ag8 (x y : Nd) (W : World) : (binOp .neq 65 (.agg x.cells.toArray) (.agg y.cells.toArray)).run Tryz.prog W = .ok (.bool (!(x.tag == y.tag && x.n == y.n))) W := by
 simp [go_sem, Nd.cells];by_cases b : x.tag = y.tag <;> by_cases c : x.n = y.n <;> simp [b, c]
theorem AfT (x y : Nd) (W : World) : (binOp .neq 65 (.agg x.cells.toArray) (.agg y.cells.toArray)).run Tryz.prog W = .ok (.bool (!decide (x = y))) W := by
 rw [Ag8];by_cases h : x = y
 · subst h; simp
 · have : (x.tag == y.tag && x.n == y.n) = false := by
    by_cases b : x.tag = y.tag
    · by_cases c : x.n = y.n
      · exact absurd (Aje b c) h
      · simp [c]
    · simp [b]
   rw [this]; simp [h]
theorem Un {P : Program} {ρ : Operand → Value} {o : Oper} {x y : Operand} {t u : TypeId} {vx vy v : Value} {W : World} (ho : o.op = .binOp .neq t x y u) (hx : ρ x = vx) (hy : ρ y = vy) (hg : (eqGuard .neq t x y vx vy).run P W = .ok () W) (hv : (binOp .neq t vx vy).run P W = .ok v W) : (execOp ρ o).run P W = .ok (.value v) W := by
 simp only [execOp, ho, hx, hy, Sem.run_bind, Sem.run_pure, hg, hv, Result.andThen_ok]
theorem Et (A B : Option Addr) (c d na nb : Nat) (a b : List Nd) (w : World) (hna : na = a.length) (hnb : nb = b.length) (ha : Rd w A (AfS a)) (hb : Rd w B (AfS b)) (hla : a.length ≤ 1000000) :
 Calls Tryz.prog 75 #[.slice A na c, .slice B nb d] w fun e w' => e = .returned (.bool (decide (a = b))) ∧ Below w.heap.size w w' := by
 by_cases hl : na = nb;rotate_left
 · have ak : ((na : Int) != (nb : Int)) = true := by simp; omega
   have aa : a ≠ b := fun e => hl (by rw [hna, hnb, e])
   have v : Hid (decide (a = b) = false) := by show _ = _; simp [aa]
   clear hl hna hnb aa ha hb hla;go_enter Tryz.func75, Tryz.ntmps75
   go_wp2
   go_ret
   exact ⟨Q4 v.out, Below.refl _ _⟩
 subst hl;have Ha := Lh hna;have Hb := Lh hnb;have al : (na : Int) ≤ 1000000 := by omega
 clear hna hnb hla;obtain ⟨S, m⟩ : ∃ S, S = (fun W => Rd W A (AfS a) ∧ Rd W B (AfS b) ∧ Below w.heap.size w W) := ⟨_, rfl⟩;have am : St S := by rw [m]; infer_instance
 have x : Hid (∀ W, S W → Rd W A (AfS a)) := by show ∀ W, _; rw [m]; exact fun W h => h.1
 have y : Hid (∀ W, S W → Rd W B (AfS b)) := by show ∀ W, _; rw [m]; exact fun W h => h.2.1
 have z : Hid (∀ W, S W → Below w.heap.size w W) := by show ∀ W, _; rw [m]; exact fun W h => h.2.2
 have g : S w := by rw [m]; exact ⟨ha, hb, Below.refl _ _⟩
 clear m ha hb;go_enter Tryz.func75, Tryz.ntmps75
 go_wp2
 go_loopw [5] (fun i wr => ∃ k : Nat, i = .int .i64 (k : Int) ∧ k ≤ na ∧ Hid (a.take k = b.take k) ∧ S wr) (fun i _ => na - (intOf i).toNat)
 case atStart => exact ⟨0, by simp, Nat.zero_le _, by simp [Hid], g⟩
 case round =>
  clear g;obtain ⟨k, rfl, hk, Hk, g⟩ := hrel;by_cases ah : k < na
  · obtain ⟨e, he⟩ : ∃ e, a[k]? = some e := ⟨_, La (by have := Ha.out; omega)⟩;obtain ⟨f, hf⟩ : ∃ f, b[k]? = some f := ⟨_, La (by have := Hb.out; omega)⟩;obtain ⟨ad, af, _⟩ := Js (x.out _ g) he;obtain ⟨bd, ag, _⟩ := Js (y.out _ g) hf;subst af ag
    have q : Hid (∀ W, S W → ∀ j u, e.cells[j]? = some u → W.cell? ((ad.add (k * 2)).add j) = some u) := fun W h => by
     obtain ⟨ae, l, h2⟩ := Js (x.out _ h) he;injection l with l; subst l; exact h2
    have s : Hid (∀ W, S W → ∀ j u, f.cells[j]? = some u → W.cell? ((bd.add (k * 2)).add j) = some u) := fun W h => by
     obtain ⟨ae, l, h2⟩ := Js (y.out _ h) hf;injection l with l; subst l; exact h2
    have He := Lh he;have Hf := Lh hf;have ai : (k : Int) < (na : Int) := by omega
    have aj : IntKind.i64.wrap ((k : Int) + 1) = (k : Int) + 1 := IntWalk.i64_in _ (by omega);clear he hf;have t := Lh (AfT e f);by_cases o : e = f
    · have p : ∀ W, (binOp .neq 65 (.agg e.cells.toArray) (.agg f.cells.toArray)).run Tryz.prog W = .ok (.bool false) W := fun W => by rw [t.out]; simp [o]
      have n := Lh p;clear p t;go_wp2
      refine Zf S (by kernel_rfl) (by kernel_rfl) (St.drew g) ?_;clear g
      iterate 3 (refine Qg rfl ?_ (fun W hW => ?_) ?_; rotate_left; (focus (go_simp; exact rfl)); simp only [Act.put, Qa, Qb, Qc])
      (refine ZM rfl 65 _ rfl ((ad.add (k * 2))) rfl e.cells _ q.out Tryz.underlying65 rfl (by kernel_rfl) ?_; simp only [Act.put, Qa, Qb, Qc])
      iterate 3 (refine Qg rfl ?_ (fun W hW => ?_) ?_; rotate_left; (focus (go_simp; exact rfl)); simp only [Act.put, Qa, Qb, Qc])
      (refine ZM rfl 65 _ rfl ((bd.add (k * 2))) rfl f.cells _ s.out Tryz.underlying65 rfl (by kernel_rfl) ?_; simp only [Act.put, Qa, Qb, Qc]);(refine Qg rfl (.bool false) (fun W hW => Un (vx := .agg e.cells.toArray) (vy := .agg f.cells.toArray) rfl rfl rfl (by go_simp) (n.out W)) ?_; simp only [Act.put, Qa, Qb, Qc]);refine QK fun W g => ?_
      clear n;subst o
      have ac : Hid (a.take (k + 1) = b.take (k + 1)) := by
       show _ = _;rw [Lz, Lz, Hk.out, He.out, Hf.out]
      clear q s He Hf Hk;go_wp2
      go_roundw
      case rel => exact ⟨k + 1, by go_num, by omega, ac, g⟩
      case measure => simp [intOf]; omega
    · have p : ∀ W, (binOp .neq 65 (.agg e.cells.toArray) (.agg f.cells.toArray)).run Tryz.prog W = .ok (.bool true) W := fun W => by rw [t.out]; simp [o]
      have n := Lh p;clear p t;go_wp2
      refine Zf S (by kernel_rfl) (by kernel_rfl) (St.drew g) ?_;clear g
      iterate 3 (refine Qg rfl ?_ (fun W hW => ?_) ?_; rotate_left; (focus (go_simp; exact rfl)); simp only [Act.put, Qa, Qb, Qc])
      (refine ZM rfl 65 _ rfl ((ad.add (k * 2))) rfl e.cells _ q.out Tryz.underlying65 rfl (by kernel_rfl) ?_; simp only [Act.put, Qa, Qb, Qc])
      iterate 3 (refine Qg rfl ?_ (fun W hW => ?_) ?_; rotate_left; (focus (go_simp; exact rfl)); simp only [Act.put, Qa, Qb, Qc])
      (refine ZM rfl 65 _ rfl ((bd.add (k * 2))) rfl f.cells _ s.out Tryz.underlying65 rfl (by kernel_rfl) ?_; simp only [Act.put, Qa, Qb, Qc]);(refine Qg rfl (.bool true) (fun W hW => Un (vx := .agg e.cells.toArray) (vy := .agg f.cells.toArray) rfl rfl rfl (by go_simp) (n.out W)) ?_; simp only [Act.put, Qa, Qb, Qc]);refine QK fun W g => ?_
      clear n
      have v : Hid (decide (a = b) = false) := by
       show _ = _
       have : a ≠ b := fun h => o (by
        have l := He.out
        rw [h, Hf.out] at l
        exact (Option.some.inj l).symm)
       simp [this]
      clear q s He Hf Hk o;go_wp2
      go_ret
      exact ⟨Q4 v.out, z.out _ g⟩
  · obtain rfl : k = na := by omega
    have ab : Hid (decide (a = b) = true) := by
     show _ = _;have l := Hk.out;rw [Lx (by have := Ha.out; omega), Lx (by have := Hb.out; omega)] at l;simp [l]
    clear ah hk;go_wp2
    go_ret
    exact ⟨Q4 ab.out, z.out _ g⟩
end Go.Proofs.YtkoikjnlpifbjaaGreat
namespace Go.Proofs.YtkoikjnlpifbjaaGreat
open Go.ChangeShapes Go.WideShapes Go.RowKit Go.Deep
theorem AdP : Tryz.prog.cellsOf 65 = 2 := by kernel_rfl
theorem AdQ : Tryz.prog.cellsOf 25 = 3 := by kernel_rfl
theorem AdO : Tryz.prog.cellsOf 22 = 1 := by kernel_rfl
theorem Acb : Tryz.prog.cellsOf 23 = 1 := by kernel_rfl
structure IntsV where
 addr : Option Addr
 cap : Nat
 l : List Int
def IntsV.val (r : IntsV) : Value := .slice r.addr r.l.length r.cap
structure IntsV.ok (r : IntsV) (w : World) : Prop where
 len : r.l.length ≤ r.cap
 cap : r.cap ≤ maxLen
 nil : r.addr = none → r.cap = 0
 reads : Rd w r.addr (Qi r.l)
 all : ∀ x ∈ r.l, InI x
theorem IntsV.ok.go {r : IntsV} {w w' : World} (h : r.ok w) (b : Below w.heap.size w w') : r.ok w' := ⟨h.len, h.cap, h.nil, h.reads.go b, h.all⟩
instance St.intsok {r : IntsV} : St (fun W => r.ok W) := ⟨fun h b => h.go b⟩
def PgV.val (p : PgV) : Value := .agg p.cells
section
variable {H : Type} {enc : TypeId × Value → H} {w : World} {base : Nat} {spare : Nat → Bool} {held : Bool}
theorem AfU {fuel : Nat} {cs : List Value} {x : DataW H × List MemPlace} (h : DataW.trod enc Tryz.prog w base spare held fuel 3 cs = some x) : ∃ n : Int, cs = [.int .i64 n] ∧ InI n := by
 obtain ⟨n, e, h⟩ := Ur Tryz.underlying3 h;exact ⟨n, e, h⟩
theorem AfV {fuel : Nat} {cs : List Value} {x : DataW H × List MemPlace} (h : DataW.trod enc Tryz.prog w base spare held fuel 65 cs = some x) : ∃ e : Nd, cs = e.cells ∧ InI e.tag ∧ InI e.n := by
 obtain ⟨l, n, i⟩ := ER Tryz.underlying65 h;have c : cs.length = 2 := l.trans AdP
 match cs, c with
 | [a, b], _ =>
  obtain ⟨_, j⟩ := i 0 _ rfl;obtain ⟨_, k⟩ := i 1 _ rfl;obtain ⟨m, d, p⟩ := Ur Tryz.underlying3 j;obtain ⟨o, g, q⟩ := Ur Tryz.underlying3 k;simp [Aat] at d g;exact ⟨⟨m, o⟩, by rw [d, g]; rfl, p, q⟩
theorem AfH (l : List Int) : l.flatMap (fun n => [Value.int .i64 n]) = Qi l := by
 induction l with
 | nil => rfl
 | cons a l ih => rw [LA, ih]; rfl
theorem Ej {fuel : Nat} {cs : List Value} {x : DataW H × List MemPlace} (h : DataW.trod enc Tryz.prog w base spare held fuel 22 cs = some x) : ∃ r : IntsV, r.ok w ∧ cs = [r.val] := by
 obtain ⟨A, b, e, rfl, g, j, m, q, i, k⟩ := UJ Tryz.underlying22 h;obtain ⟨l, rfl, c⟩ := Um (fun n : Int => [Value.int .i64 n]) InI e (fun p d => by obtain ⟨n, y, o⟩ := k p d; exact AfU o);rw [Lu] at g;refine ⟨⟨A, b, l⟩, ⟨g, j, m, ?_, c⟩, by rw [Lu]; rfl⟩;rw [← List.flatMap_def, AfH] at i;exact i
theorem Adc {fuel : Nat} {cs : List Value} {x : DataW H × List MemPlace} (h : DataW.trod enc Tryz.prog w base spare held fuel 23 cs = some x) :
 ∃ (A : Option Addr) (cap : Nat) (l : List Nd), cs = [.slice A l.length cap] ∧ l.length ≤ cap ∧ cap ≤ maxLen ∧ (A = none → cap = 0) ∧ Rd w A (l.flatMap Nd.cells) ∧ ∀ e ∈ l, InI e.tag ∧ InI e.n := by
 obtain ⟨A, cap, d, rfl, g, i, m, q, j, k⟩ := UJ Tryz.underlying23 h;obtain ⟨l, rfl, b⟩ := Um Nd.cells (fun e => InI e.tag ∧ InI e.n) d (fun p c => by obtain ⟨n, y, o⟩ := k p c; exact AfV o);rw [Lu] at g;exact ⟨A, cap, l, by rw [Lu], g, i, m, by rw [List.flatMap_def]; exact j, b⟩
theorem Aem {fuel : Nat} {cs : List Value} {x : DataW H × List MemPlace} (h : DataW.trod enc Tryz.prog w base spare held fuel 25 cs = some x) : ∃ p : PgV, p.ok w ∧ cs = p.cells.toList := by
 obtain ⟨z, n, e⟩ := ER Tryz.underlying25 h;have g : cs.length = 3 := z.trans AdQ
 match cs, g with
 | [a, b, c], _ =>
  obtain ⟨_, u⟩ := e 0 _ rfl;obtain ⟨_, v⟩ := e 1 _ rfl;obtain ⟨_, y⟩ := e 2 _ rfl;obtain ⟨n0, i, w0⟩ := Ur Tryz.underlying3 u;obtain ⟨r, d, j⟩ := Ej v;obtain ⟨A, cap, l, k, m, o, q, s, t⟩ := Adc y;simp [Aat, AdO, Acb] at i j k;exact ⟨⟨n0, r.addr, r.cap, r.l, A, cap, l⟩, ⟨w0, d.len, d.cap, d.nil, d.reads, d.all, m, o, q, s, t⟩, by rw [i, j, k]; rfl⟩
theorem AaY {r : Go.Reach} {b0 : Nat} {v : Value} {d : DataW H} {p : List MemPlace} (hv : Value.okWide Tryz.prog w r b0 25 v) (h : DataW.Trod enc Tryz.prog w base spare held 25 v d p) : ∃ p : PgV, p.ok w ∧ v = p.val := by
 obtain ⟨g, rfl, b, x, e⟩ := AhI Tryz.underlying25 hv h;obtain ⟨p, c, rfl⟩ := Aem e;exact ⟨p, c, rfl⟩
end
end Go.Proofs.YtkoikjnlpifbjaaGreat
namespace Go.Proofs.YtkoikjnlpifbjaaGreat
open Go.RowKit Go.Deep
theorem Z4 {α : Type} {c : α → Value} {W : World} {A : Option Addr} {l : List α} (hr : Rd W A (l.map c)) {k : Nat} {x : α} (hx : l[k]? = some x) : ∃ ad, A = some ad ∧ W.cell? (ad.add k) = some (c x) :=
 hr k _ (by simp [hx])
instance St.intsok_all {l : List IntsV} : St (fun W => ∀ x ∈ l, x.ok W) := ⟨fun h b x hx => (h x hx).go b⟩
theorem Ac0 {W : World} {A : Option Addr} {l : List MtV} (hr : Rd W A (l.flatMap MtV.cells)) {k : Nat} {x : MtV} (hx : l[k]? = some x) : ∃ ad, A = some ad ∧ ∀ j u, x.cells[j]? = some u → W.cell? ((ad.add (k * 8)).add j) = some u :=
 AaB (sz := 8) (fun _ => rfl) (by decide) hr hx
theorem YA {α β : Type} {f : α → β} {a b : List α} {k : Nat} {x y : α} (h : (a.take k).map f = (b.take k).map f) (hx : a[k]? = some x) (hy : b[k]? = some y) (e : f x = f y) : (a.take (k + 1)).map f = (b.take (k + 1)).map f := by
 rw [Lz, Lz, LG, LG, h, hx, hy]; simp [e]
theorem U3 {α β : Type} {f : α → β} {a b : List α} {k : Nat} {x y : α} (hx : a[k]? = some x) (hy : b[k]? = some y) (e : f x ≠ f y) : a.map f ≠ b.map f := fun h => by
 have c : (a.map f)[k]? = (b.map f)[k]? := by rw [h]
 rw [L4, L4, hx, hy] at c;exact e (by simpa using c)
instance : DecidableEq Mt := fun a b => decidable_of_iff (KQ a b = true) sameM_iff
def ZN (l : List IntsV) : List Value := l.map IntsV.val
def J8 (l : List MtV) : List Value := l.flatMap MtV.cells
theorem Eu (A B : Option Addr) (c d na nb : Nat) (a b : List IntsV) (w : World) (hna : na = a.length) (hnb : nb = b.length) (ha : Rd w A (ZN a)) (hb : Rd w B (ZN b)) (hoa : ∀ x ∈ a, x.ok w) (hob : ∀ x ∈ b, x.ok w) (hla : a.length ≤ 1000000) (hsa : ∀ x ∈ a, x.l.length ≤ 1000000) :
 Calls Tryz.prog 30 #[.slice A na c, .slice B nb d] w fun e w' => e = .returned (.bool (decide (a.map IntsV.l = b.map IntsV.l))) ∧ Below w.heap.size w w' := by
 have af := Lh hsa;clear hsa;by_cases hl : na = nb;rotate_left
 · have ap : ((na : Int) != (nb : Int)) = true := by simp; omega
   have ab : a.map IntsV.l ≠ b.map IntsV.l := fun e => hl (by rw [hna, hnb]; simpa using congrArg List.length e)
   have u : Hid (decide (a.map IntsV.l = b.map IntsV.l) = false) := by show _ = _; simp [ab]
   clear hl hna hnb ab ha hb hla hoa hob;go_enter Tryz.func30, Tryz.ntmps30
   go_wp2
   go_ret
   exact ⟨Q4 u.out, Below.refl _ _⟩
 subst hl;have Ha := Lh hna;have Hb := Lh hnb;have aq : (na : Int) ≤ 1000000 := by omega
 clear hna hnb hla;obtain ⟨S, g⟩ : ∃ S, S = (fun W => Rd W A (ZN a) ∧ Rd W B (ZN b) ∧ (∀ x ∈ a, x.ok W) ∧ (∀ x ∈ b, x.ok W) ∧ Below w.heap.size w W) := ⟨_, rfl⟩;have ar : St S := by rw [g]; infer_instance
 have y : Hid (∀ W, S W → Rd W A (ZN a)) := by show ∀ W, _; rw [g]; exact fun W h => h.1
 have z : Hid (∀ W, S W → Rd W B (ZN b)) := by show ∀ W, _; rw [g]; exact fun W h => h.2.1
 have ah : Hid (∀ W, S W → ∀ x ∈ a, x.ok W) := by show ∀ W, _; rw [g]; exact fun W h => h.2.2.1
 have ai : Hid (∀ W, S W → ∀ x ∈ b, x.ok W) := by show ∀ W, _; rw [g]; exact fun W h => h.2.2.2.1
 have aa : Hid (∀ W, S W → Below w.heap.size w W) := by show ∀ W, _; rw [g]; exact fun W h => h.2.2.2.2
 have m : S w := by rw [g]; exact ⟨ha, hb, hoa, hob, Below.refl _ _⟩
 clear g ha hb hoa hob;go_enter Tryz.func30, Tryz.ntmps30
 go_wp2
 go_loopw [5] (fun i wr => ∃ k : Nat, i = .int .i64 (k : Int) ∧ k ≤ na ∧ Hid ((a.take k).map IntsV.l = (b.take k).map IntsV.l) ∧ S wr) (fun i _ => na - (intOf i).toNat)
 case atStart => exact ⟨0, by simp, Nat.zero_le _, by simp [Hid], m⟩
 case round =>
  clear m;obtain ⟨k, rfl, hk, v, m⟩ := hrel;by_cases am : k < na
  · obtain ⟨e, he⟩ : ∃ e, a[k]? = some e := ⟨_, La (by have := Ha.out; omega)⟩;obtain ⟨f, hf⟩ : ∃ f, b[k]? = some f := ⟨_, La (by have := Hb.out; omega)⟩;obtain ⟨ad, ak, _⟩ := Z4 (y.out _ m) he;obtain ⟨bd, al, _⟩ := Z4 (z.out _ m) hf;subst ak al
    have q : Hid (∀ W, S W → W.cell? (ad.add k) = some (.slice e.addr e.l.length e.cap)) := fun W h => by
     obtain ⟨aj, n, h2⟩ := Z4 (y.out _ h) he;injection n with n; subst n; exact h2
    have s : Hid (∀ W, S W → W.cell? (bd.add k) = some (.slice f.addr f.l.length f.cap)) := fun W h => by
     obtain ⟨aj, n, h2⟩ := Z4 (z.out _ h) hf;injection n with n; subst n; exact h2
    have He := Lh he;have Hf := Lh hf;have o := Lh (Lg he);have t := Lh (Lg hf);have an : (k : Int) < (na : Int) := by omega
    have ao : IntKind.i64.wrap ((k : Int) + 1) = (k : Int) + 1 := IntWalk.i64_in _ (by omega);clear he hf;have ac := af.out e o.out;go_wp2
    refine Zf S (by kernel_rfl) (by kernel_rfl) (St.drew m) ?_;clear m
    iterate 3 (refine Qg rfl ?_ (fun W p => ?_) ?_; rotate_left; (focus (go_simp; exact rfl)); simp only [Act.put, Qa, Qb, Qc])
    (refine Qg rfl ?_ (fun W p => ?_) ?_; rotate_left; (focus (have c := q.out W p; go_simp; exact rfl)); simp only [Act.put, Qa, Qb, Qc])
    iterate 3 (refine Qg rfl ?_ (fun W p => ?_) ?_; rotate_left; (focus (go_simp; exact rfl)); simp only [Act.put, Qa, Qb, Qc])
    (refine Qg rfl ?_ (fun W p => ?_) ?_; rotate_left; (focus (have c := s.out W p; go_simp; exact rfl)); simp only [Act.put, Qa, Qb, Qc]);(refine QO rfl 74 _ (fun W => by (go_simp; try rfl)) (.bool (decide (e.l = f.l))) (fun W p => Ve e.addr f.addr e.cap f.cap _ _ e.l f.l W rfl rfl (ah.out _ p e o.out).reads (ai.out _ p f t.out).reads ac) ?_; simp only [Act.put, Qa, Qb, Qc])
    (refine Qg rfl ?_ (fun W p => ?_) ?_; rotate_left; (focus (go_simp; exact rfl)); simp only [Act.put, Qa, Qb, Qc]);refine QK fun W m => ?_
    clear ac;by_cases j : e.l = f.l
    · have hd : decide (e.l = f.l) = true := by simp [j]
      rw [hd];clear hd;have ag := Lh (YA (f := IntsV.l) v.out He.out Hf.out j);clear q s He Hf v j o t;go_wp2
      go_roundw
      case rel => exact ⟨k + 1, by go_num, by omega, ag, m⟩
      case measure => simp [intOf]; omega
    · have hd : decide (e.l = f.l) = false := by simp [j]
      rw [hd];clear hd
      have u : Hid (decide (a.map IntsV.l = b.map IntsV.l) = false) := by
       show _ = _;have := U3 (f := IntsV.l) He.out Hf.out j;simp [this]
      clear q s He Hf v j o t;go_wp2
      go_ret
      exact ⟨Q4 u.out, aa.out _ m⟩
  · obtain rfl : k = na := by omega
    have ae : Hid (decide (a.map IntsV.l = b.map IntsV.l) = true) := by
     show _ = _;have n := v.out;rw [Lx (by have := Ha.out; omega), Lx (by have := Hb.out; omega)] at n;simp [n]
    clear am hk v;go_wp2
    go_ret
    exact ⟨Q4 ae.out, aa.out _ m⟩
theorem AhU (w : World) : (zeroValue 54).run Tryz.prog w = .ok (.agg #[.slice none 0 0, .int .i64 0, .int .i64 0, .int .i64 0, .int .i64 0, .int .i64 0, .int .i64 0, .string ByteArray.empty]) w := by kernel_rfl
theorem Aei (x : MtV) : x.cells.toArray.all (·.oneCell') = true := by simp [MtV.cells, Value.oneCell']
theorem Es (A B : Option Addr) (c d na nb : Nat) (a b : List MtV) (w : World) (hna : na = a.length) (hnb : nb = b.length) (ha : Rd w A (J8 a)) (hb : Rd w B (J8 b)) (hoa : ∀ x ∈ a, MtOk w x) (hob : ∀ x ∈ b, MtOk w x) (hla : a.length ≤ 1000000) :
 Calls Tryz.prog 31 #[.slice A na c, .slice B nb d] w fun e w' => e = .returned (.bool (decide (a.map MtV.m = b.map MtV.m))) ∧ Below w.heap.size w w' := by
 by_cases hl : na = nb;rotate_left
 · have ao : ((na : Int) != (nb : Int)) = true := by simp; omega
   have ac : a.map MtV.m ≠ b.map MtV.m := fun e => hl (by rw [hna, hnb]; simpa using congrArg List.length e)
   have v : Hid (decide (a.map MtV.m = b.map MtV.m) = false) := by show _ = _; simp [ac]
   clear hl hna hnb ac ha hb hla hoa hob;go_enter Tryz.func31, Tryz.ntmps31
   go_wp2
   go_ret
   exact ⟨Q4 v.out, Below.refl _ _⟩
 subst hl;have Ha := Lh hna;have Hb := Lh hnb;have ap : (na : Int) ≤ 1000000 := by omega
 clear hna hnb hla;obtain ⟨S, g⟩ : ∃ S, S = (fun W => Rd W A (J8 a) ∧ Rd W B (J8 b) ∧ (∀ x ∈ a, MtOk W x) ∧ (∀ x ∈ b, MtOk W x) ∧ Below w.heap.size w W) := ⟨_, rfl⟩;have aq : St S := by rw [g]; infer_instance
 have z : Hid (∀ W, S W → Rd W A (J8 a)) := by show ∀ W, _; rw [g]; exact fun W h => h.1
 have aa : Hid (∀ W, S W → Rd W B (J8 b)) := by show ∀ W, _; rw [g]; exact fun W h => h.2.1
 have ag : Hid (∀ W, S W → ∀ x ∈ a, MtOk W x) := by show ∀ W, _; rw [g]; exact fun W h => h.2.2.1
 have ah : Hid (∀ W, S W → ∀ x ∈ b, MtOk W x) := by show ∀ W, _; rw [g]; exact fun W h => h.2.2.2.1
 have ab : Hid (∀ W, S W → Below w.heap.size w W) := by show ∀ W, _; rw [g]; exact fun W h => h.2.2.2.2
 have n : S w := by rw [g]; exact ⟨ha, hb, hoa, hob, Below.refl _ _⟩
 clear g ha hb hoa hob;go_enter Tryz.func31, Tryz.ntmps31
 go_wp2
 go_loopw [5] (fun i wr => ∃ k : Nat, i = .int .i64 (k : Int) ∧ k ≤ na ∧ Hid ((a.take k).map MtV.m = (b.take k).map MtV.m) ∧ S wr) (fun i _ => na - (intOf i).toNat)
 case atStart => exact ⟨0, by simp, Nat.zero_le _, by simp [Hid], n⟩
 case round =>
  clear n;obtain ⟨k, rfl, hk, y, n⟩ := hrel;by_cases al : k < na
  · obtain ⟨e, he⟩ : ∃ e, a[k]? = some e := ⟨_, La (by have := Ha.out; omega)⟩;obtain ⟨f, hf⟩ : ∃ f, b[k]? = some f := ⟨_, La (by have := Hb.out; omega)⟩;obtain ⟨ad, aj, _⟩ := Ac0 (z.out _ n) he;obtain ⟨bd, ak, _⟩ := Ac0 (aa.out _ n) hf;subst aj ak
    have p : Hid (∀ W, S W → ∀ j u, e.cells[j]? = some u → W.cell? ((ad.add (k * 8)).add j) = some u) := fun W h => by
     obtain ⟨ai, o, h2⟩ := Ac0 (z.out _ h) he;injection o with o; subst o; exact h2
    have q : Hid (∀ W, S W → ∀ j u, f.cells[j]? = some u → W.cell? ((bd.add (k * 8)).add j) = some u) := fun W h => by
     obtain ⟨ai, o, h2⟩ := Ac0 (aa.out _ h) hf;injection o with o; subst o; exact h2
    have He := Lh he;have Hf := Lh hf;have s := Lh (Lg he);have t := Lh (Lg hf);have am : (k : Int) < (na : Int) := by omega
    have an : IntKind.i64.wrap ((k : Int) + 1) = (k : Int) + 1 := IntWalk.i64_in _ (by omega);clear he hf;go_wp2
    refine Zf S (by kernel_rfl) (by kernel_rfl) (St.drew n) ?_;clear n
    iterate 3 (refine Qg rfl ?_ (fun W hW => ?_) ?_; rotate_left; (focus (go_simp; exact rfl)); simp only [Act.put, Qa, Qb, Qc])
    (refine ZM rfl 54 _ rfl ((ad.add (k * 8))) rfl e.cells _ p.out Tryz.underlying54 rfl (by kernel_rfl) ?_; simp only [Act.put, Qa, Qb, Qc])
    iterate 3 (refine Qg rfl ?_ (fun W hW => ?_) ?_; rotate_left; (focus (go_simp; exact rfl)); simp only [Act.put, Qa, Qb, Qc])
    (refine ZM rfl 54 _ rfl ((bd.add (k * 8))) rfl f.cells _ q.out Tryz.underlying54 rfl (by kernel_rfl) ?_; simp only [Act.put, Qa, Qb, Qc]);(refine QO rfl 76 _ (fun W => by (go_simp; try rfl)) (.bool (KQ e.m f.m)) (fun W hW => Aae e f W (ag.out _ hW e s.out) (ah.out _ hW f t.out)) ?_; simp only [Act.put, Qa, Qb, Qc])
    (refine Qg rfl ?_ (fun W hW => ?_) ?_; rotate_left; (focus (go_simp; exact rfl)); simp only [Act.put, Qa, Qb, Qc]);refine QK fun W n => ?_
    by_cases l : e.m = f.m
    · have hd : KQ e.m f.m = true := sameM_iff.2 l;rw [hd];clear hd;have af := Lh (YA (f := MtV.m) y.out He.out Hf.out l);clear p q He Hf y l s t;go_wp2
      go_roundw
      case rel => exact ⟨k + 1, by go_num, by omega, af, n⟩
      case measure => simp [intOf]; omega
    · have hd : KQ e.m f.m = false := by
       cases h : KQ e.m f.m
       · rfl
       · exact absurd (sameM_iff.1 h) l
      rw [hd];clear hd
      have v : Hid (decide (a.map MtV.m = b.map MtV.m) = false) := by
       show _ = _;have := U3 (f := MtV.m) He.out Hf.out l;simp [this]
      clear p q He Hf y l s t;go_wp2
      go_ret
      exact ⟨Q4 v.out, ab.out _ n⟩
  · obtain rfl : k = na := by omega
    have ae : Hid (decide (a.map MtV.m = b.map MtV.m) = true) := by
     show _ = _;have o := y.out;rw [Lx (by have := Ha.out; omega), Lx (by have := Hb.out; omega)] at o;simp [o]
    clear al hk y;go_wp2
    go_ret
    exact ⟨Q4 ae.out, ab.out _ n⟩
def Acx {α : Type} (p : α → Bool) (l : List α) : Int := match l.findIdx? p with | some i => (i : Int) | none => -1
theorem Acz {α : Type} {p : α → Bool} {l : List α} {k : Nat} {x : α} (h : ∀ y ∈ l.take k, p y = false) (hx : l[k]? = some x) (hp : p x = true) : Acx p l = (k : Int) := by
 unfold Acx;have b := (Lb.1 hx).1
 have : l.findIdx? p = some k := by
  rw [List.findIdx?_eq_some_iff_getElem];refine ⟨b, by rw [(Lb.1 hx).2]; exact hp, fun j c => ?_⟩;rw [h _ (List.mem_take_iff_getElem.2 ⟨j, by omega, rfl⟩)]; simp
 rw [this]
theorem Ae1 {α : Type} {p : α → Bool} {l : List α} (h : ∀ y ∈ l, p y = false) : Acx p l = -1 := by
 unfold Acx;have : l.findIdx? p = none := by rw [List.findIdx?_eq_none_iff]; exact h
 rw [this]
theorem Acy {α : Type} (p : α → Bool) (l : List α) : decide (0 ≤ Acx p l) = l.any p := by
 unfold Acx;cases h : l.findIdx? p with
 | none =>
  rw [List.findIdx?_eq_none_iff] at h;simp; intro x d; simpa using h x d
 | some i =>
  rw [List.findIdx?_eq_some_iff_getElem] at h;obtain ⟨b, c, _⟩ := h;simp; exact ⟨l[i], List.getElem_mem b, c⟩
theorem Yd {α : Type} {p : α → Bool} {l : List α} {k : Nat} {x : α} (h : ∀ y ∈ l.take k, p y = false) (hx : l[k]? = some x) (hp : p x = false) : ∀ y ∈ l.take (k + 1), p y = false := by
 rw [Lz, hx];intro y b;rcases L2.1 b with b | b
 · exact h y b
 · simp at b; subst b; exact hp
theorem AfF (A : Option Addr) (cap : Nat) (l : List Nd) (p : Nd → Bool) (w : World) (S : World → Prop) [stS : St S] (hS : S w) (hrd : ∀ W, S W → Rd W A (l.flatMap Nd.cells)) (hlo : ∀ W, S W → Below w.heap.size w W)
 (hp : ∀ x ∈ l, ∀ W, S W → Calls Tryz.prog 100 #[.agg x.cells.toArray] W fun e W' => e = .returned (.bool (p x)) ∧ Below W.heap.size W W') (hl : l.length ≤ 1000000) :
 Calls Tryz.prog 136 #[.slice A l.length cap, .func (.func 100) #[] #[]] w fun e w' => e = .returned (.int .i64 (Acx p l)) ∧ Below w.heap.size w w' := by
 have Hp := Lh hp;have s := Lh hrd;have m := Lh hlo;have ab : (l.length : Int) ≤ 1000000 := by omega
 clear hp hrd hlo hl;go_enter Tryz.func136, Tryz.ntmps136
 go_wp2
 go_loopw [8] (fun i wr => ∃ k : Nat, i = .int .i64 (k : Int) ∧ k ≤ l.length ∧ Hid (∀ y ∈ l.take k, p y = false) ∧ S wr) (fun i _ => l.length - (intOf i).toNat)
 case atStart => exact ⟨0, rfl, Nat.zero_le _, Lh (fun x g => by simp at g), hS⟩
 case round =>
  clear hS;obtain ⟨k, rfl, hk, b, hS⟩ := hrel;by_cases d : k < l.length
  · obtain ⟨x, g⟩ : ∃ x, l[k]? = some x := ⟨_, La d⟩;obtain ⟨v, t, o⟩ := Js (s.out _ hS) g;have h : Hid (∀ j u, x.cells[j]? = some u → wr.cell? ((v.add (k * 2)).add j) = some u) := o;have q := Lh g;have c := Lh (Hp.out x (Lg g) wr hS);have aa : (k : Int) < (l.length : Int) := by omega
    clear g d o;subst t;go_wp2_with (refine QH rfl 65 _ rfl (v.add (k * 2)) rfl x.cells _ h.out Tryz.underlying65 rfl (by kernel_rfl) ?_)
    refine c.out.mono ?_;rintro e w' ⟨rfl, z⟩;replace hS := stS.go hS z;clear z c h;cases hs : p x
    · have n := Lh (Yd b.out q.out hs);clear hs q;go_wp2_with fail
      go_roundw
      case rel => exact ⟨k + 1, by go_num, by omega, n, hS⟩
      case measure => simp [intOf]; omega
    · have n := Lh (Acz b.out q.out hs);clear hs q;go_wp2_with fail
      go_ret
      exact ⟨by rw [n.out]; rfl, m.out _ hS⟩
  · obtain rfl : k = l.length := by omega
    have n := Lh (Ae1 (p := p) (l := l) (by have := b.out; rwa [LQ] at this));clear d hk;go_wp2
    go_ret
    exact ⟨by rw [n.out]; rfl, m.out _ hS⟩
theorem AdW (A : Option Addr) (cap : Nat) (l : List Nd) (p : Nd → Bool) (w : World) (S : World → Prop) [stS : St S] (hS : S w) (hrd : ∀ W, S W → Rd W A (l.flatMap Nd.cells)) (hlo : ∀ W, S W → Below w.heap.size w W)
 (hp : ∀ x ∈ l, ∀ W, S W → Calls Tryz.prog 100 #[.agg x.cells.toArray] W fun e W' => e = .returned (.bool (p x)) ∧ Below W.heap.size W W') (hl : l.length ≤ 1000000) :
 Calls Tryz.prog 99 #[.slice A l.length cap, .func (.func 100) #[] #[]] w fun e w' => e = .returned (.bool (l.any p)) ∧ Below w.heap.size w w' := by
 have b := Lh (AfF A cap l p w S hS hrd hlo hp hl);clear hp hrd hlo hl hS;go_enter Tryz.func99, Tryz.ntmps99
 go_wp2_with fail
 refine b.out.mono ?_;rintro e w' ⟨rfl, d⟩;have c := Lh (Acy p l);clear b;go_wp2_with fail
 go_ret
 exact ⟨Q4 c.out.symm, d⟩
theorem AdR (x : Nd) (w : World) :
 Calls Tryz.prog 100 #[.agg x.cells.toArray] w fun e w' => e = .returned (.bool (decide (Qs x < 0))) ∧ Below w.heap.size w w' := by
 go_enter Tryz.func100, Tryz.ntmps100
 go_wp2_with (refine Qm _ _ rfl ?_)
 refine Stop.to ?_;refine Qe rfl 65 _ rfl x.cells.toArray rfl ?_;intro G j d g c;have b := (Below.refl w.heap.size w).trans (c.mono d);have h := Lh (Xo x j);clear c d;go_wp2_with (refine wpList_load_row rfl 65 _ rfl G rfl 65 x.cells.toArray (0, 0) _ g Tryz.underlying65 rfl (by kernel_rfl) ?_)
 refine h.out.mono ?_;rintro e l ⟨rfl, i⟩;have k := b.trans (i.mono b.size);clear h g b i;go_wp2_with fail
 go_ret
 exact ⟨rfl, k⟩
structure CpV where
 p : PgV
 tA : Option Addr
 tcap : Nat
 tests : List IntsV
 fuel : Int
 mA : Option Addr
 mcap : Nat
 mts : List MtV
 sc : Sc
def CpV.cells (c : CpV) : Array Value := #[.int .i64 c.p.params, .slice c.p.va c.p.V.length c.p.vcap, .slice c.p.ba c.p.body.length c.p.bcap, .slice c.tA c.tests.length c.tcap, .int .i64 c.fuel, .slice c.mA c.mts.length c.mcap, .int .i64 c.sc.alive, .int .i64 c.sc.killed, .int .i64 c.sc.timeout]
structure CpOk (W : World) (c : CpV) : Prop where
 pok : c.p.ok W
 bl : c.p.body.length ≤ 1000
 vl : c.p.V.length ≤ 1000
 trd : Rd W c.tA (ZN c.tests)
 tok : ∀ x ∈ c.tests, x.ok W
 tlen : c.tests.length ≤ 1000
 tl : ∀ x ∈ c.tests, x.l.length ≤ 1000
 tnil : c.tA = none → c.tests = []
 mrd : Rd W c.mA (J8 c.mts)
 mok : ∀ x ∈ c.mts, MtOk W x
 mlen : c.mts.length ≤ 100000
 mnil : c.mA = none → c.mts = []
theorem CpOk.go {W W' : World} {c : CpV} (h : CpOk W c) (b : Below W.heap.size W W') : CpOk W' c :=
 ⟨h.pok.go b, h.bl, h.vl, h.trd.go b, fun x hx => (h.tok x hx).go b, h.tlen, h.tl, h.tnil, h.mrd.go b, fun x hx => (h.mok x hx).go b, h.mlen, h.mnil⟩
instance St.cpok {c : CpV} : St (fun W => CpOk W c) := ⟨fun h b => h.go b⟩
def YC (p q : PgV) : Bool := decide (p.params = q.params ∧ p.V = q.V ∧ p.body = q.body)
def CpV.testsL (c : CpV) : List (List Int) := c.tests.map IntsV.l
def CpV.muts (c : CpV) : List Mt := c.mts.map MtV.m
theorem Af5 {p q : PgV} (h : ¬ p.V = q.V) : YC p q = false := by unfold YC; simp [h]
theorem AiU {p q : PgV} {b : Bool} (h2 : p.V = q.V) (h3 : p.body = q.body) (h : (p.params == q.params) = b) : YC p q = b := by unfold YC; rw [← h]; simp [h2, h3]; by_cases e : p.params = q.params <;> simp [e]
theorem Af6 {p q : PgV} (h : ¬ p.body = q.body) : YC p q = false := by unfold YC; simp [h]
theorem Aaf (p q : PgV) (w : World) (hx : p.ok w) (hy : q.ok w) (hpl : p.body.length ≤ 1000) (hvl : p.V.length ≤ 1000) :
 Calls Tryz.prog 29 #[.agg p.cells, .agg q.cells] w fun e w' => e = .returned (.bool (YC p q)) ∧ Below w.heap.size w w' := by
 have Ha := Lh hx;have Hb := Lh hy;clear hx hy;go_enter Tryz.func29, Tryz.ntmps29
 go_wp2_with (refine Qm _ _ rfl ?_)
 refine Stop.to ?_;refine Qe rfl 25 _ rfl p.cells rfl ?_;intro G Gw Gh x Gb;go_wp2_with (refine Qm _ _ rfl ?_)
 refine Stop.to ?_;refine Qe rfl 25 _ rfl q.cells rfl ?_;intro J Jw z j y;have d := x.below y (Le x.lt z);have b1 := (Below.refl w.heap.size w).trans (Gb.mono Gh);have o := b1.trans ((y.mono z).mono b1.size);have c0 := d.cellv (i := 0) (v := .int .i64 p.params) rfl;have c1 := d.cellv (i := 1) (v := .slice p.va p.V.length p.vcap) rfl;have c2 := d.cellv (i := 2) (v := .slice p.ba p.body.length p.bcap) rfl;have d0 := j.cellv (i := 0) (v := .int .i64 q.params) rfl;have d1 := j.cellv (i := 1) (v := .slice q.va q.V.length q.vcap) rfl;have d2 := j.cellv (i := 2) (v := .slice q.ba q.body.length q.bcap) rfl;have Hv := Lh (Ve p.va q.va p.vcap q.vcap _ _ p.V q.V Jw rfl rfl (Ha.out.go o).vrd (Hb.out.go o).vrd (by omega));have rJ := j;clear x Gb Gh y z j;go_wp2_with fail
 refine Hv.out.mono ?_;rintro e w1 ⟨rfl, s⟩;have t := o.trans (s.mono o.size);have b := d.below s d.lt;have c := rJ.below s rJ.lt;clear Hv s c0 c1 c2 d0 d1 d2 d rJ;have c2 := b.cellv (i := 2) (v := .slice p.ba p.body.length p.bcap) rfl;have d2 := c.cellv (i := 2) (v := .slice q.ba q.body.length q.bcap) rfl;have Hn := Lh (Et p.ba q.ba p.bcap q.bcap _ _ p.body q.body w1 rfl rfl (Ha.out.go t).brd (Hb.out.go t).brd (by omega));generalize l : decide (p.V = q.V) = vv;have h := Lh l;clear l;go_wp2_with fail
 refine Hn.out.mono ?_;rintro e w2 ⟨rfl, u⟩;have b6 := t.trans (u.mono t.size);have m := b.below u b.lt;have n := c.below u c.lt;clear Hn u c2 d2 b c;have c0 := m.cellv (i := 0) (v := .int .i64 p.params) rfl;have d0 := n.cellv (i := 0) (v := .int .i64 q.params) rfl;generalize k : decide (p.body = q.body) = bb;have g := Lh k;clear k m n;cases vv
 · go_wp2_with fail
   go_ret
   exact ⟨Q4 (Af5 (of_decide_eq_false h.out)), b6⟩
 cases bb
 · go_wp2_with fail
   go_ret
   exact ⟨Q4 (Af6 (of_decide_eq_false g.out)), b6⟩
 · go_wp2_with fail
   go_ret
   exact ⟨Q4 (AiU (of_decide_eq_true h.out) (of_decide_eq_true g.out) rfl), b6⟩
end Go.Proofs.YtkoikjnlpifbjaaGreat
