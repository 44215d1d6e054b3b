/- A region that draws its order, walked in the order of the text: each of its first n operations yields ONE value in every world that meets S and leaves a world that meets S; the rest comes in one forced order. Conditions: stated in each law. -/
import Derived.Test.YtkdcelnlhhodlaaGen
import Derived.StillTail
import Derived.Laws.StructEq
import Derived.OrdersHeld
import Derived.Test.YtkdcelnlhhodlaaWord
namespace Go.Proofs.Ytkdcelnlhhodlaa
open Go.RowKit

section
variable {P : Program} {ops : Array Oper} {md : Region.Mode} {S : World → Prop}

def holdUpon (P : Program) (S : World → Prop) (v : Value) : Result Next → Prop
  | .ok (.value u) W => u = v ∧ S W
  | .ok .skip W => v = undef ∧ S W
  | .ok (.enter f args) W => Calls P f args W fun e W' => e = .returned v ∧ S W'
  | _ => False

def YieldsH (P : Program) (ops : Array Oper) (S : World → Prop) (o : Oper) (v : Value) (a : Act) : Prop :=
  (Region.wanted o (yielded ops a.tmps) = true ∧ ∀ W, S W → holdUpon P S v ((execOp a.eval o).run P W)) ∨ (Region.wanted o (yielded ops a.tmps) = false ∧ v = undef)

def wpHold (P : Program) (ops : Array Oper) (S : World → Prop) (Q : Act → Prop) : List Oper → Act → Prop
  | [], a => Q a
  | o :: rest, a => ∃ v, YieldsH P ops S o v a ∧ wpHold P ops S Q rest (a.put o.dst v)

theorem wpHold_nil {Q : Act → Prop} {a : Act} (h : Q a) : wpHold P ops S Q [] a := h

/-- Not wanted. -/
theorem hold_skip {Q : Act → Prop} {a : Act} {o : Oper} {rest : List Oper} (hw : Region.wanted o (yielded ops a.tmps) = false) (h : wpHold P ops S Q rest (a.put o.dst undef)) : wpHold P ops S Q (o :: rest) a :=
  ⟨undef, .inr ⟨hw, rfl⟩, h⟩
/-- A value in every world that meets S. -/
theorem hold_value {Q : Act → Prop} {a : Act} {o : Oper} {rest : List Oper} (hw : Region.wanted o (yielded ops a.tmps) = true) (v : Value) (hv : ∀ W, S W → (execOp a.eval o).run P W = .ok (.value v) W) (h : wpHold P ops S Q rest (a.put o.dst v)) : wpHold P ops S Q (o :: rest) a :=
  ⟨v, .inl ⟨hw, fun W hW => by rw [hv W hW]; exact ⟨rfl, hW⟩⟩, h⟩
/-- A value, and another world that meets S. -/
theorem hold_world {Q : Act → Prop} {a : Act} {o : Oper} {rest : List Oper} (hw : Region.wanted o (yielded ops a.tmps) = true) (v : Value) (hv : ∀ W, S W → ∃ W', (execOp a.eval o).run P W = .ok (.value v) W' ∧ S W') (h : wpHold P ops S Q rest (a.put o.dst v)) : wpHold P ops S Q (o :: rest) a :=
  ⟨v, .inl ⟨hw, fun W hW => by obtain ⟨W', he, hS⟩ := hv W hW; rw [he]; exact ⟨rfl, hS⟩⟩, h⟩
/-- A call, by its contract. -/
theorem hold_call {Q : Act → Prop} {a : Act} {o : Oper} {rest : List Oper} (hw : Region.wanted o (yielded ops a.tmps) = true) (f : FuncId) (args : Array Value) (he : ∀ W, (execOp a.eval o).run P W = .ok (.enter f args) W) (v : Value)
    (hc : ∀ W, S W → Calls P f args W fun e W' => e = .returned v ∧ S W') (h : wpHold P ops S Q rest (a.put o.dst v)) : wpHold P ops S Q (o :: rest) a :=
  ⟨v, .inl ⟨hw, fun W hW => by rw [he W]; exact hc W hW⟩, h⟩

/-- A call that only makes new blocks. -/
theorem hold_call_new [hst : St S] {Q : Act → Prop} {a : Act} {o : Oper} {rest : List Oper} (hw : Region.wanted o (yielded ops a.tmps) = true) (f : FuncId) (args : Array Value) (he : ∀ W, (execOp a.eval o).run P W = .ok (.enter f args) W) (v : Value)
    (hc : ∀ W, S W → Calls P f args W fun e W' => e = .returned v ∧ Below W.heap.size W W') (h : wpHold P ops S Q rest (a.put o.dst v)) : wpHold P ops S Q (o :: rest) a :=
  hold_call hw f args he v (fun W hW => (hc W hW).mono fun _ _ ⟨h1, h2⟩ => ⟨h1, hst.go hW h2⟩) h
/-- A whole row read. -/
theorem hold_load_row {Q : Act → Prop} {a : Act} {o : Oper} {rest : List Oper} (hw : Region.wanted o (yielded ops a.tmps) = true) (ty : TypeId) (x : Operand) (ho : o.op = .load ty x) (g : Nat) (hx : a.eval x = .pointer (some ⟨g, 0, none⟩)) (t : TypeId) (cs : Array Value) (d : TypeDesc)
    (hr : ∀ W, S W → Row W g t cs) (hu : P.underlying ty = some d) (hd : (match d with | .struct _ | .array _ _ => true | _ => false) = true) (hi : (P.info? ty).map (·.size) = some cs.size)
    (h : wpHold P ops S Q rest (a.put o.dst (.agg cs))) : wpHold P ops S Q (o :: rest) a :=
  hold_value hw (.agg cs) (fun W hW => by
    simp only [execOp, ho, hx, Instr.loadAt, Instr.sureAddr, Sem.run_bind, Sem.run_pure, Result.andThen_ok, run_loadVar_row W g t ty cs (0, 0) d (hr W hW) hu hd hi]) h

def hOp (P : Program) (ops : Array Oper) (S : World → Prop) (i : Nat) (K : Act → Prop) (a : Act) : Prop :=
  match ops[i]? with
  | none => K a
  | some o => ∃ v, YieldsH P ops S o v a ∧ K (a.put o.dst v)

theorem hOp_some {i : Nat} {o : Oper} {K : Act → Prop} {a : Act} (hi : ops[i]? = some o) : hOp P ops S i K a ↔ ∃ v, YieldsH P ops S o v a ∧ K (a.put o.dst v) := by
  unfold hOp; simp only [hi]

theorem hOp_mono {i : Nat} {a : Act} {K K' : Act → Prop} (h : ∀ a, K a → K' a) (hh : hOp P ops S i K a) : hOp P ops S i K' a := by
  unfold hOp at *
  split
  · rename_i ho; simp only [ho] at hh; exact h _ hh
  · rename_i o ho
    simp only [ho] at hh
    obtain ⟨v, hy, hK⟩ := hh
    exact ⟨v, hy, h _ hK⟩

theorem wpOp_of_hOp {i : Nat} {a : Act} {w : World} (hS : S w) {K : Act → Prop} {K' : Act → World → Prop} {Q' : Exit → Act → World → Prop} (h : ∀ a W, K a → S W → K' a W) (hh : hOp P ops S i K a) : wpOp P ops Q' i K' a w := by
  unfold hOp at hh
  unfold wpOp
  split
  · rename_i ho; simp only [ho] at hh; exact h _ _ hh hS
  · rename_i o ho
    simp only [ho] at hh
    obtain ⟨v, hy, hK⟩ := hh
    rcases hy with ⟨hw, hv⟩ | ⟨hw, rfl⟩
    · simp only [hw, if_true]
      refine .inl ?_
      have h1 := hv w hS
      unfold Oper.wp
      generalize (execOp a.eval o).run P w = r at h1
      cases r with
      | ok n w' =>
        cases n <;> simp only [holdUpon] at h1 <;> simp only [Oper.upon]
        case value u => obtain ⟨rfl, h2⟩ := h1; exact h _ _ hK h2
        case skip => obtain ⟨rfl, h2⟩ := h1; exact h _ _ hK h2
        case enter f args => exact h1.mono fun e w'' ⟨he, hs⟩ => by subst he; exact h _ _ hK hs
      | halt x w' => simp only [holdUpon] at h1
    · simp only [hw, Bool.false_eq_true, if_false]; exact h _ _ hK hS

theorem YieldsH.of_same {o : Oper} {v : Value} {a a' : Act} (hy : YieldsH P ops S o v a) (he : execOp a'.eval o = execOp a.eval o)
    (hw : Region.wanted o (yielded ops a'.tmps) = Region.wanted o (yielded ops a.tmps)) : YieldsH P ops S o v a' := by
  unfold YieldsH at *
  rw [he, hw]
  exact hy

theorem hOp_put {j : Nat} {oi oj : Oper} {v : Value} (hj : ops[j]? = some oj) (hap : oi.apart ops oj = true)
    (hsi : ∀ cs b, oi.op ≠ .select cs b) (hsj : ∀ cs b, oj.op ≠ .select cs b) {K : Act → Prop} {a : Act}
    (hy : YieldsH P ops S oi v a) (h : hOp P ops S j K (a.put oi.dst v)) :
    hOp P ops S j (fun a' => YieldsH P ops S oi v a' ∧ K (a'.put oi.dst v)) a := by
  obtain ⟨h1, h2, h3⟩ := Oper.apart_spec hap
  rw [hOp_some hj] at h ⊢
  obtain ⟨u, hyj, hK⟩ := h
  refine ⟨u, hyj.of_same (execOp_put oj hsj a oi.dst v h1).symm (wanted_put oj a oi.dst v h1).symm, hy.of_same (execOp_put oi hsi a oj.dst u h3) (wanted_put oi a oj.dst u h3), ?_⟩
  rw [← Act.put_comm a v u h2]; exact hK

def wpAnyV (P : Program) (md : Region.Mode) (ops : Array Oper) (S : World → Prop) (Q : Act → Prop) : Nat → Array Bool → Act → Prop
  | 0, listed, a => Region.ready md ops listed = [] ∧ Q a
  | fuel + 1, listed, a =>
    (Region.ready md ops listed = [] → Q a) ∧
    ∀ i ∈ Region.ready md ops listed, hOp P ops S i (wpAnyV P md ops S Q fuel (listed.setIfInBounds i true)) a

theorem wpAny_of_hold {Q : Act → Prop} {Q' : Exit → Act → World → Prop} (hQ : ∀ a W, Q a → S W → Q' .normal a W) : ∀ (fuel : Nat) (listed : Array Bool) (a : Act) (w : World), S w →
    wpAnyV P md ops S Q fuel listed a → wpAny P md ops Q' fuel listed a w
  | 0, _, _, w, hS, h => ⟨h.1, hQ _ _ h.2 hS⟩
  | fuel + 1, _, _, w, hS, h => ⟨fun h0 => hQ _ _ (h.1 h0) hS, fun i hi => wpOp_of_hOp hS (fun a' W hK hSW => wpAny_of_hold hQ fuel _ a' W hSW hK) (h.2 i hi)⟩

theorem YieldsH.hOp {i : Nat} {o : Oper} {v : Value} {a : Act} (hi : ops[i]? = some o) (hy : YieldsH P ops S o v a) {K : Act → Prop} (h : K (a.put o.dst v)) : hOp P ops S i K a :=
  (hOp_some hi).2 ⟨v, hy, h⟩

theorem wpAnyV_first {Q : Act → Prop} {i : Nat} {oi : Oper} {v : Value} (hi : ops[i]? = some oi) (hsel : ∀ (j : Nat) (o : Oper) cs b, ops[j]? = some o → o.op ≠ .select cs b) :
    ∀ (fuel : Nat) (listed : Array Bool) (a : Act),
      (∀ j oj, ops[j]? = some oj → j ≠ i → listed.getD j true = false → (∀ e ∈ oj.after, Region.binds md e = true → e.on ≠ i) → oi.apart ops oj = true) →
      i ∈ Region.ready md ops listed → YieldsH P ops S oi v a →
      wpAnyV P md ops S Q fuel (listed.setIfInBounds i true) (a.put oi.dst v) → wpAnyV P md ops S Q (fuel + 1) listed a := by
  intro fuel
  induction fuel with
  | zero =>
    intro listed a _ hr hy H
    refine ⟨fun h => (by rw [h] at hr; cases hr), fun j hj => ?_⟩
    by_cases hji : j = i
    · subst hji; exact hy.hOp hi H
    · have := ready_mono hj hji
      rw [H.1] at this
      cases this
  | succ fuel ih =>
    intro listed a hfree hr hy H
    refine ⟨fun h => (by rw [h] at hr; cases hr), fun j hj => ?_⟩
    by_cases hji : j = i
    · subst hji; exact hy.hOp hi H
    · have h1 := H.2 j (ready_mono hj hji)
      obtain ⟨hjun, oj, hoj, hall⟩ := mem_ready.1 hj
      have hnot : ∀ e ∈ oj.after, Region.binds md e = true → e.on ≠ i := fun e he hb heq => by
        have h1 := hall e he hb
        have h0 := (mem_ready.1 hr).1
        rw [heq, getD_both h0] at h1
        cases h1
      have h2 := hOp_put hoj (hfree j oj hoj hji hjun hnot) (fun cs b => hsel i oi cs b hi) (fun cs b => hsel j oj cs b hoj) hy h1
      have hfree' : ∀ k ok, ops[k]? = some ok → k ≠ i → (listed.setIfInBounds j true).getD k true = false →
          (∀ e ∈ ok.after, Region.binds md e = true → e.on ≠ i) → oi.apart ops ok = true := fun k ok hk hki hun hno => by
        refine hfree k ok hk hki ?_ hno
        by_cases hjk : j = k
        · subst hjk; exact hjun
        · rw [getD_set_ne true hjk] at hun; exact hun
      refine hOp_mono (fun a' h3 => ih (listed.setIfInBounds j true) a' hfree' (ready_mono hr (Ne.symm hji)) h3.1 ?_) h2
      rw [Array.setIfInBounds_comm _ _ hji]
      exact h3.2

theorem wpAnyV_lex {Q : Act → Prop} (hs : Region.noSelect ops = true) : ∀ (l : List Oper) (k : Nat) (listed : Array Bool) (a : Act), (∀ j, l[j]? = ops[k + j]?) →
    Region.lexFrom md ops l.length k listed = true → wpHold P ops S Q l a → wpAnyV P md ops S Q l.length listed a
  | [], _, _, _, _, hB, h => ⟨by simpa [Region.lexFrom] using hB, h⟩
  | o :: l, k, listed, a, hl, hB, h => by
    have h0 : ops[k]? = some o := by simpa using (hl 0).symm
    simp only [List.length_cons, Region.lexFrom, Bool.and_eq_true] at hB
    obtain ⟨⟨hr, hf⟩, hB'⟩ := hB
    obtain ⟨v, hy, hK⟩ := h
    exact wpAnyV_first h0 (Region.noSelect_spec hs) l.length listed a (Region.free_spec h0 hf) (by simpa using hr) hy
      (wpAnyV_lex hs l (k + 1) _ _ (fun j => by have := hl (j + 1); simpa [Nat.add_assoc, Nat.add_comm 1 j] using this) hB' hK)

/-- THE LAW: all of the region. -/
theorem region_hold {id : Nat} {Q : Exit → Act → World → Prop} {a : Act} {w : World} {l : List Oper} (S : World → Prop) (hm : P.follows .mixedOrders = true) (hB : Region.lexB .any l.toArray = true) (hS : S w.drew)
    (h : wpHold P l.toArray S (fun a' => ∀ W, S W → Q .normal a' W) l a) : (Code.region id l.toArray true).wp P Q a w := by
  simp only [Region.lexB, Bool.and_eq_true] at hB
  refine wp_region_any hm (wpAny_of_hold (S := S) (Q := fun a' => ∀ W, S W → Q .normal a' W) (fun _ W h hW => h W hW) _ _ _ _ hS ?_)
  have := wpAnyV_lex (md := .any) hB.1 l 0 (Array.replicate l.toArray.size false) a (by simp) (by simpa using hB.2) h
  simpa using this

/-! The tail. -/
def wpAnyVL (P : Program) (md : Region.Mode) (ops : Array Oper) (S : World → Prop) (n : Nat) (L : Array Bool → Act → Prop) : Nat → Array Bool → Act → Prop
  | 0, listed, a => L listed a
  | f + 1, listed, a =>
    Region.ready md ops listed ≠ [] ∧ ∀ i ∈ Region.ready md ops listed, i < n ∧ hOp P ops S i (wpAnyVL P md ops S n L f (listed.setIfInBounds i true)) a

theorem wpAny_of_headV {n g : Nat} {L : Array Bool → Act → Prop} {Q' : Exit → Act → World → Prop} (hL : ∀ listed a W, L listed a → S W → wpAny P md ops Q' g listed a W) :
    ∀ (f : Nat) (listed : Array Bool) (a : Act) (w : World), S w → wpAnyVL P md ops S n L f listed a → wpAny P md ops Q' (f + g) listed a w
  | 0, listed, a, w, hS, h => by rw [Nat.zero_add]; exact hL _ _ _ h hS
  | f + 1, listed, a, w, hS, h => by
    rw [show f + 1 + g = (f + g) + 1 by omega]
    exact ⟨fun h0 => absurd h0 h.1, fun i hi => wpOp_of_hOp hS (fun a' W h' hW => wpAny_of_headV hL f _ a' W hW h') (h.2 i hi).2⟩

theorem wpAnyVL_first {n i : Nat} {oi : Oper} {v : Value} {L : Array Bool → Act → Prop} (hi : ops[i]? = some oi) (hsel : ∀ (j : Nat) (o : Oper) cs b, ops[j]? = some o → o.op ≠ .select cs b)
    (hs : Region.sinkB md ops n = true) (hc : Region.chainB md ops n = true) (hn : n < ops.size) (hin : i < n)
    (hdone : ∀ listed a, L listed a → ∀ j ∈ Region.ready md ops listed, n ≤ j) :
    ∀ (f : Nat) (listed : Array Bool) (a : Act), HeadInv md ops n listed →
      (∀ j oj, ops[j]? = some oj → j ≠ i → listed.getD j true = false → (∀ e ∈ oj.after, Region.binds md e = true → e.on ≠ i) → oi.apart ops oj = true) →
      i ∈ Region.ready md ops listed → YieldsH P ops S oi v a →
      wpAnyVL P md ops S n L f (listed.setIfInBounds i true) (a.put oi.dst v) → wpAnyVL P md ops S n L (f + 1) listed a := by
  intro f
  induction f with
  | zero =>
    intro listed a inv _ hr hy H
    have hun := (mem_ready.1 hr).1
    refine ⟨fun h => (by rw [h] at hr; cases hr), fun j hj => ?_⟩
    have hjn : j < n := by
      rcases Nat.lt_or_ge j n with h | h
      · exact h
      · exact absurd hj (tail_waits hs hc hn inv _ i rfl hin hun j h)
    refine ⟨hjn, ?_⟩
    by_cases hji : j = i
    · subst hji; exact hy.hOp hi H
    · have := hdone _ _ H j (ready_mono hj hji)
      omega
  | succ f ih =>
    intro listed a inv hfree hr hy H
    have hun := (mem_ready.1 hr).1
    refine ⟨fun h => (by rw [h] at hr; cases hr), fun j hj => ?_⟩
    have hjn : j < n := by
      rcases Nat.lt_or_ge j n with h | h
      · exact h
      · exact absurd hj (tail_waits hs hc hn inv _ i rfl hin hun j h)
    refine ⟨hjn, ?_⟩
    by_cases hji : j = i
    · subst hji; exact hy.hOp hi H
    · have h1 := (H.2 j (ready_mono hj hji)).2
      obtain ⟨hjun, oj, hoj, hall⟩ := mem_ready.1 hj
      have hnot : ∀ e ∈ oj.after, Region.binds md e = true → e.on ≠ i := fun e he hb heq => by
        have h1 := hall e he hb
        rw [heq, getD_both hun] at h1
        cases h1
      have h2 := hOp_put hoj (hfree j oj hoj hji hjun hnot) (fun cs b => hsel i oi cs b hi) (fun cs b => hsel j oj cs b hoj) hy h1
      have hfree' : ∀ k ok, ops[k]? = some ok → k ≠ i → (listed.setIfInBounds j true).getD k true = false →
          (∀ e ∈ ok.after, Region.binds md e = true → e.on ≠ i) → oi.apart ops ok = true := fun k ok hk hki hun hno => by
        refine hfree k ok hk hki ?_ hno
        by_cases hjk : j = k
        · subst hjk; exact hjun
        · rw [getD_set_ne true hjk] at hun; exact hun
      refine hOp_mono (fun a' h3 => ih (listed.setIfInBounds j true) a' (inv.set hj hjn) hfree' (ready_mono hr (Ne.symm hji)) h3.1 ?_) h2
      rw [Array.setIfInBounds_comm _ _ hji]
      exact h3.2

theorem wpAnyVL_lex {n g : Nat} {Lq : Act → Prop} (hsel : Region.noSelect ops = true) (hs : Region.sinkB md ops n = true) (hc : Region.chainB md ops n = true) (hn : n < ops.size) :
    ∀ (l : List Oper) (k : Nat) (listed : Array Bool) (a : Act), (∀ j, j < l.length → l[j]? = ops[k + j]?) → k + l.length = n → HeadInv md ops n listed →
    Region.lexHead md ops g l.length k listed = true → wpHold P ops S Lq l a →
    wpAnyVL P md ops S n (fun listed' a' => Region.seqB md ops g n listed' = true ∧ Lq a') l.length listed a
  | [], k, listed, a, _, hk, _, hB, h => by
    have : k = n := by simpa using hk
    subst this
    exact ⟨by simpa [Region.lexHead] using hB, h⟩
  | o :: l, k, listed, a, hl, hk, inv, hB, h => by
    have h0 : ops[k]? = some o := by simpa using (hl 0 (by simp)).symm
    simp only [List.length_cons, Region.lexHead, Bool.and_eq_true] at hB
    obtain ⟨⟨hr, hf⟩, hB'⟩ := hB
    have hkn : k < n := by simp only [List.length_cons] at hk; omega
    have hr' : k ∈ Region.ready md ops listed := by simpa using hr
    obtain ⟨v, hy, hK⟩ := h
    exact wpAnyVL_first h0 (Region.noSelect_spec hsel) hs hc hn hkn (fun listed' a' hL => seqB_ready hL.1) l.length listed a inv (Region.free_spec h0 hf) hr' hy
      (wpAnyVL_lex hsel hs hc hn l (k + 1) _ _ (fun j hj => by have := hl (j + 1) (by simp; omega); simpa [Nat.add_assoc, Nat.add_comm 1 j] using this) (by simp only [List.length_cons] at hk; omega) (inv.set hr' hkn) hB' hK)

/-- THE LAW with a tail: the first n so, the rest in one forced order. -/
theorem region_hold_tail {id : Nat} {Q : Exit → Act → World → Prop} {a : Act} {w : World} {l : List Oper} (S : World → Prop) (n : Nat) (hm : P.follows .mixedOrders = true) (hB : Region.lexTailB .any l.toArray n = true) (hS : S w.drew)
    (h : wpHold P l.toArray S (fun a' => ∀ W, S W → wpList P l.toArray Q (l.drop n) a' W) (l.take n) a) : (Code.region id l.toArray true).wp P Q a w := by
  simp only [Region.lexTailB, Bool.and_eq_true, decide_eq_true_eq] at hB
  obtain ⟨⟨⟨⟨hsel, hn⟩, hs⟩, hc⟩, hlex⟩ := hB
  have hn' : n < l.length := by simpa using hn
  have htl : (l.take n).length = n := by simp; omega
  have hdl : (l.drop n).length = l.toArray.size - n := by simp
  have inv0 : HeadInv .any l.toArray n (Array.replicate l.toArray.size false) :=
    ⟨by simp, fun j oj _ hl => (by rw [getD_replicate_false] at hl; cases hl), fun t _ ht => getD_in (by simpa using ht) (getD_replicate_false _ _)⟩
  have H := wpAnyVL_lex (md := .any) (g := l.toArray.size - n) hsel hs hc hn (l.take n) 0 _ a (fun j hj => by
    have hj' : j < n := by rw [htl] at hj; exact hj
    simp [hj']) (by simpa using htl) inv0 (by rw [htl]; exact hlex) h
  refine wp_region_any hm ?_
  have := wpAny_of_headV (Q' := Q) (g := l.toArray.size - n) (fun listed a' W hL hW => by
    have := wpAny_of_seq (md := .any) (Q' := Q) (l.drop n) n listed a' W (fun j => by simp [List.getElem?_drop]) (by rw [hdl]; exact hL.1) (hL.2 W hW)
    rwa [hdl] at this) _ _ _ _ hS H
  rw [htl, show n + (l.toArray.size - n) = l.toArray.size by omega] at this
  exact this
end


/-! By hand: an operation taken first, an alloc, a store, in whatever order. -/
theorem yields_row {P : Program} {ops : Array Oper} {S : World → Prop} {a : Act} {o : Oper} (hw : Region.wanted o (yielded ops a.tmps) = true) (ty : TypeId) (x : Operand) (ho : o.op = .load ty x) (g : Nat) (hx : a.eval x = .pointer (some ⟨g, 0, none⟩)) (t : TypeId) (cs : Array Value) (d : TypeDesc)
    (hr : ∀ W, S W → Row W g t cs) (hu : P.underlying ty = some d) (hd : (match d with | .struct _ | .array _ _ => true | _ => false) = true) (hi : (P.info? ty).map (·.size) = some cs.size) : YieldsIf P ops S o (.agg cs) a :=
  .inl ⟨hw, fun W hW => by simp only [execOp, ho, hx, Instr.loadAt, Instr.sureAddr, Sem.run_bind, Sem.run_pure, Result.andThen_ok, run_loadVar_row W g t ty cs (0, 0) d (hr W hW) hu hd hi]⟩
theorem yields_val {P : Program} {ops : Array Oper} {S : World → Prop} {a : Act} {o : Oper} (hw : Region.wanted o (yielded ops a.tmps) = true) {v : Value} (hv : ∀ W, S W → (execOp a.eval o).run P W = .ok (.value v) W) : YieldsIf P ops S o v a := .inl ⟨hw, hv⟩
theorem drop_at {l : List Oper} {i : Nat} {o : Oper} {rest : List Oper} (ho : l.drop i = o :: rest) : l.toArray[i]? = some o := by
  have := congrArg List.head? ho
  rw [List.head?_drop] at this; simpa using this
theorem takeH {P : Program} {md : Region.Mode} {l : List Oper} {Q : Exit → Act → World → Prop} {S : World → Prop} {i : Nat} {oi : Oper} {rest : List Oper} {v : Value} {fuel : Nat} {listed : Array Bool} {a : Act} {w : World} (ho : l.drop i = oi :: rest)
    (hs : Region.noSelect l.toArray = true) (hf : Region.free md l.toArray listed i = true) (hr : (Region.ready md l.toArray listed).contains i = true)
    (hQ : ∀ c a w, Q (.panic c) (a.put oi.dst v) w → Q (.panic c) a w) (hy : YieldsIf P l.toArray S oi v a) (hS : S w)
    (h : wpAnyH P md l.toArray Q S fuel (listed.setIfInBounds i true) (a.put oi.dst v) w) : wpAnyH P md l.toArray Q S (fuel + 1) listed a w :=
  wpAnyH_take (drop_at ho) hs hf hr hQ hy hS h
theorem wpOp_plain {P : Program} {l : List Oper} {Q : Exit → Act → World → Prop} {i : Nat} {o : Oper} {rest : List Oper} {K : Act → World → Prop} {a : Act} {w : World} (ho : l.drop i = o :: rest) (hg : o.guard = none) (h : ∀ K' : Act → World → Prop, (∀ a w, K a w → K' a w) → o.wp P a w K' Q) : wpOp P l.toArray Q i K a w := by
  have ho' := drop_at ho
  unfold wpOp; simp only [ho']; rw [if_pos (by simp [Region.wanted, hg])]; exact .inl (h K fun _ _ h => h)
theorem wp_store_gen {P : Program} {o : Oper} {a : Act} {w : World} {K : Act → World → Prop} {Q : Exit → Act → World → Prop} (ty : TypeId) (p x : Operand) (ho : o.op = .store ty p x) (g : Nat) (cells : Array Value) (hp : a.eval p = .pointer (some ⟨g, 0, none⟩)) (hx : a.eval x = .agg cells)
    (t : TypeId) (cur : Array Value) (hg : Row w g t cur) (hi : (P.info? ty).map (·.size) = some cells.size) (hs : cur.size = cells.size) (h1 : cells.all (·.oneCell') = true)
    (h : ∀ w', Row w' g t cells → Only g w w' → K (a.put o.dst undef) w') : o.wp P a w K Q := by
  have := wp_store_row (P := P) (o := o) (a := a) (w := w) (K := K) (Q := Q) ty p x ho g cells hp hx t cur hg hi hs h1 (h _ (hg.setRow cells) (only_setRow _ _ _))
  exact this
theorem wp_call_gen {P : Program} {o : Oper} {a : Act} {w w1 : World} {K : Act → World → Prop} {Q : Exit → Act → World → Prop} (f : FuncId) (args : Array Value) (he : (execOp a.eval o).run P w = .ok (.enter f args) w1)
    (hc : Calls P f args w1 fun e w' => ∃ v, e = .returned v ∧ K (a.put o.dst v) w') : o.wp P a w K Q := by
  unfold Oper.wp; rw [he]; simp only [Oper.upon]
  exact hc.mono fun e w' ⟨v, h1, h2⟩ => by subst h1; exact h2
theorem wp_res_gen {P : Program} {o : Oper} {a : Act} {w w1 : World} {K : Act → World → Prop} {Q : Exit → Act → World → Prop} (v : Value) (he : (execOp a.eval o).run P w = .ok (.value v) w1) (h : K (a.put o.dst v) w1) : o.wp P a w K Q := by
  unfold Oper.wp; rw [he]; exact h

/-! Two arrays of words held against each other. -/
theorem all_upto (xs ys : List (BitVec 32)) (h : xs.length = ys.length) : ((List.range' 0 xs.length 1).all fun i => decide (wd (xs.getD i 0) = wd (ys.getD i 0))) = decide (xs = ys) := by
  rw [Bool.eq_iff_iff, List.all_eq_true]
  simp only [decide_eq_true_eq, List.mem_range'_1, Nat.zero_le, true_and, Nat.zero_add]
  constructor
  · intro hh
    refine List.ext_getElem h fun i h1 h2 => ?_
    have := wd_inj (hh i h1)
    simpa [List.getD, List.getElem?_eq_getElem h1, List.getElem?_eq_getElem h2] using this
  · rintro rfl i _; rfl

theorem run_equalIn_words {P : Program} (w : World) (t e : TypeId) (n : Nat) (ht : P.underlying t = some (.array n e)) (he : P.underlying e = some (.int .u32)) (hsz : ∀ w, (sizeOf e).run P w = .ok 1 w)
    (xs ys : List (BitVec 32)) (hx : xs.length = n) (hy : ys.length = n) : (Op.equalIn 10000 t (.agg (wds xs).toArray) (.agg (wds ys).toArray)).run P w = .ok (decide (xs = ys)) w := by
  show (Op.equalIn (9998 + 2) t (.agg (wds xs).toArray) (.agg (wds ys).toArray)).run P w = .ok (decide (xs = ys)) w
  rw [← all_upto xs ys (hx.trans hy.symm), hx, Op.equalIn]
  simp only [Sem.run_bind, run_underlying ht, Result.andThen_ok, hsz, Std.Legacy.Range.forIn_eq_forIn_range', Std.Legacy.Range.size, Nat.sub_zero, Nat.add_sub_cancel, Nat.div_one]
  have hl : ∀ i ∈ List.range' 0 n 1, i < n := fun i hi => by simpa using (List.mem_range'_1.1 hi).2
  generalize List.range' 0 n 1 = l at hl ⊢
  induction l with
  | nil => simp
  | cons i l ih =>
    have hi : i < n := hl i (by simp)
    have px : ∀ zs : List (BitVec 32), zs.length = n → (part e (wds zs).toArray (i * 1)).run P w = .ok (.int .u32 (wd (zs.getD i 0))) w := fun zs hz => by
      simp [part, isAgg, run_underlying he, wds, List.getD, List.getElem?_eq_getElem (show i < zs.length by omega)]
    have pe : (Op.equalIn (9998 + 1) e (.int .u32 (wd (xs.getD i 0))) (.int .u32 (wd (ys.getD i 0)))).run P w = .ok (decide (wd (xs.getD i 0) = wd (ys.getD i 0))) w := by
      rw [run_equalIn_int w 9998 e .u32 .u32 _ _ he]; rfl
    simp only [List.forIn_cons, Sem.run_bind, px xs hx, px ys hy, pe, Result.andThen_ok, List.all_cons]
    cases hb : decide (wd (xs.getD i 0) = wd (ys.getD i 0))
    · simp
    · simp only [Bool.not_true, Bool.false_eq_true, if_false, Sem.run_pure, Result.andThen_ok, Bool.true_and]
      exact ih fun j hj => hl j (by simp [hj])

end Go.Proofs.Ytkdcelnlhhodlaa
