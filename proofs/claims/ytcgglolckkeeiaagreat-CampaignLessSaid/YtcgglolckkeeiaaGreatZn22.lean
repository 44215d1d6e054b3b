/- Lemmas for CnAll. -/
import Derived.Test.YtcgglolckkeeiaaGreatZn13
import Derived.Test.YtcgglolckkeeiaaGreatZn21
import Derived.Test.YtcgglolckkeeiaaGreatZn20
import Derived.Test.YtcgglolckkeeiaaGreatZn10
import Derived.Test.YtcgglolckkeeiaaGreatZn15
import Derived.OrdersHeld
namespace Go.Proofs.YtcgglolckkeeiaaGreat
set_option linter.unusedVariables false
open Go.RowKit
section
variable {P : Program} {ops : Array Oper} {Q : Exit → Act → World → Prop} {md : Region.Mode} {S : World → Prop} {last : Nat}
def YieldsC (P : Program) (ops : Array Oper) (S : World → Prop) (o : Oper) (v : Value) (a : Act) : Prop :=
 (Region.wanted o (yielded ops a.tmps) = true ∧ ∀ w, S w → (execOp a.eval o).run P w = .ok (.value v) w ∨ ∃ f args, (execOp a.eval o).run P w = .ok (.enter f args) w ∧ Calls P f args w fun e w' => e = .returned v ∧ w' = w) ∨
 (Region.wanted o (yielded ops a.tmps) = false ∧ v = undef)
theorem yieldsC_of {o : Oper} {v : Value} {a : Act} (h : YieldsIf P ops S o v a) : YieldsC P ops S o v a := h.imp (fun ⟨hw, hv⟩ => ⟨hw, fun w hS => .inl (hv w hS)⟩) id
theorem YieldsC.wpOp {i : Nat} {o : Oper} {v : Value} {a : Act} (hi : ops[i]? = some o) (hy : YieldsC P ops S o v a) {K : Act → World → Prop} {w : World} (hS : S w) (h : K (a.put o.dst v) w) : wpOp P ops Q i K a w := by
 unfold Go.wpOp
 simp only [hi]
 rcases hy with ⟨hw, hv⟩ | ⟨hw, rfl⟩
 · rw [if_pos hw]
   refine .inl ?_
   unfold Oper.wp
   rcases hv w hS with hv | ⟨f, args, hv, hc⟩
   · rw [hv]; exact h
   · rw [hv]
     refine Calls.mono hc fun e w' he => ?_
     obtain ⟨rfl, rfl⟩ := he
     exact h
 · rw [if_neg (by rw [hw]; simp)]; exact h
theorem YieldsC.of_same {o : Oper} {v : Value} {a a' : Act} (hy : YieldsC P ops S o v a) (he : execOp a'.eval o = execOp a.eval o) (hw : Region.wanted o (yielded ops a'.tmps) = Region.wanted o (yielded ops a.tmps)) : YieldsC P ops S o v a' := by
 unfold YieldsC at *
 rw [he, hw]
 exact hy
theorem wpOp_putC {j : Nat} {oi oj : Oper} {v : Value} (hj : ops[j]? = some oj) (hap : oi.apart ops oj = true)
 (hsi : ∀ cs b, oi.op ≠ .select cs b) (hsj : ∀ cs b, oj.op ≠ .select cs b)
 (hQ : ∀ c a w, Q (.panic c) (a.put oi.dst v) w → Q (.panic c) a w) {K : Act → World → Prop} {a : Act} {w : World}
 (hy : YieldsC P ops S oi v a) (h : wpOp P ops Q j K (a.put oi.dst v) w) :
 wpOp P ops Q j (fun a' w' => YieldsC P ops S oi v a' ∧ K (a'.put oi.dst v) w') a w := by
 obtain ⟨h1, h2, h3⟩ := Oper.apart_spec hap
 have keep : ∀ (a : Act), YieldsC P ops S oi v a → ∀ u, YieldsC P ops S oi v (a.put oj.dst u) := fun a hy u =>
  hy.of_same (execOp_put oi hsi a oj.dst u h3) (wanted_put oi a oj.dst u h3)
 have keepD : ∀ d, YieldsC P ops S oi v { a with defers := d :: a.defers } := fun d => hy.of_same rfl rfl
 unfold wpOp at *
 simp only [hj] at *
 rw [wanted_put oj a oi.dst v h1] at h
 split
 · rename_i hw
   simp only [hw, if_true] at h
   rcases h with h | ⟨hasks, hlets⟩
   case inr => exact .inr ⟨by unfold Oper.asks at *; rw [execOp_put oj hsj a oi.dst v h1] at hasks; exact hasks, hlets⟩
   refine .inl ?_
   unfold Oper.wp at *
   rw [execOp_put oj hsj a oi.dst v h1] at h
   generalize (execOp a.eval oj).run P w = r at *
   cases r with
   | ok n w' =>
    cases n <;> simp only [Oper.upon] at h ⊢
    case value u => exact ⟨keep a hy u, by rw [← Act.put_comm a v u h2]; exact h⟩
    case skip => exact ⟨keep a hy _, by rw [← Act.put_comm a v undef h2]; exact h⟩
    case defer d =>
     refine ⟨keep _ (keepD d) _, ?_⟩
     rw [← Act.put_comm _ v undef h2, ← Act.put_defers]
     exact h
    case enter f args =>
     refine Calls.mono h fun e w'' he => ?_
     cases e with
     | returned u => exact ⟨keep a hy u, by rw [← Act.put_comm a v u h2]; exact he⟩
     | panicked c => exact hQ _ _ _ he
     | outgrown => exact he
    case row row args => exact Rows.mono h fun u w'' he => ⟨keep a hy u, by rw [← Act.put_comm a v u h2]; exact he⟩
   | halt x w' =>
    cases x <;> simp only [Oper.upon] at h ⊢
    case panic u => exact hQ _ _ _ h
 · rename_i hw
   simp only [hw] at h
   exact ⟨keep a hy _, by rw [← Act.put_comm a v undef h2]; exact h⟩
def wpAnyL (P : Program) (md : Region.Mode) (ops : Array Oper) (Q : Exit → Act → World → Prop) (S : World → Prop) (last : Nat) : Nat → Array Bool → Act → World → Prop
 | 0, listed, a, w => Region.ready md ops listed = [] ∧ Q .normal a w
 | fuel + 1, listed, a, w =>
  (Region.ready md ops listed = [] → Q .normal a w) ∧
  ∀ i ∈ Region.ready md ops listed, wpOp P ops Q i (fun a' w' => (i ≠ last → S w') ∧ wpAnyL P md ops Q S last fuel (listed.setIfInBounds i true) a' w') a w
theorem wpAny_of_L : ∀ (fuel : Nat) (listed : Array Bool) (a : Act) (w : World), wpAnyL P md ops Q S last fuel listed a w → wpAny P md ops Q fuel listed a w
 | 0, _, _, _, h => h
 | fuel + 1, _, _, _, h => ⟨h.1, fun i hi => wpOp_mono (fun a' w' h' => wpAny_of_L fuel _ a' w' h'.2) (h.2 i hi)⟩
theorem wpAnyL_first {i : Nat} {oi : Oper} {v : Value} (hi : ops[i]? = some oi) (hsel : ∀ (j : Nat) (o : Oper) cs b, ops[j]? = some o → o.op ≠ .select cs b)
 (hil : i ≠ last) (hdep : ∀ o, ops[last]? = some o → ∃ e ∈ o.after, Region.binds md e = true ∧ e.on = i)
 (hQ : ∀ c a w, Q (.panic c) (a.put oi.dst v) w → Q (.panic c) a w) :
 ∀ (fuel : Nat) (listed : Array Bool) (a : Act) (w : World),
  (∀ j oj, ops[j]? = some oj → j ≠ i → listed.getD j true = false → (∀ e ∈ oj.after, Region.binds md e = true → e.on ≠ i) → oi.apart ops oj = true) →
  i ∈ Region.ready md ops listed → YieldsC P ops S oi v a → S w →
  wpAnyL P md ops Q S last fuel (listed.setIfInBounds i true) (a.put oi.dst v) w → wpAnyL P md ops Q S last (fuel + 1) listed a w := by
 intro fuel
 induction fuel with
 | zero =>
  intro listed a w _ hr hy hS H
  refine ⟨fun h => (by rw [h] at hr; cases hr), fun j hj => ?_⟩
  by_cases hji : j = i
  · subst hji; exact hy.wpOp hi hS ⟨fun _ => hS, H⟩
  · have := ready_mono hj hji
    rw [H.1] at this
    cases this
 | succ fuel ih =>
  intro listed a w hfree hr hy hS H
  refine ⟨fun h => (by rw [h] at hr; cases hr), fun j hj => ?_⟩
  by_cases hji : j = i
  · subst hji; exact hy.wpOp hi hS ⟨fun _ => hS, H⟩
  · have h1 := H.2 j (ready_mono hj hji)
    obtain ⟨hjun, oj, hoj, hall⟩ := mem_ready.1 hj
    have hnot : ∀ e ∈ oj.after, Region.binds md e = true → e.on ≠ i := fun e he hb heq => by
     have h1 := hall e he hb
     have h0 := (mem_ready.1 hr).1
     rw [heq] at h1
     rcases Nat.lt_or_ge i listed.size with h' | h'
     · simp [h'] at h0 h1; rw [h0] at h1; cases h1
     · simp [Array.getElem?_eq_none h'] at h1
    have hjl : j ≠ last := fun e => by
     subst e
     obtain ⟨e, he, hb, heq⟩ := hdep oj hoj
     exact hnot e he hb heq
    have h2 := wpOp_putC hoj (hfree j oj hoj hji hjun hnot) (fun cs b => hsel i oi cs b hi) (fun cs b => hsel j oj cs b hoj) hQ hy h1
    have hfree' : ∀ k ok, ops[k]? = some ok → k ≠ i → (listed.setIfInBounds j true).getD k true = false →
     (∀ e ∈ ok.after, Region.binds md e = true → e.on ≠ i) → oi.apart ops ok = true := fun k ok hk hki hun hno => by
     refine hfree k ok hk hki ?_ hno
     by_cases hjk : j = k
     · subst hjk; exact hjun
     · rw [getD_set_ne true hjk] at hun; exact hun
    refine wpOp_mono (fun a' w' h3 => ⟨fun _ => h3.2.1 hjl, ih (listed.setIfInBounds j true) a' w' hfree' (ready_mono hr (Ne.symm hji)) h3.1 (h3.2.1 hjl) ?_⟩) h2
    rw [Array.setIfInBounds_comm _ _ hji]
    exact h3.2.2
theorem wpAnyL_all {rs : List Nat} {fuel : Nat} {listed : Array Bool} {a : Act} {w : World} (hr : Region.ready md ops listed = rs) (hne : rs ≠ [])
 (h : ∀ i ∈ rs, wpOp P ops Q i (fun a' w' => (i ≠ last → S w') ∧ wpAnyL P md ops Q S last fuel (listed.setIfInBounds i true) a' w') a w) : wpAnyL P md ops Q S last (fuel + 1) listed a w :=
 ⟨fun h0 => absurd (hr ▸ h0) hne, hr ▸ h⟩
theorem wpAnyL_done {listed : Array Bool} {a : Act} {w : World} (hr : Region.ready md ops listed = []) (h : Q .normal a w) : ∀ fuel, wpAnyL P md ops Q S last fuel listed a w
 | 0 => ⟨hr, h⟩
 | _ + 1 => ⟨fun _ => h, by rw [hr]; simp⟩
end
def leansB (md : Region.Mode) (ops : Array Oper) (last i : Nat) : Bool := match ops[last]? with | some o => o.after.any (fun e => Region.binds md e && e.on == i) && (i != last) | none => false
theorem takeL {P : Program} {md : Region.Mode} {l : List Oper} {Q : Exit → Act → World → Prop} {S : World → Prop} {last i : Nat} {oi : Oper} {rest : List Oper} {v : Value} {fuel : Nat} {listed : Array Bool} {a : Act} {w : World} (ho : l.drop i = oi :: rest)
 (hs : Region.noSelect l.toArray = true) (hf : Region.free md l.toArray listed i = true) (hr : (Region.ready md l.toArray listed).contains i = true) (hd : leansB md l.toArray last i = true)
 (hQ : ∀ c a w, Q (.panic c) (a.put oi.dst v) w → Q (.panic c) a w) (hy : YieldsC P l.toArray S oi v a) (hS : S w)
 (h : wpAnyL P md l.toArray Q S last fuel (listed.setIfInBounds i true) (a.put oi.dst v) w) : wpAnyL P md l.toArray Q S last (fuel + 1) listed a w := by
 have hd1 : i ≠ last := fun e => by
  subst e
  unfold leansB at hd
  split at hd
  · simp at hd
  · cases hd
 refine wpAnyL_first (drop_at ho) (Region.noSelect_spec hs) hd1 (fun o hol => ?_) hQ fuel listed a w (Region.free_spec (drop_at ho) hf) (by simpa using hr) hy hS h
 unfold leansB at hd
 rw [hol] at hd
 simp only [Bool.and_eq_true] at hd
 obtain ⟨n, hn, hb⟩ := Array.any_eq_true.1 hd.1
 simp only [Bool.and_eq_true, beq_iff_eq] at hb
 exact ⟨_, Array.getElem_mem hn, hb.1, hb.2⟩
theorem region_last {P : Program} {last id : Nat} {Q : Exit → Act → World → Prop} {a : Act} {w : World} {l : List Oper} {S : World → Prop} (hm : P.follows .mixedOrders = true) (h : wpAnyL P .any l.toArray Q S last l.toArray.size (Array.replicate l.toArray.size false) a w.drew) : (Code.region id l.toArray true).wp P Q a w :=
 wp_region_any hm (wpAny_of_L _ _ _ _ h)
end Go.Proofs.YtcgglolckkeeiaaGreat
namespace Go.Proofs.YtcgglolckkeeiaaGreat
set_option linter.unusedVariables false
open Go.RowKit Go.Deep
theorem zero_mt (w : World) : (zeroValue 47).run Tryz.prog w = .ok (.agg #[.slice none 0 0, .int .i64 0, .int .i64 0, .int .i64 0, .int .i64 0, .int .i64 0, .int .i64 0, .string ByteArray.empty]) w := by kernel_rfl
end Go.Proofs.YtcgglolckkeeiaaGreat
namespace Go.Proofs.YtcgglolckkeeiaaGreat
set_option linter.unusedVariables false
open Go.RowKit Go.Deep
attribute [local go_sem] Oper.semAt_some
theorem MtOk.kx {X : Nat → Prop} {W W' : World} {x : MtV} (h : MtOk W x) (k : KpX X W W') (s : ints x.m.d.path ≠ [] → ∀ ad, x.A = some ad → ¬ X ad.block) : MtOk W' x := ⟨k.rd h.rd s, h.len, h.nil, h.dig⟩
end Go.Proofs.YtcgglolckkeeiaaGreat
namespace Go.Proofs.YtcgglolckkeeiaaGreat
set_option linter.unusedVariables false
open Go.RowKit Go.Deep
attribute [local go_sem] Oper.semAt_some
theorem zero_cp (w : World) : (zeroValue 31).run Tryz.prog w = .ok (.agg #[.int .i64 0, .slice none 0 0, .slice none 0 0, .slice none 0 0, .int .i64 0, .slice none 0 0, .int .i64 0, .int .i64 0, .int .i64 0]) w := by kernel_rfl
end Go.Proofs.YtcgglolckkeeiaaGreat
namespace Go.Proofs.YtcgglolckkeeiaaGreat
set_option linter.unusedVariables false
open Go.RowKit Go.Deep
def sameS (a b : CpV) : Prop := sameP a.p b.p = true ∧ a.testsL = b.testsL ∧ a.fuel = b.fuel
def cp0 : CpV := ⟨⟨0, none, 0, [], none, 0, []⟩, none, 0, [], 0, none, 0, [], ⟨0, 0, 0⟩⟩
structure Cd where
 params : Int
 V : List Int
 body : List Nd
 tests : List (List Int)
 fuel : Int
 muts : List Mt
 sc : Sc
def CpV.data (c : CpV) : Cd := ⟨c.p.params, c.p.V, c.p.body, c.testsL, c.fuel, c.muts, c.sc⟩
def mergeD (a b : Cd) : Cd := { a with muts := mergeM a.muts b.muts, sc := scoreZ (mergeM a.muts b.muts) }
theorem cp0_ok (w : World) : CpOk w cp0 :=
 ⟨⟨by unfold InI cp0; simp, Nat.le_refl _, by unfold maxLen cp0; simp, fun _ => rfl, Rd.nil _ _, fun t h => by simp [cp0] at h, Nat.le_refl _, by unfold maxLen cp0; simp, fun _ => rfl, Rd.nil _ _, fun t h => by simp [cp0] at h⟩,
  by simp [cp0], by simp [cp0], Rd.nil _ _, fun x h => by simp [cp0] at h, by simp [cp0], fun x h => by simp [cp0] at h, fun _ => rfl, Rd.nil _ _, fun x h => by simp [cp0] at h, by simp [cp0], fun _ => rfl⟩
end Go.Proofs.YtcgglolckkeeiaaGreat
namespace Go.Proofs.YtcgglolckkeeiaaGreat
set_option linter.unusedVariables false
open Go.RowKit Go.Deep
theorem good_same {p q : PgV} (h1 : p.params = q.params) (h2 : p.V = q.V) (h3 : p.body = q.body) {t : Tr} (h : Good p t) : Good q t :=
 ⟨h3 ▸ h.hat, h3 ▸ h.size, by rw [← h1, ← h2]; exact h.vars, h.tag, h2 ▸ h.kind⟩
theorem fine_same {p q : PgV} (h1 : p.params = q.params) (h2 : p.V = q.V) (h3 : p.body = q.body) {t : Tr} (h : Fine p t) : Fine q t :=
 ⟨good_same h1 h2 h3 h.good, h3 ▸ h.len, h3 ▸ h.ar, h.dep⟩
theorem checkP_same {p q : PgV} (h1 : p.params = q.params) (h2 : p.V = q.V) (h3 : p.body = q.body) : checkP p = checkP q := by
 have e : (∃ t, Good p t) ↔ (∃ t, Good q t) := ⟨fun ⟨t, h⟩ => ⟨t, good_same h1 h2 h3 h⟩, fun ⟨t, h⟩ => ⟨t, good_same h1.symm h2.symm h3.symm h⟩⟩
 unfold checkP
 rw [h1, h2, h3]
 by_cases hq : ∃ t, Good q t
 · rw [if_pos hq, if_pos (e.2 hq)]
 · rw [if_neg hq, if_neg (fun h => hq (e.1 h))]
theorem inP_same {p q : PgV} (h1 : p.params = q.params) (h2 : p.V = q.V) (h3 : p.body = q.body) (d : Dl) : inP p d = inP q d := by
 unfold inP
 exact decide_eq_decide.2 ⟨fun ⟨t, h, h'⟩ => ⟨t, fine_same h1 h2 h3 h, h3 ▸ h'⟩, fun ⟨t, h, h'⟩ => ⟨t, fine_same h1.symm h2.symm h3.symm h, h3.symm ▸ h'⟩⟩
theorem scB_iff {a b : Sc} : scB a b = true ↔ a = b := by
 cases a; cases b
 simp [scB]
structure OkC (c : CpV) : Prop where
 prog : checkP c.p = 0
 suite : suiteZ c.p.params c.testsL c.fuel = 0
 len : c.muts.length ≤ 2000
 rise : riseM c.muts
 inp : ∀ m ∈ c.muts, inP c.p m.d = true
 odd : ∀ m ∈ c.muts, oddZ c.testsL.length m = false
 sc : c.sc = scoreZ c.muts
theorem orL_all : ∀ {l : List Int}, orL l = 0 ↔ ∀ x ∈ l, x = 0
 | [] => by simp [orL]
 | x :: l => by
  rw [orL]
  by_cases h : x = 0
  · rw [if_pos h, orL_all]; simp [h]
  · rw [if_neg h]; simp [h]
theorem unlessZ_iff {b : Bool} {n : Int} (h : n ≠ 0) : unlessZ b n = 0 ↔ b = true := by cases b <;> simp [unlessZ, h]
theorem okC {c : CpV} : cpCheckZ c = 0 ↔ OkC c := by
 unfold cpCheckZ
 rw [orL_all]
 simp only [List.mem_cons, List.not_mem_nil, or_false, forall_eq_or_imp, forall_eq]
 rw [unlessZ_iff (by decide), unlessZ_iff (by decide), unlessZ_iff (by decide), unlessZ_iff (by decide), unlessZ_iff (by decide), unlessZ_iff (by decide)]
 rw [riseB_iff, scB_iff]
 have el : c.muts.length = c.mts.length := by unfold CpV.muts; rw [List.length_map]
 have et : c.testsL.length = c.tests.length := by unfold CpV.testsL; rw [List.length_map]
 constructor
 · rintro ⟨h1, h2, h3, h4, h5, h6, h7⟩
   refine ⟨by simpa using h1, h2, by rw [el]; have := of_decide_eq_true h3; omega, h4, fun m hm => ?_, fun m hm => ?_, h7⟩
   · obtain ⟨x, hx, rfl⟩ := List.mem_map.1 hm
     have := h5
     simp only [Bool.not_eq_true', List.any_eq_false] at this
     simpa using this x hx
   · obtain ⟨x, hx, rfl⟩ := List.mem_map.1 hm
     have := h6
     simp only [Bool.not_eq_true', List.any_eq_false] at this
     rw [et]
     simpa using this x hx
 · intro h
   refine ⟨by simp [h.prog], h.suite, by have := h.len; rw [el] at this; exact decide_eq_true (by omega), h.rise, ?_, ?_, h.sc⟩
   · simp only [Bool.not_eq_true', List.any_eq_false]
     intro x hx
     simp [h.inp x.m (List.mem_map_of_mem hx)]
   · simp only [Bool.not_eq_true', List.any_eq_false]
     intro x hx
     have := h.odd x.m (List.mem_map_of_mem hx)
     rw [et] at this
     simp [this]
theorem data_iff {a b : CpV} : a.data = b.data ↔ (a.p.params = b.p.params ∧ a.p.V = b.p.V ∧ a.p.body = b.p.body) ∧ a.testsL = b.testsL ∧ a.fuel = b.fuel ∧ a.muts = b.muts ∧ a.sc = b.sc := by
 unfold CpV.data
 simp only [Cd.mk.injEq]
 constructor
 · rintro ⟨h1, h2, h3, h4, h5, h6, h7⟩; exact ⟨⟨h1, h2, h3⟩, h4, h5, h6, h7⟩
 · rintro ⟨⟨h1, h2, h3⟩, h4, h5, h6, h7⟩; exact ⟨h1, h2, h3, h4, h5, h6, h7⟩
theorem sameC_iff {a b : CpV} : sameC a b = true ↔ a.data = b.data := by
 rw [data_iff]
 unfold sameC sameP
 simp only [Bool.and_eq_true, decide_eq_true_eq, beq_iff_eq]
 constructor
 · rintro ⟨⟨h1, h2, h3⟩, h4, h5, ⟨h6, h7, h8⟩, h9⟩
   exact ⟨⟨h1, h2, h3⟩, h4, h5, h9, by rw [show a.sc = ⟨a.sc.alive, a.sc.killed, a.sc.timeout⟩ from rfl, h6, h7, h8]⟩
 · rintro ⟨h1, h2, h3, h4, h5⟩
   exact ⟨h1, h2, h3, ⟨by rw [h5], by rw [h5], by rw [h5]⟩, h4⟩
theorem sameS_iff {a b : CpV} : sameS a b ↔ (a.p.params = b.p.params ∧ a.p.V = b.p.V ∧ a.p.body = b.p.body) ∧ a.testsL = b.testsL ∧ a.fuel = b.fuel := by
 unfold sameS sameP
 rw [decide_eq_true_eq]
theorem sameS_symm {a b : CpV} (h : sameS a b) : sameS b a := by
 obtain ⟨⟨h1, h2, h3⟩, h4, h5⟩ := sameS_iff.1 h
 exact sameS_iff.2 ⟨⟨h1.symm, h2.symm, h3.symm⟩, h4.symm, h5.symm⟩
theorem sameS_trans {a b c : CpV} (h : sameS a b) (k : sameS b c) : sameS a c := by
 obtain ⟨⟨h1, h2, h3⟩, h4, h5⟩ := sameS_iff.1 h
 obtain ⟨⟨k1, k2, k3⟩, k4, k5⟩ := sameS_iff.1 k
 exact sameS_iff.2 ⟨⟨h1.trans k1, h2.trans k2, h3.trans k3⟩, h4.trans k4, h5.trans k5⟩
theorem OkC.same {a b : CpV} (h : OkC a) (e : a.data = b.data) : OkC b := by
 obtain ⟨⟨h1, h2, h3⟩, h4, h5, h6, h7⟩ := data_iff.1 e
 exact ⟨(checkP_same h1 h2 h3) ▸ h.prog, by rw [← h1, ← h4, ← h5]; exact h.suite, h6 ▸ h.len, h6 ▸ h.rise, fun m hm => (inP_same h1 h2 h3 m.d) ▸ h.inp m (h6 ▸ hm), fun m hm => by rw [← h4]; exact h.odd m (h6 ▸ hm), by rw [← h6, ← h7]; exact h.sc⟩
structure Joins (a b : CpV) : Prop where
 ha : OkC a
 hb : OkC b
 same : sameS a b
 agree : agreeM a.muts b.muts
theorem Joins.symm {a b : CpV} (h : Joins a b) : Joins b a := ⟨h.hb, h.ha, sameS_symm h.same, agreeM_symm h.agree⟩
theorem mergeM_length : ∀ (a b : List Mt), (mergeM a b).length ≤ a.length + b.length
 | [], b => by rw [mergeM_nil']; simp
 | x :: a, [] => by rw [mergeM_nil]; simp
 | x :: a, y :: b => by
  rw [mergeM]
  have h1 := mergeM_length a (y :: b)
  have h2 := mergeM_length (x :: a) b
  have h3 := mergeM_length a b
  simp only [List.length_cons] at h1 h2 h3 ⊢
  split
  · simp only [List.length_cons]; omega
  · split <;> (simp only [List.length_cons]; omega)
termination_by a b => a.length + b.length
theorem Joins.ok {a b c : CpV} (h : Joins a b) (e : c.data = mergeD a.data b.data) (hl : a.muts.length + b.muts.length ≤ 2000) : OkC c := by
 have e1 : c.p.params = a.p.params := congrArg Cd.params e
 have e2 : c.p.V = a.p.V := congrArg Cd.V e
 have e3 : c.p.body = a.p.body := congrArg Cd.body e
 have e4 : c.testsL = a.testsL := congrArg Cd.tests e
 have e5 : c.fuel = a.fuel := congrArg Cd.fuel e
 have e6 : c.muts = mergeM a.muts b.muts := congrArg Cd.muts e
 have e7 : c.sc = scoreZ (mergeM a.muts b.muts) := congrArg Cd.sc e
 obtain ⟨⟨s1, s2, s3⟩, s4, s5⟩ := sameS_iff.1 h.same
 have hm := agreeM_mem h.ha.rise h.hb.rise h.agree
 refine ⟨(checkP_same e1 e2 e3).trans h.ha.prog, by rw [e1, e4, e5]; exact h.ha.suite, by rw [e6]; exact Nat.le_trans (mergeM_length _ _) hl, by rw [e6]; exact mergeM_rise h.ha.rise h.hb.rise, fun m hmm => ?_, fun m hmm => ?_, by rw [e6, e7]⟩
 · rw [e6, hm] at hmm
   rcases hmm with hmm | hmm
   · rw [inP_same e1 e2 e3]; exact h.ha.inp m hmm
   · rw [inP_same (e1.trans s1) (e2.trans s2) (e3.trans s3)]; exact h.hb.inp m hmm
 · rw [e6, hm] at hmm
   rw [e4]
   rcases hmm with hmm | hmm
   · exact h.ha.odd m hmm
   · rw [s4]; exact h.hb.odd m hmm
end Go.Proofs.YtcgglolckkeeiaaGreat
namespace Go.Proofs.YtcgglolckkeeiaaGreat
set_option linter.unusedVariables false
open Go.RowKit Go.Deep
def Sc.small (s : Sc) : Prop := (0 ≤ s.alive ∧ s.alive ≤ 1000000) ∧ (0 ≤ s.killed ∧ s.killed ≤ 1000000) ∧ (0 ≤ s.timeout ∧ s.timeout ≤ 1000000)
def Sc.add (a b : Sc) : Sc := ⟨a.alive + b.alive, a.killed + b.killed, a.timeout + b.timeout⟩
def mixC (c s : Sc) (j : Nat) : Array Value := #[.int .i64 (if 0 < j then c.alive + s.alive else c.alive), .int .i64 (if 1 < j then c.killed + s.killed else c.killed), .int .i64 (if 2 < j then c.timeout + s.timeout else c.timeout)]
def partS (a b : Sc) (k : Nat) : Sc := if k = 0 then ⟨0, 0, 0⟩ else if k = 1 then a else a.add b
set_option maxRecDepth 100000 in
set_option maxHeartbeats 4000000 in
theorem sum_any (G cap : Nat) (a b : Sc) (w : World) (hr : Row w G 29 (a.cells ++ b.cells)) (ha : a.small) (hb : b.small) :
 Calls Tryz.prog 80 #[.slice (some ⟨G, 0, none⟩) 2 cap] w fun e w' => e = .returned (.agg (a.add b).cells) ∧ Below w.heap.size w w' := by
 have zc := zero_counts
 have hG := hr.lt
 go_enter Tryz.func80, Tryz.ntmps80
 go_wp2_with (first | fail | (refine at_alloc _ rfl ?_))
 refine Stop.to ?_
 refine wpList_alloc_gen rfl 89 rfl _ _ (zc _) rfl ?_
 intro R Rw Rh Rr Rb
 go_wp2_with (first | fail | (refine at_alloc _ rfl ?_))
 refine Stop.to ?_
 refine wpList_alloc_gen rfl 89 rfl _ _ (zc _) rfl ?_
 intro C Cw Ch Cr Cb
 have rR := Rr.below Cb (Nat.lt_of_lt_of_le Rr.lt Ch)
 have hRC : R ≠ C := by have := Rr.lt; omega
 have b1 := (Below.refl w.heap.size w).trans (Rb.mono Rh)
 have b2 := b1.trans ((Cb.mono Ch).mono b1.size)
 have hC : w.heap.size ≤ C := Nat.le_trans b1.size Ch
 have hSC : G ≠ C := by omega
 have hR : w.heap.size ≤ R := Rh
 have rS := hr.below b2 hG
 clear Rr Rb Cb b1 zc Rh Ch hr hG
 have rC := Cr
 clear Cr
 go_wp2_with fail
 go_loopw [10] (fun i wr => ∃ k : Nat, i = .int .i64 (k : Int) ∧ k ≤ 2 ∧ Row wr R 89 #[.int .i64 0, .int .i64 0, .int .i64 0] ∧ Row wr G 29 (a.cells ++ b.cells) ∧ Row wr C 89 (partS a b k).cells ∧ Below w.heap.size w wr) (fun i _ => 2 - (intOf i).toNat)
 case atStart => exact ⟨0, rfl, Nat.zero_le _, rR, rS, rC, b2⟩
 case round =>
  clear rR rC rS b2
  obtain ⟨k, rfl, hk, rR, rS, rC, hbl⟩ := hrel
  by_cases hlt : k < 2
  · obtain ⟨s, c, hs, hc, hn, hsm, hcm⟩ : ∃ s c : Sc, (∀ j v, s.cells.toList[j]? = some v → wr.cell? ((⟨G, k * 3, none⟩ : Addr).add j) = some v) ∧ partS a b k = c ∧ partS a b (k + 1) = c.add s ∧ s.small ∧ c.small := by
     have hk2 : k = 0 ∨ k = 1 := by omega
     rcases hk2 with rfl | rfl
     · refine ⟨a, ⟨0, 0, 0⟩, ?_, rfl, by simp [partS, Sc.add], ha, by simp [Sc.small]⟩
       exact Row.from_ (cur := a.cells ++ b.cells) rS 0 (fun j v hj => by
        match j, hj with
        | 0, hj | 1, hj | 2, hj => exact hj
        | j + 3, hj => simp [Sc.cells] at hj)
     · refine ⟨b, a, ?_, rfl, rfl, hb, ha⟩
       exact Row.from_ (cur := a.cells ++ b.cells) rS 3 (fun j v hj => by
        match j, hj with
        | 0, hj | 1, hj | 2, hj => exact hj
        | j + 3, hj => simp [Sc.cells] at hj)
    have Hs := Lib.hid hs
    have Hn := Lib.hid hn
    rw [hc] at rC
    have hltI : (k : Int) < 2 := by omega
    clear hs hn hc hlt
    have Hsm := Lib.hid hsm
    have Hcm := Lib.hid hcm
    clear hsm hcm
    have e0 : wr.cell? ⟨G, k * 3, none⟩ = some (.int .i64 s.alive) := by have := Hs.out 0 _ rfl; rwa [add_zero'] at this
    have e1 : wr.cell? ⟨G, k * 3 + 1, none⟩ = some (.int .i64 s.killed) := Hs.out 1 _ rfl
    have e2 : wr.cell? ⟨G, k * 3 + 2, none⟩ = some (.int .i64 s.timeout) := Hs.out 2 _ rfl
    clear Hs
    go_wp2_with (first | fail | (refine at_alloc _ rfl ?_))
    refine Stop.to ?_
    refine wpList_alloc_gen rfl 29 rfl _ _ (zero_score _) rfl ?_
    intro D Dw Dh Dr Db
    go_wp2_with (refine at_store _ _ _ rfl ?_)
    refine Stop.to ?_
    refine wpList_store_gen rfl 29 _ _ rfl D s.cells rfl rfl 29 _ Dr (by kernel_rfl) rfl (by simp [Value.oneCell', Sc.cells]) ?_
    intro Dx Ds Do
    have Dc := (Db.mono Dh).trans (Do.below Dh)
    clear Db Dr Do
    clear e0 e1 e2
    replace rR := rR.below Dc rR.lt
    replace rC := rC.below Dc rC.lt
    replace rS := rS.below Dc rS.lt
    replace hbl := hbl.trans (Dc.mono hbl.size)
    have Hof := Lib.hid (scOf_any s Dx)
    clear Dc Dh
    go_wp2_with (refine wpList_load_row rfl 29 _ rfl D rfl 29 s.cells (0, 0) _ Ds Tryz.underlying29 rfl (by kernel_rfl) ?_)
    refine Hof.out.mono ?_
    rintro e w1 ⟨rfl, b3⟩
    replace rR := rR.below b3 rR.lt
    replace rC := rC.below b3 rC.lt
    replace rS := rS.below b3 rS.lt
    replace hbl := hbl.trans (b3.mono hbl.size)
    clear b3 Hof Ds
    rw [show c.cells = mixC c s 0 from rfl] at rC
    obtain ⟨⟨hs0, hs1⟩, ⟨hs2, hs3⟩, hs4, hs5⟩ := Hsm.out
    obtain ⟨⟨hc0, hc1⟩, ⟨hc2, hc3⟩, hc4, hc5⟩ := Hcm.out
    clear Hsm Hcm
    obtain ⟨s0, s1, s2⟩ := s
    obtain ⟨n0, n1, n2⟩ := c
    simp only at hs0 hs1 hs2 hs3 hs4 hs5 hc0 hc1 hc2 hc3 hc4 hc5
    obtain ⟨wo, rfl⟩ : ∃ wo : World, wo = wr := ⟨_, rfl⟩
    rw [show (Sc.mk s0 s1 s2).cells = #[.int .i64 s0, .int .i64 s1, .int .i64 s2] from rfl]
    go_wp2_with fail
    go_loopw [16] (fun i wr => ∃ j : Nat, i = .int .i64 (j : Int) ∧ j ≤ 3 ∧ Row wr R 89 #[.int .i64 0, .int .i64 0, .int .i64 0] ∧ Row wr G 29 (a.cells ++ b.cells) ∧ Row wr C 89 (mixC ⟨n0, n1, n2⟩ ⟨s0, s1, s2⟩ j) ∧ Below w.heap.size w wr) (fun i _ => 3 - (intOf i).toNat)
    case atStart => exact ⟨0, rfl, Nat.zero_le _, rR, rS, rC, hbl⟩
    case round =>
     clear rR rC rS hbl
     obtain ⟨j, rfl, hj, rR, rS, rC, hbl⟩ := hrel
     have hj4 : j = 0 ∨ j = 1 ∨ j = 2 ∨ j = 3 := by omega
     clear hj
     rcases hj4 with rfl | rfl | rfl | rfl
     · have ix : ∀ w, (Instr.index 89 (.agg #[.int .i64 s0, .int .i64 s1, .int .i64 s2]) (.int .i64 0)).run Tryz.prog w = .ok (.int .i64 s0) w := fun _ => by kernel_rfl
       have c4 : wr.cell? ⟨C, 0, none⟩ = some (.int .i64 n0) := rC.cellv (i := 0) rfl
       go_wp2_with (refine at_store _ _ _ rfl ?_)
       refine Stop.to ?_
       refine wpList_store_part rfl 3 _ _ rfl C 0 rfl (.int .i64 (n0 + s0)) (by first | rfl | (simp; done)) [.int .i64 (n0 + s0)] rfl 89 _ _ rC (by kernel_rfl) (by simp [mixC]) (by simp [Value.oneCell']) (putL_0 _ _ _ _) ?_
       intro W9 r9 o9
       have hb9 := hbl.trans (o9.below hC)
       have rR9 := rR.only o9 hRC
       have rS9 := rS.only o9 hSC
       clear o9 rC rR rS hbl c4 ix
       go_wp2_with fail
       go_roundw
       case rel => exact ⟨0 + 1, by go_num, by omega, rR9, rS9, r9, hb9⟩
       case measure => simp [intOf]
     · have ix : ∀ w, (Instr.index 89 (.agg #[.int .i64 s0, .int .i64 s1, .int .i64 s2]) (.int .i64 1)).run Tryz.prog w = .ok (.int .i64 s1) w := fun _ => by kernel_rfl
       have c4 : wr.cell? ⟨C, 1, none⟩ = some (.int .i64 n1) := rC.cellv (i := 1) rfl
       go_wp2_with (refine at_store _ _ _ rfl ?_)
       refine Stop.to ?_
       refine wpList_store_part rfl 3 _ _ rfl C 1 rfl (.int .i64 (n1 + s1)) (by first | rfl | (simp; done)) [.int .i64 (n1 + s1)] rfl 89 _ _ rC (by kernel_rfl) (by simp [mixC]) (by simp [Value.oneCell']) (putL_1 _ _ _ _) ?_
       intro W9 r9 o9
       have hb9 := hbl.trans (o9.below hC)
       have rR9 := rR.only o9 hRC
       have rS9 := rS.only o9 hSC
       clear o9 rC rR rS hbl c4 ix
       go_wp2_with fail
       go_roundw
       case rel => exact ⟨1 + 1, by go_num, by omega, rR9, rS9, r9, hb9⟩
       case measure => simp [intOf]
     · have ix : ∀ w, (Instr.index 89 (.agg #[.int .i64 s0, .int .i64 s1, .int .i64 s2]) (.int .i64 2)).run Tryz.prog w = .ok (.int .i64 s2) w := fun _ => by kernel_rfl
       have c4 : wr.cell? ⟨C, 2, none⟩ = some (.int .i64 n2) := rC.cellv (i := 2) rfl
       go_wp2_with (refine at_store _ _ _ rfl ?_)
       refine Stop.to ?_
       refine wpList_store_part rfl 3 _ _ rfl C 2 rfl (.int .i64 (n2 + s2)) (by first | rfl | (simp; done)) [.int .i64 (n2 + s2)] rfl 89 _ _ rC (by kernel_rfl) (by simp [mixC]) (by simp [Value.oneCell']) (putL_2 _ _ _ _) ?_
       intro W9 r9 o9
       have hb9 := hbl.trans (o9.below hC)
       have rR9 := rR.only o9 hRC
       have rS9 := rS.only o9 hSC
       clear o9 rC rR rS hbl c4 ix
       go_wp2_with fail
       go_roundw
       case rel => exact ⟨2 + 1, by go_num, by omega, rR9, rS9, r9, hb9⟩
       case measure => simp [intOf]
     · go_wp2_with fail
       go_roundw
       case rel => exact ⟨k + 1, by go_num, by omega, rR, rS, by rw [Hn.out]; exact rC, hbl⟩
       case measure => simp [intOf]; omega
  · obtain rfl : k = 2 := by omega
    clear hk hlt
    rw [show partS a b 2 = a.add b from rfl] at rC
    go_wp2_with (first | (refine wpList_load_row rfl 89 _ rfl C rfl 89 (a.add b).cells (0, 0) _ rC Tryz.underlying89 rfl (by kernel_rfl) ?_) | (refine at_store _ _ _ rfl ?_))
    refine Stop.to ?_
    refine wpList_store_gen rfl 89 _ _ rfl R (a.add b).cells rfl rfl 89 _ rR (by kernel_rfl) rfl (by simp [Value.oneCell', Sc.cells]) ?_
    intro W9 r9 o9
    go_wp2_with fail
    refine bodyPost_ret (results_cell_row Tryz.results80 _ _ R 89 _ (0, 0) _ rfl r9 Tryz.underlying89 rfl (by kernel_rfl)) rfl ?_
    exact ⟨rfl, hbl.trans (o9.below hR)⟩
theorem info_sc : (Tryz.prog.info? 29).map (fun i => (i.zero, i.size)) = some (some (.agg #[.int .i64 0, .int .i64 0, .int .i64 0]), 3) := by kernel_rfl
set_option maxRecDepth 100000 in
set_option maxHeartbeats 4000000 in
theorem scAdd_any (a b : Sc) (w : World) (ha : a.small) (hb : b.small) :
 Calls Tryz.prog 28 #[.agg a.cells, .agg b.cells] w fun e w' => e = .returned (.agg (a.add b).cells) ∧ Below w.heap.size w w' := by
 go_enter Tryz.func28, Tryz.ntmps28
 go_wp2_with (refine at_box _ _ rfl ?_)
 refine Stop.to ?_
 refine wpList_box_gen rfl 29 _ rfl a.cells rfl ?_
 intro G Gw Gh Gr Gb
 go_wp2_with (refine at_box _ _ rfl ?_)
 refine Stop.to ?_
 refine wpList_box_gen rfl 29 _ rfl b.cells rfl ?_
 intro J Jw Jh Jr Jb
 have b1 := (Below.refl w.heap.size w).trans (Gb.mono Gh)
 have b2 := b1.trans ((Jb.mono Jh).mono b1.size)
 have rG := Gr.below Jb (Nat.lt_of_lt_of_le Gr.lt Jh)
 have rJ := Jr
 clear Gr Gb Gh Jr Jb Jh b1
 go_wp2_with (first | fail | (refine at_alloc _ rfl ?_))
 refine Stop.to ?_
 refine wpList_alloc_gen rfl 29 rfl _ _ (zero_score _) rfl ?_
 intro R Rw Rh Rr Rb
 replace rG := rG.below Rb (Nat.lt_of_lt_of_le rG.lt Rh)
 replace rJ := rJ.below Rb (Nat.lt_of_lt_of_le rJ.lt Rh)
 have hR : w.heap.size ≤ R := Nat.le_trans b2.size Rh
 have b3 := b2.trans ((Rb.mono Rh).mono b2.size)
 have rR := Rr
 clear Rr Rb Rh b2
 go_wp2_with (first | (refine wpList_load_row rfl 29 _ rfl G rfl 29 a.cells (0, 0) _ rG Tryz.underlying29 rfl (by kernel_rfl) ?_) | (refine wpList_load_row rfl 29 _ rfl J rfl 29 b.cells (0, 0) _ rJ Tryz.underlying29 rfl (by kernel_rfl) ?_) | (refine at_slice _ _ _ rfl ?_))
 refine Stop.to ?_
 refine wpList_slice_gen rfl 168 2 _ rfl 29 (a.cells ++ b.cells) (bs_run Tryz.underlying168 info_sc (by decide) (by decide) (by kernel_rfl)) ?_
 intro M Mw Mh Mr Mb
 have rR2 := rR.below Mb (Nat.lt_of_lt_of_le rR.lt Mh)
 have bM := b3.trans ((Mb.mono Mh).mono b3.size)
 have Hs := Lib.hid (sum_any M 2 a b Mw Mr ha hb)
 clear rG rJ rR Mr Mb Mh b3
 go_wp2_with fail
 refine Hs.out.mono ?_
 rintro e w1 ⟨rfl, b4⟩
 have rR3 := rR2.below b4 rR2.lt
 have b5 := bM.trans (b4.mono bM.size)
 have Hb := Lib.hid (scBack_any (a.add b) w1)
 clear Hs b4 bM rR2
 go_wp2_with fail
 refine Hb.out.mono ?_
 rintro e w2 ⟨rfl, b6⟩
 have rR4 := rR3.below b6 rR3.lt
 have b7 := b5.trans (b6.mono b5.size)
 clear Hb b5 b6 rR3
 go_wp2_with (refine at_store _ _ _ rfl ?_)
 refine Stop.to ?_
 refine wpList_store_gen rfl 29 _ _ rfl R (a.add b).cells rfl rfl 29 _ rR4 (by kernel_rfl) rfl (by simp [Value.oneCell', Sc.cells]) ?_
 intro W9 r9 o9
 go_wp2_with fail
 refine bodyPost_ret (results_cell_row Tryz.results28 _ _ R 29 _ (0, 0) _ rfl r9 Tryz.underlying29 rfl (by kernel_rfl)) rfl ?_
 exact ⟨rfl, b7.trans (o9.below hR)⟩
end Go.Proofs.YtcgglolckkeeiaaGreat
namespace Go.Proofs.YtcgglolckkeeiaaGreat
set_option linter.unusedVariables false
open Go.RowKit Go.Deep
theorem riseM_pw : ∀ {l : List Mt}, riseM l → l.Pairwise fun x y => cmpD x.d y.d < 0
 | [], _ => List.Pairwise.nil
 | x :: l, h => List.Pairwise.cons (fun _ hy => riseM_head h hy) (riseM_pw (riseM_tail h))
theorem riseM_of : ∀ {l : List Mt}, l.Pairwise (fun x y => cmpD x.d y.d < 0) → riseM l
 | [], _ => trivial
 | x :: l, h => by
  rw [List.pairwise_cons] at h
  exact riseM_cons (riseM_of h.2) h.1
def partL {α : Type} (p : Nat → Bool) (b : Bool) : Nat → List α → List α
 | _, [] => []
 | i, x :: l => if p i = b then x :: partL p b (i + 1) l else partL p b (i + 1) l
theorem partL_map {α β : Type} (f : α → β) (p : Nat → Bool) (b : Bool) : ∀ (l : List α) (i : Nat), (partL p b i l).map f = partL p b i (l.map f)
 | [], _ => rfl
 | x :: l, i => by
  rw [List.map_cons, partL, partL, ← partL_map f p b l (i + 1)]
  split <;> rfl
theorem partL_sub {α : Type} (p : Nat → Bool) (b : Bool) : ∀ (l : List α) (i : Nat), (partL p b i l).Sublist l
 | [], _ => List.Sublist.slnil
 | x :: l, i => by
  rw [partL]
  split
  · exact (partL_sub p b l (i + 1)).cons_cons x
  · exact (partL_sub p b l (i + 1)).cons x
theorem partL_mem {α : Type} (p : Nat → Bool) (b : Bool) (x : α) : ∀ (l : List α) (i : Nat), x ∈ partL p b i l ↔ ∃ j, l[j]? = some x ∧ p (i + j) = b
 | [], i => by simp [partL]
 | y :: l, i => by
  rw [partL]
  have ih := partL_mem p b x l (i + 1)
  constructor
  · intro h
    by_cases h1 : p i = b
    · rw [if_pos h1] at h
      rcases List.mem_cons.1 h with rfl | h
      · exact ⟨0, rfl, h1⟩
      · obtain ⟨j, h2, h3⟩ := ih.1 h
        exact ⟨j + 1, by simpa using h2, by rw [← h3]; congr 1; omega⟩
    · rw [if_neg h1] at h
      obtain ⟨j, h2, h3⟩ := ih.1 h
      exact ⟨j + 1, by simpa using h2, by rw [← h3]; congr 1; omega⟩
  · rintro ⟨j, h2, h3⟩
    cases j with
    | zero =>
     simp at h2
     rw [Nat.add_zero] at h3
     rw [if_pos h3, h2]; simp
    | succ j =>
     have : x ∈ partL p b (i + 1) l := ih.2 ⟨j, by simpa using h2, by rw [← h3]; congr 1; omega⟩
     split
     · exact List.mem_cons_of_mem _ this
     · exact this
theorem partL_count (p : Nat → Bool) (v : Int) : ∀ (l : List Mt) (i : Nat), countV (partL p true i l) v + countV (partL p false i l) v = countV l v
 | [], _ => rfl
 | x :: l, i => by
  have ih := partL_count p v l (i + 1)
  unfold countV at ih ⊢
  rw [partL, partL]
  cases h : p i
  all_goals
   by_cases hv : x.verdict = v
   all_goals simp [hv]
   all_goals omega
theorem partL_score (p : Nat → Bool) (l : List Mt) : (scoreZ (partL p true 0 l)).add (scoreZ (partL p false 0 l)) = scoreZ l := by
 unfold scoreZ Sc.add
 simp only [partL_count]
structure PartC (c d : CpV) (p : Nat → Bool) (b : Bool) : Prop where
 same : sameS c d
 muts : d.muts = partL p b 0 c.muts
 sc : d.sc = scoreZ d.muts
theorem PartC.ok {c d : CpV} {p : Nat → Bool} {b : Bool} (h : PartC c d p b) (hc : OkC c) : OkC d := by
 obtain ⟨⟨s1, s2, s3⟩, s4, s5⟩ := sameS_iff.1 h.same
 have hs : d.muts.Sublist c.muts := by rw [h.muts]; exact partL_sub _ _ _ _
 exact ⟨(checkP_same s1 s2 s3) ▸ hc.prog, by rw [← s1, ← s4, ← s5]; exact hc.suite, Nat.le_trans hs.length_le hc.len, riseM_of ((riseM_pw hc.rise).sublist hs), fun m hm => (inP_same s1 s2 s3 m.d) ▸ hc.inp m (hs.subset hm), fun m hm => by rw [← s4]; exact hc.odd m (hs.subset hm), h.sc⟩
theorem PartC.both {c d e : CpV} {p : Nat → Bool} (h : PartC c d p true) (k : PartC c e p false) (hc : OkC c) : Joins d e ∧ mergeD d.data e.data = c.data ∧ d.sc.add e.sc = c.sc := by
 have hd := h.ok hc
 have he := k.ok hc
 have hs : d.muts.Sublist c.muts := by rw [h.muts]; exact partL_sub _ _ _ _
 have ks : e.muts.Sublist c.muts := by rw [k.muts]; exact partL_sub _ _ _ _
 have g : agreeM d.muts e.muts := fun x hx y hy h0 => riseM_uniq hc.rise (hs.subset hx) (ks.subset hy) h0
 have em : mergeM d.muts e.muts = c.muts := riseM_ext (mergeM_rise hd.rise he.rise) hc.rise fun x => by
  rw [agreeM_mem hd.rise he.rise g]
  refine ⟨fun q => q.elim (fun q => hs.subset q) (fun q => ks.subset q), fun q => ?_⟩
  obtain ⟨j, hj, rfl⟩ := List.mem_iff_getElem.1 q
  have hj2 : c.muts[j]? = some c.muts[j] := List.getElem?_eq_getElem hj
  cases hp : p j
  · right; rw [k.muts, partL_mem]; exact ⟨j, hj2, by rw [Nat.zero_add]; exact hp⟩
  · left; rw [h.muts, partL_mem]; exact ⟨j, hj2, by rw [Nat.zero_add]; exact hp⟩
 refine ⟨⟨hd, he, sameS_trans (sameS_symm h.same) k.same, g⟩, ?_, ?_⟩
 · obtain ⟨⟨s1, s2, s3⟩, s4, s5⟩ := sameS_iff.1 h.same
   have ec := hc.sc
   unfold mergeD CpV.data
   simp only [em, ← s1, ← s2, ← s3, ← s4, ← s5, ← ec]
 · rw [h.sc, k.sc, h.muts, k.muts, hc.sc]; exact partL_score p c.muts
theorem right_verdict {m : Mt} (h : rightZ m = true) : m.verdict ≠ -1 := by
 intro e
 unfold rightZ at h
 rw [e] at h
 simp at h
theorem OkC.verdict {c : CpV} (h : OkC c) {m : Mt} (hm : m ∈ c.muts) : m.verdict ≠ -1 := by
 have := h.odd m hm
 unfold oddZ at this
 cases hr : rightZ m
 · rw [hr] at this; simp at this
 · exact right_verdict hr
end Go.Proofs.YtcgglolckkeeiaaGreat
namespace Go.Proofs.YtcgglolckkeeiaaGreat
set_option linter.unusedVariables false
open Go.RowKit Go.Deep
theorem run_exec_slc {P : Program} {o : Oper} {w w1 : World} {ρ : Operand → Value} {x lo : Operand} {t : TypeId} (ho : o.op = .slice t x (some lo) none none) {v : Value} (hv : (Instr.sliceAt t (ρ x) (some (ρ lo)) none none).run P w = .ok v w1) : (execOp ρ o).run P w = .ok (.value v) w1 := by
 simp only [execOp, ho, Option.map_some, Option.map_none, Sem.run_bind, hv, Result.andThen_ok, Sem.run_pure]
theorem run_slL (W : World) (A : Option Addr) (n cap p : Nat) (h : p ≤ n) : (Instr.sliceAt 27 (.slice A n cap) (some (.int .i64 (p : Int))) none none).run Tryz.prog W = .ok (sliced A p n cap 8) W := by
 refine (run_sliceAt_slice (P := Tryz.prog) (w := W) 27 (.slice A n cap) (some (.int .i64 (p : Int))) none none (by kernel_rfl)).trans ?_
 refine (run_slice_l (P := Tryz.prog) (w := W) 27 A n cap (by kernel_rfl) .i64 (p : Int) (by omega) (by omega)).trans ?_
 rw [Int.toNat_natCast, show (sizeOf (Tryz.prog.elem 27)).run Tryz.prog W = .ok 8 W from by kernel_rfl]
 rfl
theorem info_mt : (Tryz.prog.info? 47).map (fun i => (i.zero, i.size, i.bytes)) = some (some (.agg #[.slice none 0 0, .int .i64 0, .int .i64 0, .int .i64 0, .int .i64 0, .int .i64 0, .int .i64 0, .string ByteArray.empty]), 8, 88) := by kernel_rfl
theorem bs_mut0 (W : World) : (Instr.buildSlice 27 0 #[]).run Tryz.prog W = .ok (.slice (some ⟨W.heap.size, 0, none⟩) 0 0) (W.alloc (.cells #[] 47)) := by kernel_rfl
theorem mtsC_append (a b : List MtV) : mtsC (a ++ b) = mtsC a ++ mtsC b := by simp [mtsC]
theorem mtsC_len : ∀ l : List MtV, (mtsC l).length = l.length * 8
 | [] => rfl
 | x :: l => by
  have := mtsC_len l
  have h : mtsC (x :: l) = x.cells ++ mtsC l := rfl
  rw [h, List.length_append, this]; simp [MtV.cells]; omega
theorem mtsC_one (l : List MtV) : ∀ u ∈ mtsC l, u.oneCell' = true := fun u hu => by
 obtain ⟨x, _, hx⟩ := List.mem_flatMap.1 hu
 have := mt_one x
 rw [Array.all_eq_true'] at this
 exact this u (by simpa using hx)
theorem append_mt {W : World} {B n m cap : Nat} {v : Value} {xs : List Value} {A : Option Addr} (hown : W.ownsRow B 47 8 v n xs) (hB : B ≤ W.heap.size) (l : List MtV) (hr : Rd W A (mtsC l)) (hm : m = l.length) (hA : A = none → m = 0) (hb : n + m ≤ 1000000) :
 ∃ v' W', (Builtin.append_ #[27, 27] 27 #[v, .slice A m cap]).run Tryz.prog W = .ok v' W' ∧ W'.ownsRow B 47 8 v' (n + m) (xs ++ mtsC l) ∧ W.grownBy W' v.ownBlock ∧ (v'.ownBlock = v.ownBlock ∨ v'.ownBlock = some W.heap.size) :=
 append_rd 27 47 _ 8 88 Tryz.underlying27 info_mt rfl (by decide) (by decide) hown hB hr (by rw [mtsC_len, hm]) (mtsC_one l) hA hb
theorem mts_take {W : World} {A : Option Addr} {l : List MtV} (h : Rd W A (mtsC l)) (p : Nat) : Rd W A (mtsC (l.take p)) := fun j u hj => h j u (by
 have e : mtsC l = mtsC (l.take p) ++ mtsC (l.drop p) := by rw [← mtsC_append, List.take_append_drop]
 rw [e, List.getElem?_append_left (List.getElem?_eq_some_iff.1 hj).1]; exact hj)
theorem mts_drop {W : World} {A : Option Addr} {l : List MtV} (h : Rd W A (mtsC l)) {p n cap : Nat} (hn : n = l.length) (hpn : p ≤ n) (hc : n ≤ cap) (hA : A = none → l = []) : ∃ X, sliced A p n cap 8 = .slice X (n - p) (cap - p) ∧ Rd W X (mtsC (l.drop p)) ∧ (X = none → n - p = 0) := by
 by_cases hcp : cap = p
 · refine ⟨A, by simp [sliced, hcp], ?_, fun e => by omega⟩
   rw [List.drop_eq_nil_of_le (by omega)]; exact Rd.nil _ _
 · refine ⟨A.map (·.add (p * 8)), by simp [sliced, hcp], ?_, fun e => by
    have : A = none := by simpa using e
    have := hA this
    subst this; simp at hn; omega⟩
   by_cases hne : mtsC (l.drop p) = []
   · rw [hne]; exact Rd.nil _ _
   · have e : mtsC l = mtsC (l.take p) ++ mtsC (l.drop p) := by rw [← mtsC_append, List.take_append_drop]
     have hlen : (mtsC (l.take p)).length = p * 8 := by rw [mtsC_len, List.length_take]; congr 1; omega
     obtain ⟨ad', e1, e2⟩ := Rd.part h (p * 8) (mtsC (l.drop p)) (fun j u hj => by rw [e, List.getElem?_append_right (by omega), hlen, Nat.add_sub_cancel_left]; exact hj) hne
     subst e1
     exact fun j u hj => ⟨_, rfl, e2 j u hj⟩
end Go.Proofs.YtcgglolckkeeiaaGreat
namespace Go.Proofs.YtcgglolckkeeiaaGreat
set_option linter.unusedVariables false
open Go.RowKit Go.Deep
def MtT (W : World) (x : MtV) : Prop := MtOk W x ∧ IntB W x.A
theorem MtT.same {A B : World} {x : MtV} (h : MtT A x) (hb : ∀ (a : Addr) (cs : Array Value), x.A = some a → Row A a.block 3 cs → Row B a.block 3 cs) : MtT B x :=
 ⟨⟨fun j u hj => by
  obtain ⟨a, e, hc⟩ := h.1.rd j u hj
  obtain ⟨cs, hr⟩ := h.2 a e
  exact ⟨a, e, (World.cell?_of_block (by rw [add_block]; exact (hb a cs e hr).trans (Eq.symm hr))).trans hc⟩, h.1.len, h.1.nil, h.1.dig⟩, fun a e => by
  obtain ⟨cs, hr⟩ := h.2 a e
  exact ⟨cs, hb a cs e hr⟩⟩
theorem MtT.go {A B : World} {x : MtV} (h : MtT A x) (b : Below A.heap.size A B) : MtT B x := h.same fun _ _ _ hr => hr.below b hr.lt
theorem MtT.abide {W W' : World} {x : MtV} {row : Option Nat} {q : Nat → Prop} (h : MtT W x) (hg : W.grownBy W' row) (hr : ∀ r, row = some r → False ∨ (q r ∧ ∃ o : Obj, W.heap[r]? = some o ∧ o.isCells = false)) : MtT W' x := h.same fun _ _ _ k => k.abide hg hr
theorem MtT.own {W W' : World} {x : MtV} {lim n : Nat} {v : Value} {xs : List Value} (h : MtT W x) (hown : W.ownsRow lim 47 8 v n xs) (hg : W.grownBy W' v.ownBlock) : MtT W' x := h.same fun _ _ _ k => k.grown hg (own_ne hown k (by decide))
theorem MtT.only {W W' : World} {x : MtV} {g : Nat} {t : TypeId} {cs : Array Value} (h : MtT W x) (hr : Row W g t cs) (ht : t ≠ 3) (o : Only g W W') : MtT W' x := h.same fun a cs' _ k => k.only o (fun e => by
 have h1 : W.heap[g]? = some (.cells cs' 3 (0, 0)) := by rw [← e]; exact k
 rw [show W.heap[g]? = some (.cells cs t (0, 0)) from hr] at h1
 injection h1 with h1; injection h1 with _ h1; exact ht h1)
theorem info_mtz : (Tryz.prog.info? 47).map (fun i => (i.zero, i.size)) = some (some (.agg #[.slice none 0 0, .int .i64 0, .int .i64 0, .int .i64 0, .int .i64 0, .int .i64 0, .int .i64 0, .string ByteArray.empty]), 8) := by kernel_rfl
end Go.Proofs.YtcgglolckkeeiaaGreat
