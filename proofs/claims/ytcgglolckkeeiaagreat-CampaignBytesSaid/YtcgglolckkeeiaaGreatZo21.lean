/- Lemmas for CoAll. -/
import Derived.Test.YtcgglolckkeeiaaGreatZo12
import Derived.Test.YtcgglolckkeeiaaGreatZo20
import Derived.Test.YtcgglolckkeeiaaGreatZo19
import Derived.Test.YtcgglolckkeeiaaGreatZo9
import Derived.Test.YtcgglolckkeeiaaGreatZo14
import Derived.Test.YtcgglolckkeeiaaGreatZo1
import Derived.OrdersHeld
set_option linter.unusedVariables false
set_option linter.unusedSimpArgs false
namespace Go.Proofs.YtcgglolckkeeiaaGreat
open Go.RowKit
section
variable {P : Program} {ops : Array Oper} {Q : Exit → Act → World → Prop} {md : Region.Mode} {S : World → Prop} {last : Nat}
def YieldsC (P : Program) (ops : Array Oper) (S : World → Prop) (o : Oper) (v : Value) (a : Act) : Prop :=
 (Region.wanted o (yielded ops a.tmps) = true ∧ ∀ w, S w → (execOp a.eval o).run P w = .ok (.value v) w ∨ ∃ f args, (execOp a.eval o).run P w = .ok (.enter f args) w ∧ Calls P f args w fun e w' => e = .returned v ∧ w' = w) ∨
 (Region.wanted o (yielded ops a.tmps) = false ∧ v = undef)
theorem yieldsC_of {o : Oper} {v : Value} {a : Act} (h : YieldsIf P ops S o v a) : YieldsC P ops S o v a := h.imp (fun ⟨hw, hv⟩ => ⟨hw, fun w hS => .inl (hv w hS)⟩) id
theorem YieldsC.wpOp {i : Nat} {o : Oper} {v : Value} {a : Act} (hi : ops[i]? = some o) (hy : YieldsC P ops S o v a) {K : Act → World → Prop} {w : World} (hS : S w) (h : K (a.put o.dst v) w) : wpOp P ops Q i K a w := by
 unfold Go.wpOp
 simp only [hi]
 rcases hy with ⟨hw, hv⟩ | ⟨hw, rfl⟩
 · rw [if_pos hw]
   refine .inl ?_
   unfold Oper.wp
   rcases hv w hS with hv | ⟨f, args, hv, hc⟩
   · rw [hv]; exact h
   · rw [hv]
     refine Calls.mono hc fun e w' he => ?_
     obtain ⟨rfl, rfl⟩ := he
     exact h
 · rw [if_neg (by rw [hw]; simp)]; exact h
theorem YieldsC.of_same {o : Oper} {v : Value} {a a' : Act} (hy : YieldsC P ops S o v a) (he : execOp a'.eval o = execOp a.eval o) (hw : Region.wanted o (yielded ops a'.tmps) = Region.wanted o (yielded ops a.tmps)) : YieldsC P ops S o v a' := by
 unfold YieldsC at *
 rw [he, hw]
 exact hy
theorem wpOp_putC {j : Nat} {oi oj : Oper} {v : Value} (hj : ops[j]? = some oj) (hap : oi.apart ops oj = true)
 (hsi : ∀ cs b, oi.op ≠ .select cs b) (hsj : ∀ cs b, oj.op ≠ .select cs b)
 (hQ : ∀ c a w, Q (.panic c) (a.put oi.dst v) w → Q (.panic c) a w) {K : Act → World → Prop} {a : Act} {w : World}
 (hy : YieldsC P ops S oi v a) (h : wpOp P ops Q j K (a.put oi.dst v) w) :
 wpOp P ops Q j (fun a' w' => YieldsC P ops S oi v a' ∧ K (a'.put oi.dst v) w') a w := by
 obtain ⟨h1, h2, h3⟩ := Oper.apart_spec hap
 have keep : ∀ (a : Act), YieldsC P ops S oi v a → ∀ u, YieldsC P ops S oi v (a.put oj.dst u) := fun a hy u =>
  hy.of_same (execOp_put oi hsi a oj.dst u h3) (wanted_put oi a oj.dst u h3)
 have keepD : ∀ d, YieldsC P ops S oi v { a with defers := d :: a.defers } := fun d => hy.of_same rfl rfl
 unfold wpOp at *
 simp only [hj] at *
 rw [wanted_put oj a oi.dst v h1] at h
 split
 · rename_i hw
   simp only [hw, if_true] at h
   rcases h with h | ⟨hasks, hlets⟩
   case inr => exact .inr ⟨by unfold Oper.asks at *; rw [execOp_put oj hsj a oi.dst v h1] at hasks; exact hasks, hlets⟩
   refine .inl ?_
   unfold Oper.wp at *
   rw [execOp_put oj hsj a oi.dst v h1] at h
   generalize (execOp a.eval oj).run P w = r at *
   cases r with
   | ok n w' =>
    cases n <;> simp only [Oper.upon] at h ⊢
    case value u => exact ⟨keep a hy u, by rw [← Act.put_comm a v u h2]; exact h⟩
    case skip => exact ⟨keep a hy _, by rw [← Act.put_comm a v undef h2]; exact h⟩
    case defer d =>
     refine ⟨keep _ (keepD d) _, ?_⟩
     rw [← Act.put_comm _ v undef h2, ← Act.put_defers]
     exact h
    case enter f args =>
     refine Calls.mono h fun e w'' he => ?_
     cases e with
     | returned u => exact ⟨keep a hy u, by rw [← Act.put_comm a v u h2]; exact he⟩
     | panicked c => exact hQ _ _ _ he
     | outgrown => exact he
    case row row args => exact Rows.mono h fun u w'' he => ⟨keep a hy u, by rw [← Act.put_comm a v u h2]; exact he⟩
   | halt x w' =>
    cases x <;> simp only [Oper.upon] at h ⊢
    case panic u => exact hQ _ _ _ h
 · rename_i hw
   simp only [hw] at h
   exact ⟨keep a hy _, by rw [← Act.put_comm a v undef h2]; exact h⟩
def wpAnyL (P : Program) (md : Region.Mode) (ops : Array Oper) (Q : Exit → Act → World → Prop) (S : World → Prop) (last : Nat) : Nat → Array Bool → Act → World → Prop
 | 0, listed, a, w => Region.ready md ops listed = [] ∧ Q .normal a w
 | fuel + 1, listed, a, w =>
  (Region.ready md ops listed = [] → Q .normal a w) ∧
  ∀ i ∈ Region.ready md ops listed, wpOp P ops Q i (fun a' w' => (i ≠ last → S w') ∧ wpAnyL P md ops Q S last fuel (listed.setIfInBounds i true) a' w') a w
theorem wpAny_of_L : ∀ (fuel : Nat) (listed : Array Bool) (a : Act) (w : World), wpAnyL P md ops Q S last fuel listed a w → wpAny P md ops Q fuel listed a w
 | 0, _, _, _, h => h
 | fuel + 1, _, _, _, h => ⟨h.1, fun i hi => wpOp_mono (fun a' w' h' => wpAny_of_L fuel _ a' w' h'.2) (h.2 i hi)⟩
theorem wpAnyL_first {i : Nat} {oi : Oper} {v : Value} (hi : ops[i]? = some oi) (hsel : ∀ (j : Nat) (o : Oper) cs b, ops[j]? = some o → o.op ≠ .select cs b)
 (hil : i ≠ last) (hdep : ∀ o, ops[last]? = some o → ∃ e ∈ o.after, Region.binds md e = true ∧ e.on = i)
 (hQ : ∀ c a w, Q (.panic c) (a.put oi.dst v) w → Q (.panic c) a w) :
 ∀ (fuel : Nat) (listed : Array Bool) (a : Act) (w : World),
  (∀ j oj, ops[j]? = some oj → j ≠ i → listed.getD j true = false → (∀ e ∈ oj.after, Region.binds md e = true → e.on ≠ i) → oi.apart ops oj = true) →
  i ∈ Region.ready md ops listed → YieldsC P ops S oi v a → S w →
  wpAnyL P md ops Q S last fuel (listed.setIfInBounds i true) (a.put oi.dst v) w → wpAnyL P md ops Q S last (fuel + 1) listed a w := by
 intro fuel
 induction fuel with
 | zero =>
  intro listed a w _ hr hy hS H
  refine ⟨fun h => (by rw [h] at hr; cases hr), fun j hj => ?_⟩
  by_cases hji : j = i
  · subst hji; exact hy.wpOp hi hS ⟨fun _ => hS, H⟩
  · have := ready_mono hj hji
    rw [H.1] at this
    cases this
 | succ fuel ih =>
  intro listed a w hfree hr hy hS H
  refine ⟨fun h => (by rw [h] at hr; cases hr), fun j hj => ?_⟩
  by_cases hji : j = i
  · subst hji; exact hy.wpOp hi hS ⟨fun _ => hS, H⟩
  · have h1 := H.2 j (ready_mono hj hji)
    obtain ⟨hjun, oj, hoj, hall⟩ := mem_ready.1 hj
    have hnot : ∀ e ∈ oj.after, Region.binds md e = true → e.on ≠ i := fun e he hb heq => by
     have h1 := hall e he hb
     have h0 := (mem_ready.1 hr).1
     rw [heq] at h1
     rcases Nat.lt_or_ge i listed.size with h' | h'
     · simp [h'] at h0 h1; rw [h0] at h1; cases h1
     · simp [Array.getElem?_eq_none h'] at h1
    have hjl : j ≠ last := fun e => by
     subst e
     obtain ⟨e, he, hb, heq⟩ := hdep oj hoj
     exact hnot e he hb heq
    have h2 := wpOp_putC hoj (hfree j oj hoj hji hjun hnot) (fun cs b => hsel i oi cs b hi) (fun cs b => hsel j oj cs b hoj) hQ hy h1
    have hfree' : ∀ k ok, ops[k]? = some ok → k ≠ i → (listed.setIfInBounds j true).getD k true = false →
     (∀ e ∈ ok.after, Region.binds md e = true → e.on ≠ i) → oi.apart ops ok = true := fun k ok hk hki hun hno => by
     refine hfree k ok hk hki ?_ hno
     by_cases hjk : j = k
     · subst hjk; exact hjun
     · rw [getD_set_ne true hjk] at hun; exact hun
    refine wpOp_mono (fun a' w' h3 => ⟨fun _ => h3.2.1 hjl, ih (listed.setIfInBounds j true) a' w' hfree' (ready_mono hr (Ne.symm hji)) h3.1 (h3.2.1 hjl) ?_⟩) h2
    rw [Array.setIfInBounds_comm _ _ hji]
    exact h3.2.2
theorem wpAnyL_all {rs : List Nat} {fuel : Nat} {listed : Array Bool} {a : Act} {w : World} (hr : Region.ready md ops listed = rs) (hne : rs ≠ [])
 (h : ∀ i ∈ rs, wpOp P ops Q i (fun a' w' => (i ≠ last → S w') ∧ wpAnyL P md ops Q S last fuel (listed.setIfInBounds i true) a' w') a w) : wpAnyL P md ops Q S last (fuel + 1) listed a w :=
 ⟨fun h0 => absurd (hr ▸ h0) hne, hr ▸ h⟩
theorem wpAnyL_done {listed : Array Bool} {a : Act} {w : World} (hr : Region.ready md ops listed = []) (h : Q .normal a w) : ∀ fuel, wpAnyL P md ops Q S last fuel listed a w
 | 0 => ⟨hr, h⟩
 | _ + 1 => ⟨fun _ => h, by rw [hr]; simp⟩
end
def leansB (md : Region.Mode) (ops : Array Oper) (last i : Nat) : Bool := match ops[last]? with | some o => o.after.any (fun e => Region.binds md e && e.on == i) && (i != last) | none => false
theorem takeL {P : Program} {md : Region.Mode} {l : List Oper} {Q : Exit → Act → World → Prop} {S : World → Prop} {last i : Nat} {oi : Oper} {rest : List Oper} {v : Value} {fuel : Nat} {listed : Array Bool} {a : Act} {w : World} (ho : l.drop i = oi :: rest)
 (hs : Region.noSelect l.toArray = true) (hf : Region.free md l.toArray listed i = true) (hr : (Region.ready md l.toArray listed).contains i = true) (hd : leansB md l.toArray last i = true)
 (hQ : ∀ c a w, Q (.panic c) (a.put oi.dst v) w → Q (.panic c) a w) (hy : YieldsC P l.toArray S oi v a) (hS : S w)
 (h : wpAnyL P md l.toArray Q S last fuel (listed.setIfInBounds i true) (a.put oi.dst v) w) : wpAnyL P md l.toArray Q S last (fuel + 1) listed a w := by
 have hd1 : i ≠ last := fun e => by
  subst e
  unfold leansB at hd
  split at hd
  · simp at hd
  · cases hd
 refine wpAnyL_first (drop_at ho) (Region.noSelect_spec hs) hd1 (fun o hol => ?_) hQ fuel listed a w (Region.free_spec (drop_at ho) hf) (by simpa using hr) hy hS h
 unfold leansB at hd
 rw [hol] at hd
 simp only [Bool.and_eq_true] at hd
 obtain ⟨n, hn, hb⟩ := Array.any_eq_true.1 hd.1
 simp only [Bool.and_eq_true, beq_iff_eq] at hb
 exact ⟨_, Array.getElem_mem hn, hb.1, hb.2⟩
theorem region_last {P : Program} {last id : Nat} {Q : Exit → Act → World → Prop} {a : Act} {w : World} {l : List Oper} {S : World → Prop} (hm : P.follows .mixedOrders = true) (h : wpAnyL P .any l.toArray Q S last l.toArray.size (Array.replicate l.toArray.size false) a w.drew) : (Code.region id l.toArray true).wp P Q a w :=
 wp_region_any hm (wpAny_of_L _ _ _ _ h)
end Go.Proofs.YtcgglolckkeeiaaGreat
namespace Go.Proofs.YtcgglolckkeeiaaGreat
open Go.RowKit Go.Deep
theorem zero_mt (w : World) : (zeroValue 47).run Tryz.prog w = .ok (.agg #[.slice none 0 0, .int .i64 0, .int .i64 0, .int .i64 0, .int .i64 0, .int .i64 0, .int .i64 0, .string ByteArray.empty]) w := by kernel_rfl
end Go.Proofs.YtcgglolckkeeiaaGreat
namespace Go.Proofs.YtcgglolckkeeiaaGreat
open Go.RowKit Go.Deep
attribute [local go_sem] Oper.semAt_some
theorem MtOk.kx {X : Nat → Prop} {W W' : World} {x : MtV} (h : MtOk W x) (k : KpX X W W') (s : ints x.m.d.path ≠ [] → ∀ ad, x.A = some ad → ¬ X ad.block) : MtOk W' x := ⟨k.rd h.rd s, h.len, h.nil, h.dig⟩
end Go.Proofs.YtcgglolckkeeiaaGreat
namespace Go.Proofs.YtcgglolckkeeiaaGreat
open Go.RowKit Go.Deep
attribute [local go_sem] Oper.semAt_some
theorem zero_cp (w : World) : (zeroValue 31).run Tryz.prog w = .ok (.agg #[.int .i64 0, .slice none 0 0, .slice none 0 0, .slice none 0 0, .int .i64 0, .slice none 0 0, .int .i64 0, .int .i64 0, .int .i64 0]) w := by kernel_rfl
end Go.Proofs.YtcgglolckkeeiaaGreat
namespace Go.Proofs.YtcgglolckkeeiaaGreat
open Go.RowKit Go.Deep
def cp0 : CpV := ⟨⟨0, none, 0, [], none, 0, []⟩, none, 0, [], 0, none, 0, [], ⟨0, 0, 0⟩⟩
structure Cd where
 params : Int
 V : List Int
 body : List Nd
 tests : List (List Int)
 fuel : Int
 muts : List Mt
 sc : Sc
def CpV.data (c : CpV) : Cd := ⟨c.p.params, c.p.V, c.p.body, c.testsL, c.fuel, c.muts, c.sc⟩
theorem cp0_ok (w : World) : CpOk w cp0 :=
 ⟨⟨by unfold InI cp0; simp, Nat.le_refl _, by unfold maxLen cp0; simp, fun _ => rfl, Rd.nil _ _, fun t h => by simp [cp0] at h, Nat.le_refl _, by unfold maxLen cp0; simp, fun _ => rfl, Rd.nil _ _, fun t h => by simp [cp0] at h⟩,
  by simp [cp0], by simp [cp0], Rd.nil _ _, fun x h => by simp [cp0] at h, by simp [cp0], fun x h => by simp [cp0] at h, fun _ => rfl, Rd.nil _ _, fun x h => by simp [cp0] at h, by simp [cp0], fun _ => rfl⟩
end Go.Proofs.YtcgglolckkeeiaaGreat
namespace Go.Proofs.YtcgglolckkeeiaaGreat
open Go.RowKit Go.Deep
theorem good_same {p q : PgV} (h1 : p.params = q.params) (h2 : p.V = q.V) (h3 : p.body = q.body) {t : Tr} (h : Good p t) : Good q t :=
 ⟨h3 ▸ h.hat, h3 ▸ h.size, by rw [← h1, ← h2]; exact h.vars, h.tag, h2 ▸ h.kind⟩
theorem fine_same {p q : PgV} (h1 : p.params = q.params) (h2 : p.V = q.V) (h3 : p.body = q.body) {t : Tr} (h : Fine p t) : Fine q t :=
 ⟨good_same h1 h2 h3 h.good, h3 ▸ h.len, h3 ▸ h.ar, h.dep⟩
theorem checkP_same {p q : PgV} (h1 : p.params = q.params) (h2 : p.V = q.V) (h3 : p.body = q.body) : checkP p = checkP q := by
 have e : (∃ t, Good p t) ↔ (∃ t, Good q t) := ⟨fun ⟨t, h⟩ => ⟨t, good_same h1 h2 h3 h⟩, fun ⟨t, h⟩ => ⟨t, good_same h1.symm h2.symm h3.symm h⟩⟩
 unfold checkP
 rw [h1, h2, h3]
 by_cases hq : ∃ t, Good q t
 · rw [if_pos hq, if_pos (e.2 hq)]
 · rw [if_neg hq, if_neg (fun h => hq (e.1 h))]
theorem inP_same {p q : PgV} (h1 : p.params = q.params) (h2 : p.V = q.V) (h3 : p.body = q.body) (d : Dl) : inP p d = inP q d := by
 unfold inP
 exact decide_eq_decide.2 ⟨fun ⟨t, h, h'⟩ => ⟨t, fine_same h1 h2 h3 h, h3 ▸ h'⟩, fun ⟨t, h, h'⟩ => ⟨t, fine_same h1.symm h2.symm h3.symm h, h3.symm ▸ h'⟩⟩
theorem scB_iff {a b : Sc} : scB a b = true ↔ a = b := by
 cases a; cases b
 simp [scB]
structure OkC (c : CpV) : Prop where
 prog : checkP c.p = 0
 suite : suiteZ c.p.params c.testsL c.fuel = 0
 len : c.muts.length ≤ 2000
 rise : riseM c.muts
 inp : ∀ m ∈ c.muts, inP c.p m.d = true
 odd : ∀ m ∈ c.muts, oddZ c.testsL.length m = false
 sc : c.sc = scoreZ c.muts
theorem orL_all : ∀ {l : List Int}, orL l = 0 ↔ ∀ x ∈ l, x = 0
 | [] => by simp [orL]
 | x :: l => by
  rw [orL]
  by_cases h : x = 0
  · rw [if_pos h, orL_all]; simp [h]
  · rw [if_neg h]; simp [h]
theorem unlessZ_iff {b : Bool} {n : Int} (h : n ≠ 0) : unlessZ b n = 0 ↔ b = true := by cases b <;> simp [unlessZ, h]
theorem okC {c : CpV} : cpCheckZ c = 0 ↔ OkC c := by
 unfold cpCheckZ
 rw [orL_all]
 simp only [List.mem_cons, List.not_mem_nil, or_false, forall_eq_or_imp, forall_eq]
 rw [unlessZ_iff (by decide), unlessZ_iff (by decide), unlessZ_iff (by decide), unlessZ_iff (by decide), unlessZ_iff (by decide), unlessZ_iff (by decide)]
 rw [riseB_iff, scB_iff]
 have el : c.muts.length = c.mts.length := by unfold CpV.muts; rw [List.length_map]
 have et : c.testsL.length = c.tests.length := by unfold CpV.testsL; rw [List.length_map]
 constructor
 · rintro ⟨h1, h2, h3, h4, h5, h6, h7⟩
   refine ⟨by simpa using h1, h2, by rw [el]; have := of_decide_eq_true h3; omega, h4, fun m hm => ?_, fun m hm => ?_, h7⟩
   · obtain ⟨x, hx, rfl⟩ := List.mem_map.1 hm
     have := h5
     simp only [Bool.not_eq_true', List.any_eq_false] at this
     simpa using this x hx
   · obtain ⟨x, hx, rfl⟩ := List.mem_map.1 hm
     have := h6
     simp only [Bool.not_eq_true', List.any_eq_false] at this
     rw [et]
     simpa using this x hx
 · intro h
   refine ⟨by simp [h.prog], h.suite, by have := h.len; rw [el] at this; exact decide_eq_true (by omega), h.rise, ?_, ?_, h.sc⟩
   · simp only [Bool.not_eq_true', List.any_eq_false]
     intro x hx
     simp [h.inp x.m (List.mem_map_of_mem hx)]
   · simp only [Bool.not_eq_true', List.any_eq_false]
     intro x hx
     have := h.odd x.m (List.mem_map_of_mem hx)
     rw [et] at this
     simp [this]
theorem data_iff {a b : CpV} : a.data = b.data ↔ (a.p.params = b.p.params ∧ a.p.V = b.p.V ∧ a.p.body = b.p.body) ∧ a.testsL = b.testsL ∧ a.fuel = b.fuel ∧ a.muts = b.muts ∧ a.sc = b.sc := by
 unfold CpV.data
 simp only [Cd.mk.injEq]
 constructor
 · rintro ⟨h1, h2, h3, h4, h5, h6, h7⟩; exact ⟨⟨h1, h2, h3⟩, h4, h5, h6, h7⟩
 · rintro ⟨⟨h1, h2, h3⟩, h4, h5, h6, h7⟩; exact ⟨h1, h2, h3, h4, h5, h6, h7⟩
theorem sameC_iff {a b : CpV} : sameC a b = true ↔ a.data = b.data := by
 rw [data_iff]
 unfold sameC sameP
 simp only [Bool.and_eq_true, decide_eq_true_eq, beq_iff_eq]
 constructor
 · rintro ⟨⟨h1, h2, h3⟩, h4, h5, ⟨h6, h7, h8⟩, h9⟩
   exact ⟨⟨h1, h2, h3⟩, h4, h5, h9, by rw [show a.sc = ⟨a.sc.alive, a.sc.killed, a.sc.timeout⟩ from rfl, h6, h7, h8]⟩
 · rintro ⟨h1, h2, h3, h4, h5⟩
   exact ⟨h1, h2, h3, ⟨by rw [h5], by rw [h5], by rw [h5]⟩, h4⟩
theorem OkC.same {a b : CpV} (h : OkC a) (e : a.data = b.data) : OkC b := by
 obtain ⟨⟨h1, h2, h3⟩, h4, h5, h6, h7⟩ := data_iff.1 e
 exact ⟨(checkP_same h1 h2 h3) ▸ h.prog, by rw [← h1, ← h4, ← h5]; exact h.suite, h6 ▸ h.len, h6 ▸ h.rise, fun m hm => (inP_same h1 h2 h3 m.d) ▸ h.inp m (h6 ▸ hm), fun m hm => by rw [← h4]; exact h.odd m (h6 ▸ hm), by rw [← h6, ← h7]; exact h.sc⟩
end Go.Proofs.YtcgglolckkeeiaaGreat
namespace Go.Proofs.YtcgglolckkeeiaaGreat
open Go.RowKit Go.Deep
def Sc.add (a b : Sc) : Sc := ⟨a.alive + b.alive, a.killed + b.killed, a.timeout + b.timeout⟩
end Go.Proofs.YtcgglolckkeeiaaGreat
namespace Go.Proofs.YtcgglolckkeeiaaGreat
open Go.RowKit Go.Deep
theorem right_verdict {m : Mt} (h : rightZ m = true) : m.verdict ≠ -1 := by
 intro e
 unfold rightZ at h
 rw [e] at h
 simp at h
theorem OkC.verdict {c : CpV} (h : OkC c) {m : Mt} (hm : m ∈ c.muts) : m.verdict ≠ -1 := by
 have := h.odd m hm
 unfold oddZ at this
 cases hr : rightZ m
 · rw [hr] at this; simp at this
 · exact right_verdict hr
end Go.Proofs.YtcgglolckkeeiaaGreat
namespace Go.Proofs.YtcgglolckkeeiaaGreat
open Go.RowKit Go.Deep
theorem info_mt : (Tryz.prog.info? 47).map (fun i => (i.zero, i.size, i.bytes)) = some (some (.agg #[.slice none 0 0, .int .i64 0, .int .i64 0, .int .i64 0, .int .i64 0, .int .i64 0, .int .i64 0, .string ByteArray.empty]), 8, 88) := by kernel_rfl
theorem mtsC_append (a b : List MtV) : mtsC (a ++ b) = mtsC a ++ mtsC b := by simp [mtsC]
theorem mtsC_len : ∀ l : List MtV, (mtsC l).length = l.length * 8
 | [] => rfl
 | x :: l => by
  have := mtsC_len l
  have h : mtsC (x :: l) = x.cells ++ mtsC l := rfl
  rw [h, List.length_append, this]; simp [MtV.cells]; omega
theorem mtsC_one (l : List MtV) : ∀ u ∈ mtsC l, u.oneCell' = true := fun u hu => by
 obtain ⟨x, _, hx⟩ := List.mem_flatMap.1 hu
 have := mt_one x
 rw [Array.all_eq_true'] at this
 exact this u (by simpa using hx)
theorem append_mt {W : World} {B n m cap : Nat} {v : Value} {xs : List Value} {A : Option Addr} (hown : W.ownsRow B 47 8 v n xs) (hB : B ≤ W.heap.size) (l : List MtV) (hr : Rd W A (mtsC l)) (hm : m = l.length) (hA : A = none → m = 0) (hb : n + m ≤ 1000000) :
 ∃ v' W', (Builtin.append_ #[27, 27] 27 #[v, .slice A m cap]).run Tryz.prog W = .ok v' W' ∧ W'.ownsRow B 47 8 v' (n + m) (xs ++ mtsC l) ∧ W.grownBy W' v.ownBlock ∧ (v'.ownBlock = v.ownBlock ∨ v'.ownBlock = some W.heap.size) :=
 append_rd 27 47 _ 8 88 Tryz.underlying27 info_mt rfl (by decide) (by decide) hown hB hr (by rw [mtsC_len, hm]) (mtsC_one l) hA hb
end Go.Proofs.YtcgglolckkeeiaaGreat
namespace Go.Proofs.YtcgglolckkeeiaaGreat
open Go.RowKit Go.Deep
def MtT (W : World) (x : MtV) : Prop := MtOk W x ∧ IntB W x.A
theorem MtT.same {A B : World} {x : MtV} (h : MtT A x) (hb : ∀ (a : Addr) (cs : Array Value), x.A = some a → Row A a.block 3 cs → Row B a.block 3 cs) : MtT B x :=
 ⟨⟨fun j u hj => by
  obtain ⟨a, e, hc⟩ := h.1.rd j u hj
  obtain ⟨cs, hr⟩ := h.2 a e
  exact ⟨a, e, (World.cell?_of_block (by rw [add_block]; exact (hb a cs e hr).trans (Eq.symm hr))).trans hc⟩, h.1.len, h.1.nil, h.1.dig⟩, fun a e => by
  obtain ⟨cs, hr⟩ := h.2 a e
  exact ⟨cs, hb a cs e hr⟩⟩
theorem MtT.go {A B : World} {x : MtV} (h : MtT A x) (b : Below A.heap.size A B) : MtT B x := h.same fun _ _ _ hr => hr.below b hr.lt
theorem MtT.abide {W W' : World} {x : MtV} {row : Option Nat} {q : Nat → Prop} (h : MtT W x) (hg : W.grownBy W' row) (hr : ∀ r, row = some r → False ∨ (q r ∧ ∃ o : Obj, W.heap[r]? = some o ∧ o.isCells = false)) : MtT W' x := h.same fun _ _ _ k => k.abide hg hr
theorem MtT.own {W W' : World} {x : MtV} {lim n : Nat} {v : Value} {xs : List Value} (h : MtT W x) (hown : W.ownsRow lim 47 8 v n xs) (hg : W.grownBy W' v.ownBlock) : MtT W' x := h.same fun _ _ _ k => k.grown hg (own_ne hown k (by decide))
theorem MtT.only {W W' : World} {x : MtV} {g : Nat} {t : TypeId} {cs : Array Value} (h : MtT W x) (hr : Row W g t cs) (ht : t ≠ 3) (o : Only g W W') : MtT W' x := h.same fun a cs' _ k => k.only o (fun e => by
 have h1 : W.heap[g]? = some (.cells cs' 3 (0, 0)) := by rw [← e]; exact k
 rw [show W.heap[g]? = some (.cells cs t (0, 0)) from hr] at h1
 injection h1 with h1; injection h1 with _ h1; exact ht h1)
theorem info_mtz : (Tryz.prog.info? 47).map (fun i => (i.zero, i.size)) = some (some (.agg #[.slice none 0 0, .int .i64 0, .int .i64 0, .int .i64 0, .int .i64 0, .int .i64 0, .int .i64 0, .string ByteArray.empty]), 8) := by kernel_rfl
end Go.Proofs.YtcgglolckkeeiaaGreat
namespace Go.Proofs.YtcgglolckkeeiaaGreat
open Go.RowKit Go.Deep
def bodyE : List Nd := [⟨20, 1⟩, ⟨25, 0⟩, ⟨3, 0⟩]
def treeE : Tr := .node ⟨20, 1⟩ [.node ⟨25, 0⟩ [.node ⟨3, 0⟩ []]]
def pE (g1 g2 : Nat) : PgV := ⟨1, some ⟨g1, 0, none⟩, 1, [0], some ⟨g2, 0, none⟩, 3, bodyE⟩
def mE : Mt := ⟨⟨[0], 5, 0⟩, 0, -1, 0, 0, []⟩
def mvE (g3 : Nat) : MtV := ⟨some ⟨g3, 0, none⟩, 1, mE⟩
def tvE (g4 : Nat) : IntsV := ⟨some ⟨g4, 0, none⟩, 1, [1]⟩
def cE (g1 g2 g3 g4 g5 g6 : Nat) : CpV := ⟨pE g1 g2, some ⟨g5, 0, none⟩, 1, [tvE g4], 9, some ⟨g6, 0, none⟩, 1, [mvE g3], ⟨1, 0, 0⟩⟩
theorem rd_row0 {W : World} {g : Nat} {t : TypeId} {cs : List Value} (h : Row W g t cs.toArray) : Rd W (some ⟨g, 0, none⟩) cs := rd_rowP h
theorem pE_ok {g1 g2 : Nat} {W : World} (r1 : Row W g1 3 (ints [0]).toArray) (r2 : Row W g2 74 (bodyE.flatMap Nd.cells).toArray) : (pE g1 g2).ok W :=
 ⟨by unfold InI pE; dsimp only; omega, by simp [pE], by unfold maxLen; simp [pE], fun h => (by cases h), rd_row0 r1, by simp [pE, InI], by simp [pE, bodyE], by unfold maxLen; simp [pE], fun h => (by cases h), rd_row0 r2, by simp [pE, bodyE, InI]⟩
theorem tvE_ok {g4 : Nat} {W : World} (r4 : Row W g4 3 (ints [1]).toArray) : (tvE g4).ok W :=
 ⟨by simp [tvE], by unfold maxLen; simp [tvE], fun h => (by cases h), rd_row0 r4, by simp [tvE, InI]⟩
theorem mvE_ok {g3 : Nat} {W : World} (r3 : Row W g3 3 (ints [0]).toArray) : MtOk W (mvE g3) :=
 ⟨rd_row0 r3, by simp [mvE, mE], fun h => (by cases h), by simp [mvE, mE]⟩
theorem cE_ok {g1 g2 g3 g4 g5 g6 : Nat} {W : World} (r1 : Row W g1 3 (ints [0]).toArray) (r2 : Row W g2 74 (bodyE.flatMap Nd.cells).toArray) (r3 : Row W g3 3 (ints [0]).toArray) (r4 : Row W g4 3 (ints [1]).toArray)
 (r5 : Row W g5 22 (tstC [tvE g4]).toArray) (r6 : Row W g6 47 (mtsC [mvE g3]).toArray) : CpOk W (cE g1 g2 g3 g4 g5 g6) :=
 ⟨pE_ok r1 r2, by simp [cE, pE, bodyE], by simp [cE, pE], rd_row0 r5, fun x hx => by rw [List.mem_singleton.1 hx]; exact tvE_ok r4, by simp [cE], fun x hx => by rw [List.mem_singleton.1 hx]; simp [tvE], fun h => (by cases h), rd_row0 r6, fun x hx => by rw [List.mem_singleton.1 hx]; exact mvE_ok r3, by simp [cE], fun h => (by cases h)⟩
theorem treeE_fits : treeE.fits := by
 refine .mk _ _ (by rfl) (fun k hk => ?_)
 rw [List.mem_singleton.1 hk]
 refine .mk _ _ (by rfl) (fun k hk => ?_)
 rw [List.mem_singleton.1 hk]
 exact .mk _ _ (by rfl) (fun k hk => by simp at hk)
theorem goodE (g1 g2 : Nat) : Good (pE g1 g2) treeE := ⟨⟨treeE_fits, [], by rfl⟩, by rfl, by show varsOk 1 [0]; decide, rfl, by show ofT [0] treeE = 2; decide +kernel⟩
theorem fineE (g1 g2 : Nat) : Fine (pE g1 g2) treeE := ⟨goodE g1 g2, by simp [pE, bodyE], by show ∀ x ∈ bodyE, ¬ arityZ x < 0; decide, by decide +kernel⟩
theorem inE (g1 g2 : Nat) : inP (pE g1 g2) ⟨[0], 5, 0⟩ = true := (inP_fine (fineE g1 g2) _).2 (by
 show (⟨[0], 5, 0⟩ : Dl) ∈ allZ bodyE treeE
 unfold allZ
 rw [List.mem_flatMap]
 refine ⟨(1, [0]), by simp [pathsT, pathsK, treeE], ?_⟩
 rw [List.mem_map]
 refine ⟨(5, 0), ?_, rfl⟩
 unfold choicesAt choicesZ
 rw [List.mem_flatMap]
 refine ⟨5, by rw [List.mem_map]; exact ⟨4, by simp, rfl⟩, ?_⟩
 rw [List.mem_map]
 refine ⟨0, ?_, rfl⟩
 rw [List.mem_filter]
 exact ⟨by unfold triesZ; rw [sortU_mem]; simp, by decide⟩)
theorem okE (g1 g2 g3 g4 g5 g6 : Nat) : OkC (cE g1 g2 g3 g4 g5 g6) :=
 ⟨checkP_ok.2 ⟨_, fineE g1 g2⟩, by show suiteZ 1 [[1]] 9 = 0; decide, by show [mE].length ≤ 2000; decide, trivial, fun m hm => by rw [List.mem_singleton.1 hm]; exact inE g1 g2, fun m hm => by rw [List.mem_singleton.1 hm]; show oddZ 1 mE = false; decide, by show (⟨1, 0, 0⟩ : Sc) = scoreZ [mE]; rfl⟩
theorem checkP_cp0 : checkP cp0.p = 10 := by rw [checkP_0 (by rw [checkA_0 rfl]; decide), checkA_0 rfl]
theorem info_iE : (Tryz.prog.info? 3).map (fun i => (i.zero, i.size)) = some (some (.int .i64 0), 1) := by kernel_rfl
theorem info_nE : (Tryz.prog.info? 74).map (fun i => (i.zero, i.size)) = some (some (.agg #[.int .i64 0, .int .i64 0]), 2) := by kernel_rfl
theorem info_tE : (Tryz.prog.info? 22).map (fun i => (i.zero, i.size)) = some (some (.slice none 0 0), 1) := by kernel_rfl
theorem zero_pgE {w : World} : (zeroValue 25).run Tryz.prog w = .ok (.agg #[.int .i64 0, .slice none 0 0, .slice none 0 0]) w := by kernel_rfl
end Go.Proofs.YtcgglolckkeeiaaGreat
namespace Go.Proofs.YtcgglolckkeeiaaGreat
open Go.RowKit
def lebK : Nat → List UInt8 → Option Nat
 | 0, _ => none
 | _ + 1, [] => none
 | f + 1, b :: t => if b.toNat < 128 then some 1 else (lebK f t).map (· + 1)
def lebV : List UInt8 → Nat
 | [] => 0
 | b :: t => b.toNat % 128 + 128 * lebV t
inductive LebW : List UInt8 → Prop
 | one (b : UInt8) (h : b.toNat < 128) : LebW [b]
 | more (b : UInt8) (t : List UInt8) (h : 128 ≤ b.toNat) (k : LebW t) : LebW (b :: t)
theorem LebW.pos {p : List UInt8} (h : LebW p) : 0 < p.length := by cases h <;> simp
theorem lebK_some : ∀ {f k : Nat} {t : List UInt8}, lebK f t = some k → LebW (t.take k) ∧ k ≤ f ∧ k ≤ t.length ∧ 0 < k
 | 0, _, _, h => by simp [lebK] at h
 | f + 1, k, [], h => by simp [lebK] at h
 | f + 1, k, b :: t, h => by
  rw [lebK] at h
  by_cases hb : b.toNat < 128
  · rw [if_pos hb] at h
    injection h with h
    subst h
    exact ⟨by simpa using LebW.one b hb, by omega, by simp, by omega⟩
  · rw [if_neg hb] at h
    obtain ⟨j, hj, rfl⟩ := Option.map_eq_some_iff.1 h
    obtain ⟨h1, h2, h3, h4⟩ := lebK_some hj
    exact ⟨by rw [List.take_succ_cons]; exact .more b _ (by omega) h1, by omega, by simp; omega, by omega⟩
theorem lebV_lt : ∀ (p : List UInt8), lebV p < 128 ^ p.length
 | [] => by simp [lebV]
 | b :: t => by
  have := lebV_lt t
  rw [lebV, List.length_cons, Nat.pow_succ]
  have hb : b.toNat % 128 < 128 := Nat.mod_lt _ (by decide)
  omega
theorem lebV_snoc : ∀ (p : List UInt8) (b : UInt8), lebV (p ++ [b]) = lebV p + b.toNat % 128 * 128 ^ p.length
 | [], b => by simp [lebV]
 | c :: t, b => by
  rw [List.cons_append, lebV, lebV, lebV_snoc t b, List.length_cons, Nat.pow_succ, Nat.mul_add, Nat.mul_comm 128 (b.toNat % 128 * _), Nat.mul_assoc]
  omega
theorem lebV_last : ∀ {p : List UInt8} {b : UInt8}, p.getLast? = some b → b.toNat % 128 * 128 ^ (p.length - 1) ≤ lebV p := fun {p b} h => by
 obtain ⟨q, rfl⟩ : ∃ q, p = q ++ [b] := by
  rw [List.getLast?_eq_some_iff] at h
  exact h
 rw [lebV_snoc]
 simp
theorem LebW.last {p : List UInt8} (h : LebW p) : ∃ b, p.getLast? = some b ∧ b.toNat < 128 := by
 induction h with
 | one b h => exact ⟨b, rfl, h⟩
 | more b t h k ih =>
  obtain ⟨c, hc, hl⟩ := ih
  refine ⟨c, ?_, hl⟩
  rw [List.getLast?_cons, hc]; rfl
theorem u8_of {b : UInt8} {n : Nat} (h : n = b.toNat) : UInt8.ofNat n = b := by rw [h]; simp
theorem lebF_V {p : List UInt8} (h : LebW p) : ∀ f, p.length ≤ f → (1 < p.length → p.getLast? ≠ some 0) → lebF f (lebV p) = p := by
 induction h with
 | one b hb =>
  intro f hf _
  obtain ⟨g, rfl⟩ : ∃ g, f = g + 1 := ⟨f - 1, by simp at hf; omega⟩
  have e : lebV [b] = b.toNat := by rw [lebV, lebV]; omega
  rw [e, lebF_small _ _ hb, u8_of rfl]
 | more b t hb k ih =>
  intro f hf hl
  obtain ⟨g, rfl⟩ : ∃ g, f = g + 1 := ⟨f - 1, by simp at hf; omega⟩
  have hp := k.pos
  obtain ⟨c, hc, hc1⟩ := k.last
  have hlast : (b :: t).getLast? = some c := by rw [List.getLast?_cons, hc]; rfl
  have hc0 : c ≠ 0 := fun e => hl (by simp; omega) (by rw [hlast, e])
  have hcn : 0 < c.toNat := by
   rcases Nat.eq_zero_or_pos c.toNat with h | h
   · exact absurd (UInt8.toNat_inj.1 (by simpa using h)) hc0
   · exact h
  have hv : 0 < lebV t := by
   have h1 := lebV_last hc
   have h2 : 0 < 128 ^ (t.length - 1) := Nat.pow_pos (by decide)
   have h3 : c.toNat % 128 = c.toNat := Nat.mod_eq_of_lt hc1
   rw [h3] at h1
   exact Nat.lt_of_lt_of_le (Nat.mul_pos hcn h2) h1
  have hb2 := b.toNat_lt
  have e1 : lebV (b :: t) % 128 = b.toNat % 128 := by rw [lebV]; omega
  have e2 : lebV (b :: t) / 128 = lebV t := by rw [lebV]; omega
  rw [lebF_big _ _ (by rw [lebV]; omega), e1, e2, ih g (by simp at hf; omega) (fun h1 h2 => hl (by simp; omega) (by rw [hlast, ← h2, hc])), show UInt8.ofNat (128 + b.toNat % 128) = b from u8_of (by omega)]
theorem lebV_F : ∀ (f n : Nat), n < 128 ^ f → lebV (lebF f n) = n
 | 0, n, h => by simp at h; rw [lebF, lebV, h]
 | f + 1, n, h => by
  by_cases hn : n < 128
  · rw [lebF_small _ _ hn, lebV, lebV]
    have : (UInt8.ofNat n).toNat = n := by simp; omega
    rw [this]; omega
  · rw [lebF_big _ _ hn, lebV, lebV_F f (n / 128) (by rw [Nat.pow_succ] at h; omega)]
    have : (UInt8.ofNat (128 + n % 128)).toNat = 128 + n % 128 := by simp; omega
    rw [this]; omega
theorem lebF_W : ∀ (f n : Nat), n < 128 ^ (f + 1) → LebW (lebF (f + 1) n)
 | f, n, h => by
  by_cases hn : n < 128
  · rw [lebF_small _ _ hn]
    exact .one _ (by simp; omega)
  · rw [lebF_big _ _ hn]
    cases f with
    | zero => simp at h; omega
    | succ f => exact .more _ _ (by simp; omega) (lebF_W f (n / 128) (by rw [Nat.pow_succ] at h; omega))
theorem lebF_last : ∀ (f n : Nat), n < 128 ^ (f + 1) → 1 < (lebF (f + 1) n).length → (lebF (f + 1) n).getLast? ≠ some 0
 | f, n, h, hl => by
  by_cases hn : n < 128
  · rw [lebF_small _ _ hn] at hl; simp at hl
  · rw [lebF_big _ _ hn] at hl ⊢
    cases f with
    | zero => simp at h; omega
    | succ f =>
     have hw := lebF_W f (n / 128) (by rw [Nat.pow_succ] at h; omega)
     obtain ⟨c, hc, _⟩ := hw.last
     rw [List.getLast?_cons, hc]
     show some c ≠ some 0
     by_cases h1 : 1 < (lebF (f + 1) (n / 128)).length
     · rw [← hc]; exact lebF_last f (n / 128) (by rw [Nat.pow_succ] at h; omega) h1
     · have hsm : n / 128 < 128 := by
        rcases Nat.lt_or_ge (n / 128) 128 with h2 | h2
        · exact h2
        · rw [lebF_big _ _ (by omega)] at h1
          have := lebF_pos
          cases f with
          | zero => simp at h; omega
          | succ f => have := lebF_pos f (n / 128 / 128); simp only [List.length_cons] at h1; omega
       rw [lebF_small _ _ hsm] at hc
       simp at hc
       rw [← hc]
       intro e
       injection e with e
       have := u8_eq (b := 0) (by simpa using e)
       omega
def getL (t : List UInt8) : Int × Nat × Nat :=
 match lebK 10 t with
 | none => if t.length < 10 then (2, 0, 0) else (3, 0, 0)
 | some k => if lebL (lebV (t.take k) % 18446744073709551616) = t.take k then (0, lebV (t.take k) % 18446744073709551616, k) else (3, 0, 0)
theorem leb_right {p : List UInt8} (h : LebW p) (hl : p.length ≤ 10) {b : UInt8} (hb : p.getLast? = some b) : lebL (lebV p % 18446744073709551616) = p ↔ ¬ ((b = 0 ∧ 1 < p.length) ∨ (p.length = 10 ∧ 1 < b.toNat)) := by
 have e9 : (128 : Nat) ^ 9 = 9223372036854775808 := by decide
 have e10 : (128 : Nat) ^ 10 = 1180591620717411303424 := by decide
 constructor
 · intro e hbad
   have hn : lebV p % 18446744073709551616 < 18446744073709551616 := Nat.mod_lt _ (by decide)
   have hv : lebV p = lebV p % 18446744073709551616 := by
    have h1 := lebV_F 10 (lebV p % 18446744073709551616) (by rw [e10]; omega)
    rw [show lebF 10 (lebV p % 18446744073709551616) = p from e] at h1
    exact h1
   rcases hbad with ⟨h0, h1⟩ | ⟨h1, h2⟩
   · have h3 := lebF_last 9 (lebV p % 18446744073709551616) (by rw [e10]; omega)
     rw [show lebF 10 (lebV p % 18446744073709551616) = p from e] at h3
     exact h3 h1 (by rw [hb, h0])
   · have h3 := lebV_last hb
     obtain ⟨c, hc, hc1⟩ := h.last
     rw [hb] at hc
     injection hc with hc
     subst hc
     rw [h1, Nat.mod_eq_of_lt hc1] at h3
     rw [show (10 : Nat) - 1 = 9 from rfl, e9] at h3
     omega
 · intro hg
   obtain ⟨c, hc, hc1⟩ := h.last
   rw [hb] at hc
   injection hc with hc
   subst hc
   have hlt : lebV p < 18446744073709551616 := by
    rcases Nat.lt_or_ge p.length 10 with h1 | h1
    · have h2 := lebV_lt p
      have h3 : 128 ^ p.length ≤ 128 ^ 9 := Nat.pow_le_pow_right (by decide) (by omega)
      rw [e9] at h3
      omega
    · obtain ⟨q, rfl⟩ : ∃ q, p = q ++ [b] := by rw [List.getLast?_eq_some_iff] at hb; exact hb
      have hq : q.length = 9 := by simp at hl h1; omega
      rw [lebV_snoc, hq, e9]
      have h2 := lebV_lt q
      rw [hq, e9] at h2
      have h3 : b.toNat ≤ 1 := by
       rcases Nat.lt_or_ge 1 b.toNat with h4 | h4
       · exact absurd (.inr ⟨by simp; omega, h4⟩) hg
       · exact h4
      have h5 : b.toNat % 128 ≤ 1 := by omega
      have h6 : b.toNat % 128 * 9223372036854775808 ≤ 9223372036854775808 := by
       rcases Nat.le_one_iff_eq_zero_or_eq_one.1 h5 with h | h <;> rw [h] <;> decide
      omega
   rw [Nat.mod_eq_of_lt hlt]
   exact lebF_V h 10 hl (fun h1 h2 => hg (.inl ⟨by rw [hb] at h2; exact Option.some.inj h2, h1⟩))
theorem getL_put (n : Nat) (hn : n < 18446744073709551616) (r : List UInt8) : getL (lebL n ++ r) = (0, n, (lebL n).length) := by
 have e10 : (128 : Nat) ^ 10 = 1180591620717411303424 := by decide
 have hw : LebW (lebL n) := lebF_W 9 n (by rw [e10]; omega)
 have hk : ∀ {p : List UInt8}, LebW p → ∀ f, p.length ≤ f → lebK f (p ++ r) = some p.length := by
  intro p hp
  induction hp with
  | one b hb =>
   intro f hf
   obtain ⟨g, rfl⟩ : ∃ g, f = g + 1 := ⟨f - 1, by simp at hf; omega⟩
   simp [lebK, hb]
  | more b t hb k ih =>
   intro f hf
   obtain ⟨g, rfl⟩ : ∃ g, f = g + 1 := ⟨f - 1, by simp at hf; omega⟩
   rw [List.cons_append, lebK, if_neg (by omega), ih g (by simp at hf; omega)]
   rfl
 unfold getL
 rw [hk hw 10 (lebL_len n)]
 have hv : lebV (lebL n) = n := lebV_F 10 n (by rw [e10]; omega)
 simp only [List.take_left', hv, Nat.mod_eq_of_lt hn, if_true]
end Go.Proofs.YtcgglolckkeeiaaGreat
