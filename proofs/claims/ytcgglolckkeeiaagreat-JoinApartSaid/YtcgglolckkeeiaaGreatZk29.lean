/- Lemmas for JnBll. -/
import Derived.Test.YtcgglolckkeeiaaGreatZk28
import Derived.Test.YtcgglolckkeeiaaGreatZk24
import Derived.Test.YtcgglolckkeeiaaGreatZk23
import Derived.Test.YtcgglolckkeeiaaGreatZk10
import Derived.Test.YtcgglolckkeeiaaGreatZk18
namespace Go.Proofs.YtcgglolckkeeiaaGreat
set_option linter.unusedVariables false
open Go.RowKit Go.Deep
theorem toldZ_mem {l : List Mt} (hl : riseM l) {x : Mt} (hx : x ∈ l) : toldZ l x.d = x.verdict := by
 unfold toldZ
 cases h : l.find? (fun m => decide (cmpD m.d x.d = 0)) with
 | none =>
  have := List.find?_eq_none.1 h x hx
  simp [cmpD_self] at this
 | some m =>
  have h1 := List.find?_some h
  have h2 := List.mem_of_find?_eq_some h
  rw [riseM_uniq hl h2 hx (by simpa using h1)]
theorem toldZ_no {l : List Mt} {d : Dl} (h : ∀ x ∈ l, cmpD x.d d ≠ 0) : toldZ l d = -1 := by
 unfold toldZ
 rw [List.find?_eq_none.2 (fun x hx => by simpa using h x hx)]
theorem riseM_drop {l a : List Mt} {i : Nat} (hl : riseM l) (h : l.drop i = a) : riseM a := by
 subst h
 induction i with
 | zero => simpa using hl
 | succ i ih =>
  cases h2 : l.drop i with
  | nil => rw [← List.drop_drop, h2]; exact riseM_iff.2 (by simp [riseD])
  | cons x r => rw [h2] at ih; rw [← List.drop_drop, h2]; exact riseM_tail ih
theorem mem_split {l a : List Mt} {i : Nat} (h : l.drop i = a) (x : Mt) : x ∈ l ↔ x ∈ l.take i ∨ x ∈ a := by
 rw [← h, ← List.mem_append, List.take_append_drop]
theorem take_more {l a : List Mt} {i : Nat} {u : Mt} (h : l.drop i = u :: a) {x : Mt} (hx : x ∈ l.take (i + 1)) : x ∈ l.take i ∨ x = u := by
 rw [List.take_add_one, (drop_head h).1] at hx
 simpa using hx
theorem zipN_told (A B : List Mt) (hA : riseM A) (hB : riseM B) : ∀ (a b : List Mt) (i k : Nat), A.drop i = a → B.drop k = b → (∀ x ∈ A.take i, ∀ y ∈ b, cmpD x.d y.d < 0) → (∀ y ∈ B.take k, ∀ x ∈ a, cmpD y.d x.d < 0) →
 ∀ z ∈ zipN a b i k, toldZ A (pickN A B z).d = vdN A z.1 ∧ toldZ B (pickN A B z).d = vdN B z.2
 | [], [], _, _, _, _, _, _, z, h => by simp [zipN] at h
 | [], y :: b, i, k, h1, h2, ha, hb, z, h => by
  obtain ⟨e1, e2⟩ := drop_head h2
  rw [zipN] at h
  rcases List.mem_cons.1 h with rfl | h
  · rw [pickN_r e1]
    exact ⟨toldZ_no fun x hx => by
     rcases (mem_split h1 x).1 hx with h | h
     · have := ha x h y (by simp); omega
     · simp at h, (toldZ_mem hB (List.mem_of_getElem? e1)).trans (vdN_some e1).symm⟩
  · exact zipN_told A B hA hB [] b i (k + 1) h1 e2 (fun x hx u hu => ha x hx u (by simp [hu])) (fun _ _ x hx => by simp at hx) z h
 | x :: a, [], i, k, h1, h2, ha, hb, z, h => by
  obtain ⟨e1, e2⟩ := drop_head h1
  rw [zipN] at h
  rcases List.mem_cons.1 h with rfl | h
  · rw [pickN_l e1]
    exact ⟨(toldZ_mem hA (List.mem_of_getElem? e1)).trans (vdN_some e1).symm, toldZ_no fun u hu => by
     rcases (mem_split h2 u).1 hu with h | h
     · have := hb u h x (by simp); omega
     · simp at h⟩
  · exact zipN_told A B hA hB a [] (i + 1) k e2 h2 (fun _ _ u hu => by simp at hu) (fun u hu v hv => hb u hu v (by simp [hv])) z h
 | x :: a, y :: b, i, k, h1, h2, ha, hb, z, h => by
  obtain ⟨e1, e2⟩ := drop_head h1
  obtain ⟨e3, e4⟩ := drop_head h2
  have ra := riseM_drop hA h1
  have rb := riseM_drop hB h2
  rw [zipN] at h
  by_cases h3 : cmpD x.d y.d < 0
  · rw [if_pos h3] at h
    have hxb : ∀ u ∈ y :: b, cmpD x.d u.d < 0 := fun u hu => by
     rcases List.mem_cons.1 hu with rfl | hu
     · exact h3
     · exact cmpD_trans h3 (riseM_head rb hu)
    rcases List.mem_cons.1 h with rfl | h
    · rw [pickN_l e1]
      exact ⟨(toldZ_mem hA (List.mem_of_getElem? e1)).trans (vdN_some e1).symm, toldZ_no fun u hu => by
       rcases (mem_split h2 u).1 hu with h | h
       · have := hb u h x (by simp); omega
       · have := hxb u h; rw [cmpD_neg]; omega⟩
    · exact zipN_told A B hA hB a (y :: b) (i + 1) k e2 h2 (fun v hv u hu => by
       rcases take_more h1 hv with hv | rfl
       · exact ha v hv u hu
       · exact hxb u hu) (fun u hu v hv => hb u hu v (by simp [hv])) z h
  by_cases h4 : 0 < cmpD x.d y.d
  · rw [if_neg h3, if_pos h4] at h
    have hyx : cmpD y.d x.d < 0 := by rw [cmpD_neg]; omega
    have hya : ∀ u ∈ x :: a, cmpD y.d u.d < 0 := fun u hu => by
     rcases List.mem_cons.1 hu with rfl | hu
     · exact hyx
     · exact cmpD_trans hyx (riseM_head ra hu)
    rcases List.mem_cons.1 h with rfl | h
    · rw [pickN_r e3]
      exact ⟨toldZ_no fun u hu => by
       rcases (mem_split h1 u).1 hu with h | h
       · have := ha u h y (by simp); omega
       · have := hya u h; rw [cmpD_neg]; omega, (toldZ_mem hB (List.mem_of_getElem? e3)).trans (vdN_some e3).symm⟩
    · exact zipN_told A B hA hB (x :: a) b i (k + 1) h1 e4 (fun v hv u hu => ha v hv u (by simp [hu])) (fun u hu v hv => by
       rcases take_more h2 hu with hu | rfl
       · exact hb u hu v hv
       · exact hya v hv) z h
  · rw [if_neg h3, if_neg h4] at h
    have h0 : cmpD x.d y.d = 0 := by omega
    have hd : x.d = y.d := cmpD_eq.1 h0
    rcases List.mem_cons.1 h with rfl | h
    · rw [pickN_l e1]
      exact ⟨(toldZ_mem hA (List.mem_of_getElem? e1)).trans (vdN_some e1).symm, by rw [hd]; exact (toldZ_mem hB (List.mem_of_getElem? e3)).trans (vdN_some e3).symm⟩
    · exact zipN_told A B hA hB a b (i + 1) (k + 1) e2 e4 (fun v hv u hu => by
       rcases take_more h1 hv with hv | rfl
       · exact ha v hv u (by simp [hu])
       · rw [hd]; exact riseM_head rb hu) (fun u hu v hv => by
       rcases take_more h2 hu with hu | rfl
       · exact hb u hu v (by simp [hv])
       · rw [← hd]; exact riseM_head ra hv) z h
termination_by a b => a.length + b.length
theorem filterMap_same {α β : Type} {f g : α → Option β} : ∀ (l : List α), (∀ x ∈ l, f x = g x) → l.filterMap f = l.filterMap g
 | [], _ => rfl
 | x :: l, h => by rw [List.filterMap_cons, List.filterMap_cons, h x (by simp), filterMap_same l (fun y hy => h y (by simp [hy]))]
theorem diffL_told (a b : List Mt) (ha : riseM a) (hb : riseM b) : diffL a b = (mergeM a b).filterMap fun m => if toldZ a m.d = toldZ b m.d then none else some (m.d, toldZ a m.d, toldZ b m.d) := by
 rw [← zipN_pick a b a b 0 0 rfl rfl, List.filterMap_map]
 unfold diffL
 refine filterMap_same _ fun z hz => ?_
 obtain ⟨h1, h2⟩ := zipN_told a b ha hb a b 0 0 rfl rfl (fun x hx => by simp at hx) (fun x hx => by simp at hx) z hz
 simp only [chgN, Function.comp]
 rw [h1, h2]
end Go.Proofs.YtcgglolckkeeiaaGreat
namespace Go.Proofs.YtcgglolckkeeiaaGreat
set_option linter.unusedVariables false
open Go.RowKit Go.Deep
def agZ (a b : List Mt) (z : ZX) : Bool := match z with
 | (some _, some k) => sameM (pickN a b z) ((b[k]?).getD (pickN a b z))
 | _ => true
theorem zipN_pair (A B : List Mt) : ∀ (a b : List Mt) (i k : Nat), A.drop i = a → B.drop k = b → riseM a → riseM b → ∀ x ∈ a, ∀ y ∈ b, cmpD x.d y.d = 0 → ∃ i' k', (some i', some k') ∈ zipN a b i k ∧ A[i']? = some x ∧ B[k']? = some y
 | [], _, _, _, _, _, _, _, x, hx, _, _, _ => by simp at hx
 | _ :: _, [], _, _, _, _, _, _, _, _, y, hy, _ => by simp at hy
 | u :: a, v :: b, i, k, h1, h2, ra, rb, x, hx, y, hy, h0 => by
  obtain ⟨e1, e2⟩ := drop_head h1
  obtain ⟨e3, e4⟩ := drop_head h2
  rw [zipN]
  have hd : x.d = y.d := cmpD_eq.1 h0
  by_cases h3 : cmpD u.d v.d < 0
  · rw [if_pos h3]
    have hxa : x ∈ a := by
     rcases List.mem_cons.1 hx with rfl | h
     · exfalso
       rcases List.mem_cons.1 hy with rfl | h
       · omega
       · have := cmpD_trans h3 (riseM_head rb h); omega
     · exact h
    obtain ⟨i', k', q1, q2⟩ := zipN_pair A B a (v :: b) (i + 1) k e2 h2 (riseM_tail ra) rb x hxa y hy h0
    exact ⟨i', k', List.mem_cons_of_mem _ q1, q2⟩
  by_cases h4 : 0 < cmpD u.d v.d
  · rw [if_neg h3, if_pos h4]
    have hvu : cmpD v.d u.d < 0 := by rw [cmpD_neg]; omega
    have hyb : y ∈ b := by
     rcases List.mem_cons.1 hy with rfl | h
     · exfalso
       have hn : cmpD y.d x.d = 0 := by rw [hd]; exact cmpD_self _
       rcases List.mem_cons.1 hx with rfl | h
       · omega
       · have := cmpD_trans hvu (riseM_head ra h); omega
     · exact h
    obtain ⟨i', k', q1, q2⟩ := zipN_pair A B (u :: a) b i (k + 1) h1 e4 ra (riseM_tail rb) x hx y hyb h0
    exact ⟨i', k', List.mem_cons_of_mem _ q1, q2⟩
  · rw [if_neg h3, if_neg h4]
    have huv : u.d = v.d := cmpD_eq.1 (by omega)
    rcases List.mem_cons.1 hx with rfl | hxa
    · rcases List.mem_cons.1 hy with rfl | hyb
      · exact ⟨i, k, by simp, e1, e3⟩
      · have := riseM_head rb hyb
        rw [← hd, huv, cmpD_self] at this
        omega
    · rcases List.mem_cons.1 hy with rfl | hyb
      · have := riseM_head ra hxa
        rw [hd, huv, cmpD_self] at this
        omega
      · obtain ⟨i', k', q1, q2⟩ := zipN_pair A B a b (i + 1) (k + 1) e2 e4 (riseM_tail ra) (riseM_tail rb) x hxa y hyb h0
        exact ⟨i', k', List.mem_cons_of_mem _ q1, q2⟩
termination_by a b => a.length + b.length
theorem agZ_pair {a b : List Mt} {i k : Nat} {x y : Mt} (hx : a[i]? = some x) (hy : b[k]? = some y) : agZ a b (some i, some k) = sameM x y := by simp [agZ, pickN, hx, hy]
theorem agZ_all {a b : List Mt} (ha : riseM a) (hb : riseM b) : (zipN a b 0 0).all (agZ a b) = true ↔ ∀ x ∈ a, ∀ y ∈ b, cmpD x.d y.d = 0 → sameM x y = true := by
 rw [List.all_eq_true]
 constructor
 · intro h x hx y hy h0
   obtain ⟨i, k, q, e1, e2⟩ := zipN_pair a b a b 0 0 rfl rfl ha hb x hx y hy h0
   rw [← agZ_pair e1 e2]
   exact h _ q
 · intro h z hz
   rcases zipN_mem a b a b 0 0 rfl rfl z hz with ⟨i, x, rfl, _⟩ | ⟨k, y, rfl, _⟩ | ⟨i, k, x, y, rfl, e1, e2, h0⟩
   · rfl
   · rfl
   · rw [agZ_pair e1 e2]
     exact h x (List.mem_of_getElem? e1) y (List.mem_of_getElem? e2) h0
theorem agZ_agree {a b : List Mt} (ha : riseM a) (hb : riseM b) : (zipN a b 0 0).all (agZ a b) = true ↔ agreeM a b := by
 rw [agZ_all ha hb]
 exact ⟨fun h x hx y hy h0 => sameM_iff.1 (h x hx y hy h0), fun h x hx y hy h0 => sameM_iff.2 (h x hx y hy h0)⟩
end Go.Proofs.YtcgglolckkeeiaaGreat
namespace Go.Proofs.YtcgglolckkeeiaaGreat
set_option linter.unusedVariables false
open Go.RowKit Go.Deep
def sameS (a b : CpV) : Prop := sameP a.p b.p = true ∧ a.testsL = b.testsL ∧ a.fuel = b.fuel
open Classical in
noncomputable def mergeE (a b : CpV) : Int := if cpChecks a b ≠ 0 then cpChecks a b else if sameS a b then (if (zipN a.muts b.muts 0 0).all (agZ a.muts b.muts) = true then 0 else 21) else 26
theorem mergeE_chk {a b : CpV} (h : cpChecks a b ≠ 0) : mergeE a b = cpChecks a b := if_pos h
theorem mergeE_26 {a b : CpV} (h : cpChecks a b = 0) (h2 : ¬ sameS a b) : mergeE a b = 26 := by unfold mergeE; rw [if_neg (by simp [h]), if_neg h2]
theorem mergeE_in {a b : CpV} (h : cpChecks a b = 0) (h2 : sameS a b) : mergeE a b = if (zipN a.muts b.muts 0 0).all (agZ a.muts b.muts) = true then 0 else 21 := by unfold mergeE; rw [if_neg (by simp [h]), if_pos h2]
def cp0 : CpV := ⟨⟨0, none, 0, [], none, 0, []⟩, none, 0, [], 0, none, 0, [], ⟨0, 0, 0⟩⟩
structure Cd where
 params : Int
 V : List Int
 body : List Nd
 tests : List (List Int)
 fuel : Int
 muts : List Mt
 sc : Sc
def CpV.data (c : CpV) : Cd := ⟨c.p.params, c.p.V, c.p.body, c.testsL, c.fuel, c.muts, c.sc⟩
def mergeD (a b : Cd) : Cd := { a with muts := mergeM a.muts b.muts, sc := scoreZ (mergeM a.muts b.muts) }
noncomputable def mgZ (a b : CpV) : Cd := if mergeE a b = 0 then mergeD a.data b.data else cp0.data
theorem cp0_ok (w : World) : CpOk w cp0 :=
 ⟨⟨by unfold InI cp0; simp, Nat.le_refl _, by unfold maxLen cp0; simp, fun _ => rfl, Rd.nil _ _, fun t h => by simp [cp0] at h, Nat.le_refl _, by unfold maxLen cp0; simp, fun _ => rfl, Rd.nil _ _, fun t h => by simp [cp0] at h⟩,
  by simp [cp0], by simp [cp0], Rd.nil _ _, fun x h => by simp [cp0] at h, by simp [cp0], fun x h => by simp [cp0] at h, fun _ => rfl, Rd.nil _ _, fun x h => by simp [cp0] at h, by simp [cp0], fun _ => rfl⟩
end Go.Proofs.YtcgglolckkeeiaaGreat
namespace Go.Proofs.YtcgglolckkeeiaaGreat
set_option linter.unusedVariables false
open Go.RowKit Go.Deep
theorem good_same {p q : PgV} (h1 : p.params = q.params) (h2 : p.V = q.V) (h3 : p.body = q.body) {t : Tr} (h : Good p t) : Good q t :=
 ⟨h3 ▸ h.hat, h3 ▸ h.size, by rw [← h1, ← h2]; exact h.vars, h.tag, h2 ▸ h.kind⟩
theorem fine_same {p q : PgV} (h1 : p.params = q.params) (h2 : p.V = q.V) (h3 : p.body = q.body) {t : Tr} (h : Fine p t) : Fine q t :=
 ⟨good_same h1 h2 h3 h.good, h3 ▸ h.len, h3 ▸ h.ar, h.dep⟩
theorem checkP_same {p q : PgV} (h1 : p.params = q.params) (h2 : p.V = q.V) (h3 : p.body = q.body) : checkP p = checkP q := by
 have e : (∃ t, Good p t) ↔ (∃ t, Good q t) := ⟨fun ⟨t, h⟩ => ⟨t, good_same h1 h2 h3 h⟩, fun ⟨t, h⟩ => ⟨t, good_same h1.symm h2.symm h3.symm h⟩⟩
 unfold checkP
 rw [h1, h2, h3]
 by_cases hq : ∃ t, Good q t
 · rw [if_pos hq, if_pos (e.2 hq)]
 · rw [if_neg hq, if_neg (fun h => hq (e.1 h))]
theorem inP_same {p q : PgV} (h1 : p.params = q.params) (h2 : p.V = q.V) (h3 : p.body = q.body) (d : Dl) : inP p d = inP q d := by
 unfold inP
 exact decide_eq_decide.2 ⟨fun ⟨t, h, h'⟩ => ⟨t, fine_same h1 h2 h3 h, h3 ▸ h'⟩, fun ⟨t, h, h'⟩ => ⟨t, fine_same h1.symm h2.symm h3.symm h, h3.symm ▸ h'⟩⟩
theorem scB_iff {a b : Sc} : scB a b = true ↔ a = b := by
 cases a; cases b
 simp [scB]
structure OkC (c : CpV) : Prop where
 prog : checkP c.p = 0
 suite : suiteZ c.p.params c.testsL c.fuel = 0
 len : c.muts.length ≤ 2000
 rise : riseM c.muts
 inp : ∀ m ∈ c.muts, inP c.p m.d = true
 odd : ∀ m ∈ c.muts, oddZ c.testsL.length m = false
 sc : c.sc = scoreZ c.muts
theorem orL_all : ∀ {l : List Int}, orL l = 0 ↔ ∀ x ∈ l, x = 0
 | [] => by simp [orL]
 | x :: l => by
  rw [orL]
  by_cases h : x = 0
  · rw [if_pos h, orL_all]; simp [h]
  · rw [if_neg h]; simp [h]
theorem unlessZ_iff {b : Bool} {n : Int} (h : n ≠ 0) : unlessZ b n = 0 ↔ b = true := by cases b <;> simp [unlessZ, h]
theorem okC {c : CpV} : cpCheckZ c = 0 ↔ OkC c := by
 unfold cpCheckZ
 rw [orL_all]
 simp only [List.mem_cons, List.not_mem_nil, or_false, forall_eq_or_imp, forall_eq]
 rw [unlessZ_iff (by decide), unlessZ_iff (by decide), unlessZ_iff (by decide), unlessZ_iff (by decide), unlessZ_iff (by decide), unlessZ_iff (by decide)]
 rw [riseB_iff, scB_iff]
 have el : c.muts.length = c.mts.length := by unfold CpV.muts; rw [List.length_map]
 have et : c.testsL.length = c.tests.length := by unfold CpV.testsL; rw [List.length_map]
 constructor
 · rintro ⟨h1, h2, h3, h4, h5, h6, h7⟩
   refine ⟨by simpa using h1, h2, by rw [el]; have := of_decide_eq_true h3; omega, h4, fun m hm => ?_, fun m hm => ?_, h7⟩
   · obtain ⟨x, hx, rfl⟩ := List.mem_map.1 hm
     have := h5
     simp only [Bool.not_eq_true', List.any_eq_false] at this
     simpa using this x hx
   · obtain ⟨x, hx, rfl⟩ := List.mem_map.1 hm
     have := h6
     simp only [Bool.not_eq_true', List.any_eq_false] at this
     rw [et]
     simpa using this x hx
 · intro h
   refine ⟨by simp [h.prog], h.suite, by have := h.len; rw [el] at this; exact decide_eq_true (by omega), h.rise, ?_, ?_, h.sc⟩
   · simp only [Bool.not_eq_true', List.any_eq_false]
     intro x hx
     simp [h.inp x.m (List.mem_map_of_mem hx)]
   · simp only [Bool.not_eq_true', List.any_eq_false]
     intro x hx
     have := h.odd x.m (List.mem_map_of_mem hx)
     rw [et] at this
     simp [this]
theorem data_iff {a b : CpV} : a.data = b.data ↔ (a.p.params = b.p.params ∧ a.p.V = b.p.V ∧ a.p.body = b.p.body) ∧ a.testsL = b.testsL ∧ a.fuel = b.fuel ∧ a.muts = b.muts ∧ a.sc = b.sc := by
 unfold CpV.data
 simp only [Cd.mk.injEq]
 constructor
 · rintro ⟨h1, h2, h3, h4, h5, h6, h7⟩; exact ⟨⟨h1, h2, h3⟩, h4, h5, h6, h7⟩
 · rintro ⟨⟨h1, h2, h3⟩, h4, h5, h6, h7⟩; exact ⟨h1, h2, h3, h4, h5, h6, h7⟩
theorem sameC_iff {a b : CpV} : sameC a b = true ↔ a.data = b.data := by
 rw [data_iff]
 unfold sameC sameP
 simp only [Bool.and_eq_true, decide_eq_true_eq, beq_iff_eq]
 constructor
 · rintro ⟨⟨h1, h2, h3⟩, h4, h5, ⟨h6, h7, h8⟩, h9⟩
   exact ⟨⟨h1, h2, h3⟩, h4, h5, h9, by rw [show a.sc = ⟨a.sc.alive, a.sc.killed, a.sc.timeout⟩ from rfl, h6, h7, h8]⟩
 · rintro ⟨h1, h2, h3, h4, h5⟩
   exact ⟨h1, h2, h3, ⟨by rw [h5], by rw [h5], by rw [h5]⟩, h4⟩
theorem sameS_iff {a b : CpV} : sameS a b ↔ (a.p.params = b.p.params ∧ a.p.V = b.p.V ∧ a.p.body = b.p.body) ∧ a.testsL = b.testsL ∧ a.fuel = b.fuel := by
 unfold sameS sameP
 rw [decide_eq_true_eq]
theorem sameS_symm {a b : CpV} (h : sameS a b) : sameS b a := by
 obtain ⟨⟨h1, h2, h3⟩, h4, h5⟩ := sameS_iff.1 h
 exact sameS_iff.2 ⟨⟨h1.symm, h2.symm, h3.symm⟩, h4.symm, h5.symm⟩
theorem OkC.same {a b : CpV} (h : OkC a) (e : a.data = b.data) : OkC b := by
 obtain ⟨⟨h1, h2, h3⟩, h4, h5, h6, h7⟩ := data_iff.1 e
 exact ⟨(checkP_same h1 h2 h3) ▸ h.prog, by rw [← h1, ← h4, ← h5]; exact h.suite, h6 ▸ h.len, h6 ▸ h.rise, fun m hm => (inP_same h1 h2 h3 m.d) ▸ h.inp m (h6 ▸ hm), fun m hm => by rw [← h4]; exact h.odd m (h6 ▸ hm), by rw [← h6, ← h7]; exact h.sc⟩
theorem checks_iff {a b : CpV} : cpChecks a b = 0 ↔ OkC a ∧ OkC b := by
 unfold cpChecks
 by_cases h : cpCheckZ a = 0
 · rw [if_neg (by simp [h]), okC]
   exact ⟨fun h2 => ⟨okC.1 h, h2⟩, fun h2 => h2.2⟩
 · rw [if_pos h]
   exact ⟨fun h2 => absurd h2 h, fun h2 => absurd (okC.2 h2.1) h⟩
structure Joins (a b : CpV) : Prop where
 ha : OkC a
 hb : OkC b
 same : sameS a b
 agree : agreeM a.muts b.muts
theorem mergeE_0 {a b : CpV} : mergeE a b = 0 ↔ Joins a b := by
 by_cases h : cpChecks a b = 0
 · obtain ⟨ha, hb⟩ := checks_iff.1 h
   by_cases h2 : sameS a b
   · rw [mergeE_in h h2]
     by_cases h3 : (zipN a.muts b.muts 0 0).all (agZ a.muts b.muts) = true
     · rw [if_pos h3]
       exact ⟨fun _ => ⟨ha, hb, h2, (agZ_agree ha.rise hb.rise).1 h3⟩, fun _ => rfl⟩
     · rw [if_neg h3]
       exact ⟨fun h9 => absurd h9 (by decide), fun h9 => absurd ((agZ_agree ha.rise hb.rise).2 h9.agree) h3⟩
   · rw [mergeE_26 h h2]
     exact ⟨fun h9 => absurd h9 (by decide), fun h9 => absurd h9.same h2⟩
 · rw [mergeE_chk h]
   exact ⟨fun h9 => absurd h9 h, fun h9 => absurd (checks_iff.2 ⟨h9.ha, h9.hb⟩) h⟩
theorem mergeE_no {a b : CpV} (ha : OkC a) (hb : OkC b) (h : ¬ sameS a b) : mergeE a b = 26 := mergeE_26 (checks_iff.2 ⟨ha, hb⟩) h
theorem Joins.symm {a b : CpV} (h : Joins a b) : Joins b a := ⟨h.hb, h.ha, sameS_symm h.same, agreeM_symm h.agree⟩
theorem mergeM_length : ∀ (a b : List Mt), (mergeM a b).length ≤ a.length + b.length
 | [], b => by rw [mergeM_nil']; simp
 | x :: a, [] => by rw [mergeM_nil]; simp
 | x :: a, y :: b => by
  rw [mergeM]
  have h1 := mergeM_length a (y :: b)
  have h2 := mergeM_length (x :: a) b
  have h3 := mergeM_length a b
  simp only [List.length_cons] at h1 h2 h3 ⊢
  split
  · simp only [List.length_cons]; omega
  · split <;> (simp only [List.length_cons]; omega)
termination_by a b => a.length + b.length
theorem Joins.ok {a b c : CpV} (h : Joins a b) (e : c.data = mergeD a.data b.data) (hl : a.muts.length + b.muts.length ≤ 2000) : OkC c := by
 have e1 : c.p.params = a.p.params := congrArg Cd.params e
 have e2 : c.p.V = a.p.V := congrArg Cd.V e
 have e3 : c.p.body = a.p.body := congrArg Cd.body e
 have e4 : c.testsL = a.testsL := congrArg Cd.tests e
 have e5 : c.fuel = a.fuel := congrArg Cd.fuel e
 have e6 : c.muts = mergeM a.muts b.muts := congrArg Cd.muts e
 have e7 : c.sc = scoreZ (mergeM a.muts b.muts) := congrArg Cd.sc e
 obtain ⟨⟨s1, s2, s3⟩, s4, s5⟩ := sameS_iff.1 h.same
 have hm := agreeM_mem h.ha.rise h.hb.rise h.agree
 refine ⟨(checkP_same e1 e2 e3).trans h.ha.prog, by rw [e1, e4, e5]; exact h.ha.suite, by rw [e6]; exact Nat.le_trans (mergeM_length _ _) hl, by rw [e6]; exact mergeM_rise h.ha.rise h.hb.rise, fun m hmm => ?_, fun m hmm => ?_, by rw [e6, e7]⟩
 · rw [e6, hm] at hmm
   rcases hmm with hmm | hmm
   · rw [inP_same e1 e2 e3]; exact h.ha.inp m hmm
   · rw [inP_same (e1.trans s1) (e2.trans s2) (e3.trans s3)]; exact h.hb.inp m hmm
 · rw [e6, hm] at hmm
   rw [e4]
   rcases hmm with hmm | hmm
   · exact h.ha.odd m hmm
   · rw [s4]; exact h.hb.odd m hmm
theorem mgZ_0 {a b : CpV} (h : Joins a b) : mgZ a b = mergeD a.data b.data := by unfold mgZ; rw [if_pos (mergeE_0.2 h)]
end Go.Proofs.YtcgglolckkeeiaaGreat
namespace Go.Proofs.YtcgglolckkeeiaaGreat
set_option linter.unusedVariables false
open Go.RowKit Go.Deep
def Sc.add (a b : Sc) : Sc := ⟨a.alive + b.alive, a.killed + b.killed, a.timeout + b.timeout⟩
end Go.Proofs.YtcgglolckkeeiaaGreat
namespace Go.Proofs.YtcgglolckkeeiaaGreat
set_option linter.unusedVariables false
open Go.RowKit Go.Deep
def swZ (z : ZX) : ZX := (z.2, z.1)
def swC (x : Dl × Int × Int) : Dl × Int × Int := (x.1, x.2.2, x.2.1)
theorem zipN_swap : ∀ (a b : List Mt) (i k : Nat), zipN b a k i = (zipN a b i k).map swZ
 | [], [], i, k => by simp [zipN]
 | [], y :: b, i, k => by rw [zipN, zipN, List.map_cons, zipN_swap [] b i (k + 1)]; rfl
 | x :: a, [], i, k => by rw [zipN, zipN, List.map_cons, zipN_swap a [] (i + 1) k]; rfl
 | x :: a, y :: b, i, k => by
  rw [zipN, zipN]
  have hn := cmpD_neg x.d y.d
  have h1 := zipN_swap a (y :: b) (i + 1) k
  have h2 := zipN_swap (x :: a) b i (k + 1)
  have h3 := zipN_swap a b (i + 1) (k + 1)
  by_cases q1 : cmpD x.d y.d < 0
  · rw [if_neg (by omega), if_pos (by omega), if_pos q1, List.map_cons, h1]; rfl
  by_cases q2 : 0 < cmpD x.d y.d
  · rw [if_pos (by omega), if_neg q1, if_pos q2, List.map_cons, h2]; rfl
  · rw [if_neg (by omega), if_neg (by omega), if_neg q1, if_neg q2, List.map_cons, h3]; rfl
termination_by a b => a.length + b.length
theorem chgN_swap {a b : List Mt} {z : ZX} (hz : z ∈ zipN a b 0 0) : chgN b a (swZ z) = (chgN a b z).map swC := by
 have hd : (pickN b a (swZ z)).d = (pickN a b z).d := by
  rcases zipN_mem a b a b 0 0 rfl rfl z hz with ⟨i, x, rfl, hx⟩ | ⟨k, y, rfl, hy⟩ | ⟨i, k, x, y, rfl, hx, hy, h0⟩
  · show (pickN b a (none, some i)).d = _
    rw [pickN_l hx, pickN_r hx]
  · show (pickN b a (some k, none)).d = _
    rw [pickN_l hy, pickN_r hy]
  · show (pickN b a (some k, some i)).d = _
    rw [pickN_l hx, pickN_l hy]; exact (cmpD_eq.1 h0).symm
 unfold chgN
 show (if vdN b z.2 = vdN a z.1 then none else some ((pickN b a (swZ z)).d, vdN b z.2, vdN a z.1)) = _
 by_cases h : vdN a z.1 = vdN b z.2
 · rw [if_pos h, if_pos h.symm]; rfl
 · rw [if_neg h, if_neg (fun e => h e.symm), hd]; rfl
theorem diffL_swap (a b : List Mt) : diffL b a = (diffL a b).map swC := by
 unfold diffL
 rw [zipN_swap a b 0 0, List.filterMap_map, List.map_filterMap]
 exact filterMap_same _ fun z hz => chgN_swap hz
theorem riseM_pw : ∀ {l : List Mt}, riseM l → l.Pairwise fun x y => cmpD x.d y.d < 0
 | [], _ => List.Pairwise.nil
 | x :: l, h => List.Pairwise.cons (fun _ hy => riseM_head h hy) (riseM_pw (riseM_tail h))
theorem riseM_of : ∀ {l : List Mt}, l.Pairwise (fun x y => cmpD x.d y.d < 0) → riseM l
 | [], _ => trivial
 | x :: l, h => by
  rw [List.pairwise_cons] at h
  exact riseM_cons (riseM_of h.2) h.1
theorem diffL_pw {a b : List Mt} (ha : riseM a) (hb : riseM b) : (diffL a b).Pairwise fun p q => cmpD p.1 q.1 < 0 := by
 rw [diffL_told a b ha hb, List.pairwise_filterMap]
 refine (riseM_pw (mergeM_rise ha hb)).imp fun {x y} h p hp q hq => ?_
 by_cases h1 : toldZ a x.d = toldZ b x.d
 · rw [if_pos h1] at hp; exact absurd hp (by simp)
 by_cases h2 : toldZ a y.d = toldZ b y.d
 · rw [if_pos h2] at hq; exact absurd hq (by simp)
 rw [if_neg h1] at hp; rw [if_neg h2] at hq
 simp only [Option.some.injEq] at hp hq
 rw [← hp, ← hq]; exact h
theorem pw_get {α : Type} {R : α → α → Prop} {l : List α} (h : l.Pairwise R) {i j : Nat} {x y : α} (hx : l[i]? = some x) (hy : l[j]? = some y) (hij : i < j) : R x y := by
 obtain ⟨h1, rfl⟩ := List.getElem?_eq_some_iff.1 hx
 obtain ⟨h2, rfl⟩ := List.getElem?_eq_some_iff.1 hy
 exact List.pairwise_iff_getElem.1 h i j h1 h2 hij
theorem diffL_mem {a b : List Mt} (ha : riseM a) (hb : riseM b) (d : Dl) : (∃ p ∈ diffL a b, p.1 = d) ↔ toldZ a d ≠ toldZ b d := by
 rw [diffL_told a b ha hb]
 constructor
 · rintro ⟨p, hp, rfl⟩
   obtain ⟨m, hm, e⟩ := List.mem_filterMap.1 hp
   by_cases h1 : toldZ a m.d = toldZ b m.d
   · rw [if_pos h1] at e; exact absurd e (by simp)
   · rw [if_neg h1] at e
     simp only [Option.some.injEq] at e
     rw [← e]; exact h1
 · intro h
   have hm : ∃ m ∈ mergeM a b, m.d = d := by
    by_cases h1 : ∃ m ∈ a, m.d = d
    · obtain ⟨m, hm, e⟩ := h1
      exact ⟨m, (mergeM_mem ha hb m).2 (.inl hm), e⟩
    by_cases h2 : ∃ m ∈ b, m.d = d
    · obtain ⟨m, hm, e⟩ := h2
      exact ⟨m, (mergeM_mem ha hb m).2 (.inr ⟨hm, fun y hy e2 => h1 ⟨y, hy, (cmpD_eq.1 e2).trans e⟩⟩), e⟩
    · exact absurd ((toldZ_no fun x hx e => h1 ⟨x, hx, cmpD_eq.1 e⟩).trans (toldZ_no fun x hx e => h2 ⟨x, hx, cmpD_eq.1 e⟩).symm) h
   obtain ⟨m, hm, rfl⟩ := hm
   exact ⟨_, List.mem_filterMap.2 ⟨m, hm, by rw [if_neg h]⟩, rfl⟩
theorem diffL_self {a : List Mt} (ha : riseM a) : diffL a a = [] := by
 rw [diffL_told a a ha ha]
 exact List.filterMap_eq_nil_iff.2 fun m _ => if_pos rfl
theorem told_step {l : List Mt} (hl : riseM l) {k : Nat} {m : Mt} (hm : l[k]? = some m) (d : Dl) : toldZ (l.take (k + 1)) d = if cmpD m.d d = 0 then m.verdict else toldZ (l.take k) d := by
 have hr : ∀ n, riseM (l.take n) := fun n => riseM_of ((riseM_pw hl).sublist (List.take_sublist n l))
 have ht : l.take (k + 1) = l.take k ++ [m] := by rw [List.take_add_one, hm]; rfl
 by_cases h : cmpD m.d d = 0
 · rw [if_pos h, ← cmpD_eq.1 h]
   exact toldZ_mem (hr (k + 1)) (by rw [ht]; simp)
 · rw [if_neg h, ht]
   unfold toldZ
   rw [List.find?_append]
   cases hf : (l.take k).find? (fun m => decide (cmpD m.d d = 0)) with
   | some x => rfl
   | none =>
    rw [List.find?_cons]
    simp [h]
theorem right_verdict {m : Mt} (h : rightZ m = true) : m.verdict ≠ -1 := by
 intro e
 unfold rightZ at h
 rw [e] at h
 simp at h
theorem OkC.verdict {c : CpV} (h : OkC c) {m : Mt} (hm : m ∈ c.muts) : m.verdict ≠ -1 := by
 have := h.odd m hm
 unfold oddZ at this
 cases hr : rightZ m
 · rw [hr] at this; simp at this
 · exact right_verdict hr
end Go.Proofs.YtcgglolckkeeiaaGreat
namespace Go.Proofs.YtcgglolckkeeiaaGreat
set_option linter.unusedVariables false
open Go.RowKit Go.Deep
theorem at_app {ops : Array Oper} {rest : List Oper} {o : Oper} {a : Act} {w : World} {Q : Exit → Act → World → Prop} (s x : Operand) (t u : TypeId) (_ : o.op = .call { callee := .builtin .append, args := #[s, x], argTypes := #[t, u] }) (h : Stop (wpList Tryz.prog ops Q (o :: rest) a w) id) : wpList Tryz.prog ops Q (o :: rest) a w := h.out
theorem run_exec_slc {P : Program} {o : Oper} {w w1 : World} {ρ : Operand → Value} {x lo : Operand} {t : TypeId} (ho : o.op = .slice t x (some lo) none none) {v : Value} (hv : (Instr.sliceAt t (ρ x) (some (ρ lo)) none none).run P w = .ok v w1) : (execOp ρ o).run P w = .ok (.value v) w1 := by
 simp only [execOp, ho, Option.map_some, Option.map_none, Sem.run_bind, hv, Result.andThen_ok, Sem.run_pure]
theorem run_slL (W : World) (A : Option Addr) (n cap p : Nat) (h : p ≤ n) : (Instr.sliceAt 27 (.slice A n cap) (some (.int .i64 (p : Int))) none none).run Tryz.prog W = .ok (sliced A p n cap 8) W := by
 refine (run_sliceAt_slice (P := Tryz.prog) (w := W) 27 (.slice A n cap) (some (.int .i64 (p : Int))) none none (by kernel_rfl)).trans ?_
 refine (run_slice_l (P := Tryz.prog) (w := W) 27 A n cap (by kernel_rfl) .i64 (p : Int) (by omega) (by omega)).trans ?_
 rw [Int.toNat_natCast, show (sizeOf (Tryz.prog.elem 27)).run Tryz.prog W = .ok 8 W from by kernel_rfl]
 rfl
theorem info_mt : (Tryz.prog.info? 47).map (fun i => (i.zero, i.size, i.bytes)) = some (some (.agg #[.slice none 0 0, .int .i64 0, .int .i64 0, .int .i64 0, .int .i64 0, .int .i64 0, .int .i64 0, .string ByteArray.empty]), 8, 88) := by kernel_rfl
theorem bs_mut0 (W : World) : (Instr.buildSlice 27 0 #[]).run Tryz.prog W = .ok (.slice (some ⟨W.heap.size, 0, none⟩) 0 0) (W.alloc (.cells #[] 47)) := by kernel_rfl
theorem mtsC_append (a b : List MtV) : mtsC (a ++ b) = mtsC a ++ mtsC b := by simp [mtsC]
theorem mtsC_len : ∀ l : List MtV, (mtsC l).length = l.length * 8
 | [] => rfl
 | x :: l => by
  have := mtsC_len l
  have h : mtsC (x :: l) = x.cells ++ mtsC l := rfl
  rw [h, List.length_append, this]; simp [MtV.cells]; omega
theorem mtsC_one (l : List MtV) : ∀ u ∈ mtsC l, u.oneCell' = true := fun u hu => by
 obtain ⟨x, _, hx⟩ := List.mem_flatMap.1 hu
 have := mt_one x
 rw [Array.all_eq_true'] at this
 exact this u (by simpa using hx)
theorem append_mt {W : World} {B n m cap : Nat} {v : Value} {xs : List Value} {A : Option Addr} (hown : W.ownsRow B 47 8 v n xs) (hB : B ≤ W.heap.size) (l : List MtV) (hr : Rd W A (mtsC l)) (hm : m = l.length) (hA : A = none → m = 0) (hb : n + m ≤ 1000000) :
 ∃ v' W', (Builtin.append_ #[27, 27] 27 #[v, .slice A m cap]).run Tryz.prog W = .ok v' W' ∧ W'.ownsRow B 47 8 v' (n + m) (xs ++ mtsC l) ∧ W.grownBy W' v.ownBlock ∧ (v'.ownBlock = v.ownBlock ∨ v'.ownBlock = some W.heap.size) :=
 append_rd 27 47 _ 8 88 Tryz.underlying27 info_mt rfl (by decide) (by decide) hown hB hr (by rw [mtsC_len, hm]) (mtsC_one l) hA hb
theorem mts_take {W : World} {A : Option Addr} {l : List MtV} (h : Rd W A (mtsC l)) (p : Nat) : Rd W A (mtsC (l.take p)) := fun j u hj => h j u (by
 have e : mtsC l = mtsC (l.take p) ++ mtsC (l.drop p) := by rw [← mtsC_append, List.take_append_drop]
 rw [e, List.getElem?_append_left (List.getElem?_eq_some_iff.1 hj).1]; exact hj)
theorem mts_drop {W : World} {A : Option Addr} {l : List MtV} (h : Rd W A (mtsC l)) {p n cap : Nat} (hn : n = l.length) (hpn : p ≤ n) (hc : n ≤ cap) (hA : A = none → l = []) : ∃ X, sliced A p n cap 8 = .slice X (n - p) (cap - p) ∧ Rd W X (mtsC (l.drop p)) ∧ (X = none → n - p = 0) := by
 by_cases hcp : cap = p
 · refine ⟨A, by simp [sliced, hcp], ?_, fun e => by omega⟩
   rw [List.drop_eq_nil_of_le (by omega)]; exact Rd.nil _ _
 · refine ⟨A.map (·.add (p * 8)), by simp [sliced, hcp], ?_, fun e => by
    have : A = none := by simpa using e
    have := hA this
    subst this; simp at hn; omega⟩
   by_cases hne : mtsC (l.drop p) = []
   · rw [hne]; exact Rd.nil _ _
   · have e : mtsC l = mtsC (l.take p) ++ mtsC (l.drop p) := by rw [← mtsC_append, List.take_append_drop]
     have hlen : (mtsC (l.take p)).length = p * 8 := by rw [mtsC_len, List.length_take]; congr 1; omega
     obtain ⟨ad', e1, e2⟩ := Rd.part h (p * 8) (mtsC (l.drop p)) (fun j u hj => by rw [e, List.getElem?_append_right (by omega), hlen, Nat.add_sub_cancel_left]; exact hj) hne
     subst e1
     exact fun j u hj => ⟨_, rfl, e2 j u hj⟩
def posF (d : Dl) : List Mt → Nat → Nat → Nat
 | [], _, p => p
 | m :: r, k, p => posF d r (k + 1) (if cmpD m.d d < 0 then k + 1 else p)
theorem posF_on {d : Dl} {l : List Mt} {k p : Nat} {m : Mt} (hm : l[k]? = some m) : posF d (l.drop k) k p = posF d (l.drop (k + 1)) (k + 1) (if cmpD m.d d < 0 then k + 1 else p) := by
 have hk := (List.getElem?_eq_some_iff.1 hm).1
 have he := (List.getElem?_eq_some_iff.1 hm).2
 rw [List.drop_eq_getElem_cons hk, he, posF]
def putZ {α : Type} (f : α → Mt) (l : List α) (y : α) : List α := let p := posF (f y).d (l.map f) 0 0; l.take p ++ [y] ++ l.drop p
structure MtsR (l : List MtV) (w w' : World) (e : Ending) : Prop where
 ex : ∃ v, e = .returned v ∧ w'.ownsRow w.heap.size 47 8 v l.length (mtsC l) ∧ Below w.heap.size w w'
set_option maxRecDepth 100000 in
set_option maxHeartbeats 4000000 in
theorem put_any (A : Option Addr) (cap n : Nat) (l : List MtV) (y : MtV) (w : World) (hn : n = l.length) (hcap : n ≤ cap) (hnil : A = none → l = []) (hr : Rd w A (mtsC l)) (hl : l.length < 1000000) (hok : ∀ x ∈ l, MtOk w x) (hy : MtOk w y) :
 Calls Tryz.prog 107 #[.slice A n cap, .agg y.cells.toArray] w fun e w' => MtsR (putZ MtV.m l y) w w' e := by
 have Hn := Lib.hid hn
 have Hnil := Lib.hid hnil
 have hnI : (n : Int) ≤ 1000000 := by omega
 have Hnl : Hid (n < 1000000) := by rw [Hid, hn]; exact hl
 clear hl hn hnil
 go_enter Tryz.func107, Tryz.ntmps107
 go_wp2_with (refine at_box _ _ rfl ?_)
 refine Stop.to ?_
 refine wpList_box_gen rfl 47 _ rfl y.cells.toArray rfl ?_
 intro G Gw Gh Gr Gb
 have b1 := (Below.refl w.heap.size w).trans (Gb.mono Gh)
 obtain ⟨S, hSd⟩ : ∃ S, S = (fun W => (Row W G 47 y.cells.toArray ∧ Rd W A (mtsC l)) ∧ ((∀ x ∈ l, MtOk W x) ∧ MtOk W y) ∧ Below w.heap.size w W) := ⟨_, rfl⟩
 have stS : St S := by rw [hSd]; infer_instance
 have T0 : Hid (∀ W, S W → Row W G 47 y.cells.toArray) := by show ∀ W, _; rw [hSd]; exact fun W h => h.1.1
 have T1 : Hid (∀ W, S W → Rd W A (mtsC l)) := by show ∀ W, _; rw [hSd]; exact fun W h => h.1.2
 have T2 : Hid (∀ W, S W → ∀ x ∈ l, MtOk W x) := by show ∀ W, _; rw [hSd]; exact fun W h => h.2.1.1
 have T3 : Hid (∀ W, S W → MtOk W y) := by show ∀ W, _; rw [hSd]; exact fun W h => h.2.1.2
 have T4 : Hid (∀ W, S W → Below w.heap.size w W) := by show ∀ W, _; rw [hSd]; exact fun W h => h.2.2
 have hS : S Gw := by rw [hSd]; exact ⟨⟨Gr, hr.go b1⟩, ⟨fun x hx => (hok x hx).go b1, hy.go b1⟩, b1⟩
 clear hSd Gr Gb Gh b1 hr hok hy
 go_wp2_with fail
 go_loopw [5, 6] (fun q i wr => ∃ p k : Nat, q = .int .i64 (p : Int) ∧ i = .int .i64 (k : Int) ∧ p ≤ k ∧ k ≤ n ∧ Hid (posF y.m.d (l.map MtV.m) 0 0 = posF y.m.d ((l.map MtV.m).drop k) k p) ∧ S wr) (fun _ i _ => n - (intOf i).toNat)
 case atStart => exact ⟨0, 0, by simp, by simp, Nat.le_refl _, Nat.zero_le _, by simp [Hid], hS⟩
 case round =>
  clear hS
  obtain ⟨p, k, rfl, rfl, hpk, hk1, Hk, hS⟩ := hrel
  by_cases hkn : k < n
  rotate_left
  · have hge : ¬ ((k : Int) < (n : Int)) := by omega
    obtain rfl : k = n := by omega
    have Hf : Hid (posF y.m.d (l.map MtV.m) 0 0 = p) := by rw [Hid, Hk.out, List.drop_eq_nil_of_le (by have := Hn.out; simp; omega)]; rfl
    clear hkn Hk
    have HA0 : Hid (A = none → p = 0) := fun e => by
     have h1 := Hnil.out e
     have h2 := Hn.out
     rw [h1] at h2; simp at h2; omega
    have HA1 : Hid (A = none → l = []) := Hnil.out
    rcases A with _ | ad
    · have hpc : (p : Int) ≤ (cap : Int) := by omega
      have hpn : (p : Int) ≤ (k : Int) := by omega
      have hp0 : (0 : Int) ≤ (p : Int) := by omega
      have hb0 := T4.out _ hS
      go_wp2_with (refine at_slice _ _ _ rfl ?_)
      refine Stop.to ?_
      refine wpList_res rfl _ (run_exec_bslice [] rfl (bs_mut0 wr)) ?_
      have rN := Row.new wr 47 #[]
      have bN := (Below.refl wr.heap.size wr).alloc (Nat.le_refl _) (.cells #[] 47)
      have hown0 := own_emptyS (B := wr.heap.size) (size := 8) (Nat.le_refl _) rN
      have hS1 := stS.go hS bN
      generalize wr.alloc (.cells #[] 47) = w1 at rN bN hown0 hS1 ⊢
      obtain ⟨v2, w2, hrun2, hown2, hgr2, -⟩ := append_mt (m := p) (cap := cap) hown0 bN.size (l.take p) (mts_take (T1.out _ hS1) p) (by have := Hn.out; simp; omega) (fun e => by first | exact HA0.out trivial | exact HA0.out e | cases e) (by omega)
      have Hrun2 := Lib.hid hrun2
      have b2 := below_grown_own bN hown0 hgr2 bN.size (Nat.le_refl _)
      have hS2 : S w2 := stS.go hS b2
      clear hrun2 hgr2 rN bN hown0 hS1
      go_wp2_with (refine at_app _ _ _ _ rfl ?_)
      refine Stop.to ?_
      refine wpList_res rfl _ (run_exec_append rfl Hrun2.out) ?_
      clear Hrun2
      go_wp2_with (first | (refine at_slice _ _ _ rfl ?_) | (refine wpList_load_row rfl 47 _ rfl G rfl 47 y.cells.toArray (0, 0) _ (T0.out _ hS2) Tryz.underlying47 rfl (by kernel_rfl) ?_))
      refine Stop.to ?_
      refine wpList_slice_gen rfl 27 1 _ rfl 47 y.cells.toArray (fun W => by kernel_rfl) ?_
      intro M Mw Mh Mr Mb
      have b3 := b2.trans ((Mb.mono Mh).mono b2.size)
      have hown3 := own_below hown2 (Mb.mono Mh)
      obtain ⟨v4, w4, hrun4, hown4, hgr4, -⟩ := append_mt (m := 1) (cap := 1) hown3 b3.size [y] (rd_rowP (cs := mtsC [y]) (by simpa [mtsC] using Mr)) rfl (by simp) (by have := Hnl.out; omega)
      have Hrun4 := Lib.hid hrun4
      have b4 := below_grown_own b3 hown3 hgr4 b3.size (Nat.le_refl _)
      have hS4 : S w4 := stS.go hS b4
      clear hrun4 hgr4 hown2 b2 hS2 hown3 Mr Mb Mh b3
      refine wpList_res rfl _ (run_exec_append rfl Hrun4.out) ?_
      obtain ⟨X, hX, hrX, hX0⟩ := mts_drop (T1.out _ hS4) (cap := cap) Hn.out (by omega : p ≤ k) hcap (fun e => by first | exact HA1.out trivial | exact HA1.out e | cases e)
      obtain ⟨v6, w6, hrun6, hown6, hgr6, -⟩ := append_mt (m := k - p) (cap := cap - p) hown4 b4.size (l.drop p) hrX (by rw [List.length_drop, ← Hn.out]) hX0 (by have := Hnl.out; omega)
      have Hrun6 := Lib.hid hrun6
      have b6 := below_grown_own b4 hown4 hgr6 b4.size (Nat.le_refl _)
      have Hsl := Lib.hid (hX ▸ run_slL w4 none k cap p (by omega))
      have HF : Hid (MtsR (putZ MtV.m l y) w w6 (.returned v6)) := by
       refine ⟨v6, rfl, ?_, hb0.trans (b6.mono hb0.size)⟩
       have e0 : putZ MtV.m l y = l.take p ++ [y] ++ l.drop p := by simp only [putZ, Hf.out]
       have e1 : (putZ MtV.m l y).length = 0 + p + 1 + (k - p) := by rw [e0]; simp [← Hn.out]; omega
       rw [e1, e0, mtsC_append, mtsC_append]
       refine ⟨hown6.1, ?_⟩
       rcases hown6.2 with h | ⟨g, c, cur, h1, h2, h3⟩
       · exact Or.inl h
       · exact Or.inr ⟨g, c, cur, h1, Nat.le_trans hb0.size h2, h3⟩
      clear Hrun4 hb0 T0 T1 T2 T3 T4 Hf hS Hn hnI Hnl hX hrX hX0 hrun6 hown6 hgr6 b6 hown4 b4 hS4 hge hpk hk1 HA0 HA1
      go_wp2_with (first | (refine at_app _ _ _ _ rfl ?_) | (refine at_stopC ?_))
      refine Stop.to ?_
      refine wpList_res rfl _ (run_exec_slc rfl Hsl.out) ?_
      refine wpList_res rfl _ (run_exec_append rfl Hrun6.out) ?_
      go_wp2_with fail
      go_ret
      exact HF.out
    · have hpc : (p : Int) ≤ (cap : Int) := by omega
      have hpn : (p : Int) ≤ (k : Int) := by omega
      have hp0 : (0 : Int) ≤ (p : Int) := by omega
      have hb0 := T4.out _ hS
      go_wp2_with (refine at_slice _ _ _ rfl ?_)
      refine Stop.to ?_
      refine wpList_res rfl _ (run_exec_bslice [] rfl (bs_mut0 wr)) ?_
      have rN := Row.new wr 47 #[]
      have bN := (Below.refl wr.heap.size wr).alloc (Nat.le_refl _) (.cells #[] 47)
      have hown0 := own_emptyS (B := wr.heap.size) (size := 8) (Nat.le_refl _) rN
      have hS1 := stS.go hS bN
      generalize wr.alloc (.cells #[] 47) = w1 at rN bN hown0 hS1 ⊢
      obtain ⟨v2, w2, hrun2, hown2, hgr2, -⟩ := append_mt (m := p) (cap := cap) hown0 bN.size (l.take p) (mts_take (T1.out _ hS1) p) (by have := Hn.out; simp; omega) (fun e => by first | exact HA0.out trivial | exact HA0.out e | cases e) (by omega)
      have Hrun2 := Lib.hid hrun2
      have b2 := below_grown_own bN hown0 hgr2 bN.size (Nat.le_refl _)
      have hS2 : S w2 := stS.go hS b2
      clear hrun2 hgr2 rN bN hown0 hS1
      go_wp2_with (refine at_app _ _ _ _ rfl ?_)
      refine Stop.to ?_
      refine wpList_res rfl _ (run_exec_append rfl Hrun2.out) ?_
      clear Hrun2
      go_wp2_with (first | (refine at_slice _ _ _ rfl ?_) | (refine wpList_load_row rfl 47 _ rfl G rfl 47 y.cells.toArray (0, 0) _ (T0.out _ hS2) Tryz.underlying47 rfl (by kernel_rfl) ?_))
      refine Stop.to ?_
      refine wpList_slice_gen rfl 27 1 _ rfl 47 y.cells.toArray (fun W => by kernel_rfl) ?_
      intro M Mw Mh Mr Mb
      have b3 := b2.trans ((Mb.mono Mh).mono b2.size)
      have hown3 := own_below hown2 (Mb.mono Mh)
      obtain ⟨v4, w4, hrun4, hown4, hgr4, -⟩ := append_mt (m := 1) (cap := 1) hown3 b3.size [y] (rd_rowP (cs := mtsC [y]) (by simpa [mtsC] using Mr)) rfl (by simp) (by have := Hnl.out; omega)
      have Hrun4 := Lib.hid hrun4
      have b4 := below_grown_own b3 hown3 hgr4 b3.size (Nat.le_refl _)
      have hS4 : S w4 := stS.go hS b4
      clear hrun4 hgr4 hown2 b2 hS2 hown3 Mr Mb Mh b3
      refine wpList_res rfl _ (run_exec_append rfl Hrun4.out) ?_
      obtain ⟨X, hX, hrX, hX0⟩ := mts_drop (T1.out _ hS4) (cap := cap) Hn.out (by omega : p ≤ k) hcap (fun e => by first | exact HA1.out trivial | exact HA1.out e | cases e)
      obtain ⟨v6, w6, hrun6, hown6, hgr6, -⟩ := append_mt (m := k - p) (cap := cap - p) hown4 b4.size (l.drop p) hrX (by rw [List.length_drop, ← Hn.out]) hX0 (by have := Hnl.out; omega)
      have Hrun6 := Lib.hid hrun6
      have b6 := below_grown_own b4 hown4 hgr6 b4.size (Nat.le_refl _)
      have Hsl := Lib.hid (hX ▸ run_slL w4 (some ad) k cap p (by omega))
      have HF : Hid (MtsR (putZ MtV.m l y) w w6 (.returned v6)) := by
       refine ⟨v6, rfl, ?_, hb0.trans (b6.mono hb0.size)⟩
       have e0 : putZ MtV.m l y = l.take p ++ [y] ++ l.drop p := by simp only [putZ, Hf.out]
       have e1 : (putZ MtV.m l y).length = 0 + p + 1 + (k - p) := by rw [e0]; simp [← Hn.out]; omega
       rw [e1, e0, mtsC_append, mtsC_append]
       refine ⟨hown6.1, ?_⟩
       rcases hown6.2 with h | ⟨g, c, cur, h1, h2, h3⟩
       · exact Or.inl h
       · exact Or.inr ⟨g, c, cur, h1, Nat.le_trans hb0.size h2, h3⟩
      clear Hrun4 hb0 T0 T1 T2 T3 T4 Hf hS Hn hnI Hnl hX hrX hX0 hrun6 hown6 hgr6 b6 hown4 b4 hS4 hge hpk hk1 HA0 HA1
      go_wp2_with (first | (refine at_app _ _ _ _ rfl ?_) | (refine at_stopC ?_))
      refine Stop.to ?_
      refine wpList_res rfl _ (run_exec_slc rfl Hsl.out) ?_
      refine wpList_res rfl _ (run_exec_append rfl Hrun6.out) ?_
      go_wp2_with fail
      go_ret
      exact HF.out
  obtain ⟨x, hx⟩ : ∃ x, l[k]? = some x := ⟨_, List.getElem?_eq_getElem (by have := Hn.out; omega)⟩
  obtain ⟨ad, had, _⟩ := mt_at (T1.out _ hS) hx
  subst had
  have Hc : Hid (∀ W, S W → ∀ j u, x.cells[j]? = some u → W.cell? ((ad.add (k * 8)).add j) = some u) := fun W h => by
   obtain ⟨ad', e1, e2⟩ := mt_at (T1.out W h) hx
   injection e1 with e1; subst e1; exact e2
  have hka : (k : Int) < (n : Int) := by omega
  have Hst := Lib.hid (posF_on (d := y.m.d) (l := l.map MtV.m) (k := k) (p := p) (m := x.m) (by simp [hx]))
  have Hmem := Lib.hid (List.mem_of_getElem? hx)
  clear hx hkn
  go_wp2_with fail
  refine region_hold S (by kernel_rfl) (by kernel_rfl) (St.drew hS) ?_
  clear hS
  iterate 4 (refine hold_value rfl ?_ (fun W hW => ?_) ?_; rotate_left; (focus (go_simp; exact rfl)); simp only [Act.put, List.setIfInBounds_toArray, List.set_cons_zero, List.set_cons_succ])
  (refine hold_load_at rfl 42 _ rfl (_) rfl x.dl.cells.toList _ (fun W hW => mt_dlat (Hc.out W hW)) Tryz.underlying42 rfl (by kernel_rfl) ?_; simp only [Act.put, List.setIfInBounds_toArray, List.set_cons_zero, List.set_cons_succ])
  (refine hold_value rfl ?_ (fun W hW => ?_) ?_; rotate_left; (focus (go_simp; exact rfl)); simp only [Act.put, List.setIfInBounds_toArray, List.set_cons_zero, List.set_cons_succ])
  (refine hold_load_at rfl 42 _ rfl (_) rfl y.dl.cells.toList _ (fun W hW => mt_dl (T0.out W hW)) Tryz.underlying42 rfl (by kernel_rfl) ?_; simp only [Act.put, List.setIfInBounds_toArray, List.set_cons_zero, List.set_cons_succ])
  (refine hold_call_new rfl 57 _ (fun W => by (go_simp; try rfl)) (.int .i64 (cmpD x.m.d y.m.d)) (fun W hW => refDlCmp_any x.dl y.dl W (T2.out W hW x Hmem.out).dl (T3.out W hW).dl) ?_; simp only [Act.put, List.setIfInBounds_toArray, List.set_cons_zero, List.set_cons_succ])
  (refine hold_value rfl ?_ (fun W hW => ?_) ?_; rotate_left; (focus (go_simp; exact rfl)); simp only [Act.put, List.setIfInBounds_toArray, List.set_cons_zero, List.set_cons_succ])
  refine wpHold_nil fun W hS => ?_
  obtain ⟨c, hc⟩ : ∃ c, c = cmpD x.m.d y.m.d := ⟨_, rfl⟩
  rw [← hc]
  rw [← hc] at Hst
  clear hc
  by_cases h0 : c < 0
  · have Hf : Hid (posF y.m.d (l.map MtV.m) 0 0 = posF y.m.d ((l.map MtV.m).drop (k + 1)) (k + 1) (k + 1)) := by rw [Hid, Hk.out, Hst.out, if_pos h0]
    clear Hk Hst
    go_wp2_with fail
    refine ⟨⟨k + 1, k + 1, by simp, by simp, by omega, by omega, Hf, hS⟩, ?_⟩
    simp only [intOf]; omega
  · have Hf : Hid (posF y.m.d (l.map MtV.m) 0 0 = posF y.m.d ((l.map MtV.m).drop (k + 1)) (k + 1) p) := by rw [Hid, Hk.out, Hst.out, if_neg h0]
    clear Hk Hst
    go_wp2_with fail
    refine ⟨⟨p, k + 1, rfl, by simp, by omega, by omega, Hf, hS⟩, ?_⟩
    simp only [intOf]; omega
end Go.Proofs.YtcgglolckkeeiaaGreat
