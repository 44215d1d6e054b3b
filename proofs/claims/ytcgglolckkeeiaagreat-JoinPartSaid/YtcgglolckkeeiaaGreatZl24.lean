/- Lemmas for JnCll. -/
import Derived.Test.YtcgglolckkeeiaaGreatZl23
import Derived.Test.YtcgglolckkeeiaaGreatZl20
import Derived.Test.YtcgglolckkeeiaaGreatZl8
import Derived.Test.YtcgglolckkeeiaaGreatZl15
namespace Go.Proofs.YtcgglolckkeeiaaGreat
set_option linter.unusedVariables false
open Go.RowKit Go.Deep
theorem toldZ_mem {l : List Mt} (hl : riseM l) {x : Mt} (hx : x ∈ l) : toldZ l x.d = x.verdict := by
 unfold toldZ
 cases h : l.find? (fun m => decide (cmpD m.d x.d = 0)) with
 | none =>
  have := List.find?_eq_none.1 h x hx
  simp [cmpD_self] at this
 | some m =>
  have h1 := List.find?_some h
  have h2 := List.mem_of_find?_eq_some h
  rw [riseM_uniq hl h2 hx (by simpa using h1)]
theorem toldZ_no {l : List Mt} {d : Dl} (h : ∀ x ∈ l, cmpD x.d d ≠ 0) : toldZ l d = -1 := by
 unfold toldZ
 rw [List.find?_eq_none.2 (fun x hx => by simpa using h x hx)]
theorem riseM_drop {l a : List Mt} {i : Nat} (hl : riseM l) (h : l.drop i = a) : riseM a := by
 subst h
 induction i with
 | zero => simpa using hl
 | succ i ih =>
  cases h2 : l.drop i with
  | nil => rw [← List.drop_drop, h2]; exact riseM_iff.2 (by simp [riseD])
  | cons x r => rw [h2] at ih; rw [← List.drop_drop, h2]; exact riseM_tail ih
theorem mem_split {l a : List Mt} {i : Nat} (h : l.drop i = a) (x : Mt) : x ∈ l ↔ x ∈ l.take i ∨ x ∈ a := by
 rw [← h, ← List.mem_append, List.take_append_drop]
theorem take_more {l a : List Mt} {i : Nat} {u : Mt} (h : l.drop i = u :: a) {x : Mt} (hx : x ∈ l.take (i + 1)) : x ∈ l.take i ∨ x = u := by
 rw [List.take_add_one, (drop_head h).1] at hx
 simpa using hx
theorem zipN_told (A B : List Mt) (hA : riseM A) (hB : riseM B) : ∀ (a b : List Mt) (i k : Nat), A.drop i = a → B.drop k = b → (∀ x ∈ A.take i, ∀ y ∈ b, cmpD x.d y.d < 0) → (∀ y ∈ B.take k, ∀ x ∈ a, cmpD y.d x.d < 0) →
 ∀ z ∈ zipN a b i k, toldZ A (pickN A B z).d = vdN A z.1 ∧ toldZ B (pickN A B z).d = vdN B z.2
 | [], [], _, _, _, _, _, _, z, h => by simp [zipN] at h
 | [], y :: b, i, k, h1, h2, ha, hb, z, h => by
  obtain ⟨e1, e2⟩ := drop_head h2
  rw [zipN] at h
  rcases List.mem_cons.1 h with rfl | h
  · rw [pickN_r e1]
    exact ⟨toldZ_no fun x hx => by
     rcases (mem_split h1 x).1 hx with h | h
     · have := ha x h y (by simp); omega
     · simp at h, (toldZ_mem hB (List.mem_of_getElem? e1)).trans (vdN_some e1).symm⟩
  · exact zipN_told A B hA hB [] b i (k + 1) h1 e2 (fun x hx u hu => ha x hx u (by simp [hu])) (fun _ _ x hx => by simp at hx) z h
 | x :: a, [], i, k, h1, h2, ha, hb, z, h => by
  obtain ⟨e1, e2⟩ := drop_head h1
  rw [zipN] at h
  rcases List.mem_cons.1 h with rfl | h
  · rw [pickN_l e1]
    exact ⟨(toldZ_mem hA (List.mem_of_getElem? e1)).trans (vdN_some e1).symm, toldZ_no fun u hu => by
     rcases (mem_split h2 u).1 hu with h | h
     · have := hb u h x (by simp); omega
     · simp at h⟩
  · exact zipN_told A B hA hB a [] (i + 1) k e2 h2 (fun _ _ u hu => by simp at hu) (fun u hu v hv => hb u hu v (by simp [hv])) z h
 | x :: a, y :: b, i, k, h1, h2, ha, hb, z, h => by
  obtain ⟨e1, e2⟩ := drop_head h1
  obtain ⟨e3, e4⟩ := drop_head h2
  have ra := riseM_drop hA h1
  have rb := riseM_drop hB h2
  rw [zipN] at h
  by_cases h3 : cmpD x.d y.d < 0
  · rw [if_pos h3] at h
    have hxb : ∀ u ∈ y :: b, cmpD x.d u.d < 0 := fun u hu => by
     rcases List.mem_cons.1 hu with rfl | hu
     · exact h3
     · exact cmpD_trans h3 (riseM_head rb hu)
    rcases List.mem_cons.1 h with rfl | h
    · rw [pickN_l e1]
      exact ⟨(toldZ_mem hA (List.mem_of_getElem? e1)).trans (vdN_some e1).symm, toldZ_no fun u hu => by
       rcases (mem_split h2 u).1 hu with h | h
       · have := hb u h x (by simp); omega
       · have := hxb u h; rw [cmpD_neg]; omega⟩
    · exact zipN_told A B hA hB a (y :: b) (i + 1) k e2 h2 (fun v hv u hu => by
       rcases take_more h1 hv with hv | rfl
       · exact ha v hv u hu
       · exact hxb u hu) (fun u hu v hv => hb u hu v (by simp [hv])) z h
  by_cases h4 : 0 < cmpD x.d y.d
  · rw [if_neg h3, if_pos h4] at h
    have hyx : cmpD y.d x.d < 0 := by rw [cmpD_neg]; omega
    have hya : ∀ u ∈ x :: a, cmpD y.d u.d < 0 := fun u hu => by
     rcases List.mem_cons.1 hu with rfl | hu
     · exact hyx
     · exact cmpD_trans hyx (riseM_head ra hu)
    rcases List.mem_cons.1 h with rfl | h
    · rw [pickN_r e3]
      exact ⟨toldZ_no fun u hu => by
       rcases (mem_split h1 u).1 hu with h | h
       · have := ha u h y (by simp); omega
       · have := hya u h; rw [cmpD_neg]; omega, (toldZ_mem hB (List.mem_of_getElem? e3)).trans (vdN_some e3).symm⟩
    · exact zipN_told A B hA hB (x :: a) b i (k + 1) h1 e4 (fun v hv u hu => ha v hv u (by simp [hu])) (fun u hu v hv => by
       rcases take_more h2 hu with hu | rfl
       · exact hb u hu v hv
       · exact hya v hv) z h
  · rw [if_neg h3, if_neg h4] at h
    have h0 : cmpD x.d y.d = 0 := by omega
    have hd : x.d = y.d := cmpD_eq.1 h0
    rcases List.mem_cons.1 h with rfl | h
    · rw [pickN_l e1]
      exact ⟨(toldZ_mem hA (List.mem_of_getElem? e1)).trans (vdN_some e1).symm, by rw [hd]; exact (toldZ_mem hB (List.mem_of_getElem? e3)).trans (vdN_some e3).symm⟩
    · exact zipN_told A B hA hB a b (i + 1) (k + 1) e2 e4 (fun v hv u hu => by
       rcases take_more h1 hv with hv | rfl
       · exact ha v hv u (by simp [hu])
       · rw [hd]; exact riseM_head rb hu) (fun u hu v hv => by
       rcases take_more h2 hu with hu | rfl
       · exact hb u hu v (by simp [hv])
       · rw [← hd]; exact riseM_head ra hv) z h
termination_by a b => a.length + b.length
theorem filterMap_same {α β : Type} {f g : α → Option β} : ∀ (l : List α), (∀ x ∈ l, f x = g x) → l.filterMap f = l.filterMap g
 | [], _ => rfl
 | x :: l, h => by rw [List.filterMap_cons, List.filterMap_cons, h x (by simp), filterMap_same l (fun y hy => h y (by simp [hy]))]
theorem diffL_told (a b : List Mt) (ha : riseM a) (hb : riseM b) : diffL a b = (mergeM a b).filterMap fun m => if toldZ a m.d = toldZ b m.d then none else some (m.d, toldZ a m.d, toldZ b m.d) := by
 rw [← zipN_pick a b a b 0 0 rfl rfl, List.filterMap_map]
 unfold diffL
 refine filterMap_same _ fun z hz => ?_
 obtain ⟨h1, h2⟩ := zipN_told a b ha hb a b 0 0 rfl rfl (fun x hx => by simp at hx) (fun x hx => by simp at hx) z hz
 simp only [chgN, Function.comp]
 rw [h1, h2]
end Go.Proofs.YtcgglolckkeeiaaGreat
namespace Go.Proofs.YtcgglolckkeeiaaGreat
set_option linter.unusedVariables false
open Go.RowKit Go.Deep
def agZ (a b : List Mt) (z : ZX) : Bool := match z with
 | (some _, some k) => sameM (pickN a b z) ((b[k]?).getD (pickN a b z))
 | _ => true
theorem zipN_pair (A B : List Mt) : ∀ (a b : List Mt) (i k : Nat), A.drop i = a → B.drop k = b → riseM a → riseM b → ∀ x ∈ a, ∀ y ∈ b, cmpD x.d y.d = 0 → ∃ i' k', (some i', some k') ∈ zipN a b i k ∧ A[i']? = some x ∧ B[k']? = some y
 | [], _, _, _, _, _, _, _, x, hx, _, _, _ => by simp at hx
 | _ :: _, [], _, _, _, _, _, _, _, _, y, hy, _ => by simp at hy
 | u :: a, v :: b, i, k, h1, h2, ra, rb, x, hx, y, hy, h0 => by
  obtain ⟨e1, e2⟩ := drop_head h1
  obtain ⟨e3, e4⟩ := drop_head h2
  rw [zipN]
  have hd : x.d = y.d := cmpD_eq.1 h0
  by_cases h3 : cmpD u.d v.d < 0
  · rw [if_pos h3]
    have hxa : x ∈ a := by
     rcases List.mem_cons.1 hx with rfl | h
     · exfalso
       rcases List.mem_cons.1 hy with rfl | h
       · omega
       · have := cmpD_trans h3 (riseM_head rb h); omega
     · exact h
    obtain ⟨i', k', q1, q2⟩ := zipN_pair A B a (v :: b) (i + 1) k e2 h2 (riseM_tail ra) rb x hxa y hy h0
    exact ⟨i', k', List.mem_cons_of_mem _ q1, q2⟩
  by_cases h4 : 0 < cmpD u.d v.d
  · rw [if_neg h3, if_pos h4]
    have hvu : cmpD v.d u.d < 0 := by rw [cmpD_neg]; omega
    have hyb : y ∈ b := by
     rcases List.mem_cons.1 hy with rfl | h
     · exfalso
       have hn : cmpD y.d x.d = 0 := by rw [hd]; exact cmpD_self _
       rcases List.mem_cons.1 hx with rfl | h
       · omega
       · have := cmpD_trans hvu (riseM_head ra h); omega
     · exact h
    obtain ⟨i', k', q1, q2⟩ := zipN_pair A B (u :: a) b i (k + 1) h1 e4 ra (riseM_tail rb) x hx y hyb h0
    exact ⟨i', k', List.mem_cons_of_mem _ q1, q2⟩
  · rw [if_neg h3, if_neg h4]
    have huv : u.d = v.d := cmpD_eq.1 (by omega)
    rcases List.mem_cons.1 hx with rfl | hxa
    · rcases List.mem_cons.1 hy with rfl | hyb
      · exact ⟨i, k, by simp, e1, e3⟩
      · have := riseM_head rb hyb
        rw [← hd, huv, cmpD_self] at this
        omega
    · rcases List.mem_cons.1 hy with rfl | hyb
      · have := riseM_head ra hxa
        rw [hd, huv, cmpD_self] at this
        omega
      · obtain ⟨i', k', q1, q2⟩ := zipN_pair A B a b (i + 1) (k + 1) e2 e4 (riseM_tail ra) (riseM_tail rb) x hxa y hyb h0
        exact ⟨i', k', List.mem_cons_of_mem _ q1, q2⟩
termination_by a b => a.length + b.length
theorem agZ_pair {a b : List Mt} {i k : Nat} {x y : Mt} (hx : a[i]? = some x) (hy : b[k]? = some y) : agZ a b (some i, some k) = sameM x y := by simp [agZ, pickN, hx, hy]
theorem agZ_all {a b : List Mt} (ha : riseM a) (hb : riseM b) : (zipN a b 0 0).all (agZ a b) = true ↔ ∀ x ∈ a, ∀ y ∈ b, cmpD x.d y.d = 0 → sameM x y = true := by
 rw [List.all_eq_true]
 constructor
 · intro h x hx y hy h0
   obtain ⟨i, k, q, e1, e2⟩ := zipN_pair a b a b 0 0 rfl rfl ha hb x hx y hy h0
   rw [← agZ_pair e1 e2]
   exact h _ q
 · intro h z hz
   rcases zipN_mem a b a b 0 0 rfl rfl z hz with ⟨i, x, rfl, _⟩ | ⟨k, y, rfl, _⟩ | ⟨i, k, x, y, rfl, e1, e2, h0⟩
   · rfl
   · rfl
   · rw [agZ_pair e1 e2]
     exact h x (List.mem_of_getElem? e1) y (List.mem_of_getElem? e2) h0
theorem agZ_agree {a b : List Mt} (ha : riseM a) (hb : riseM b) : (zipN a b 0 0).all (agZ a b) = true ↔ agreeM a b := by
 rw [agZ_all ha hb]
 exact ⟨fun h x hx y hy h0 => sameM_iff.1 (h x hx y hy h0), fun h x hx y hy h0 => sameM_iff.2 (h x hx y hy h0)⟩
end Go.Proofs.YtcgglolckkeeiaaGreat
namespace Go.Proofs.YtcgglolckkeeiaaGreat
set_option linter.unusedVariables false
open Go.RowKit Go.Deep
def sameS (a b : CpV) : Prop := sameP a.p b.p = true ∧ a.testsL = b.testsL ∧ a.fuel = b.fuel
open Classical in
noncomputable def mergeE (a b : CpV) : Int := if cpChecks a b ≠ 0 then cpChecks a b else if sameS a b then (if (zipN a.muts b.muts 0 0).all (agZ a.muts b.muts) = true then 0 else 21) else 26
theorem mergeE_chk {a b : CpV} (h : cpChecks a b ≠ 0) : mergeE a b = cpChecks a b := if_pos h
theorem mergeE_26 {a b : CpV} (h : cpChecks a b = 0) (h2 : ¬ sameS a b) : mergeE a b = 26 := by unfold mergeE; rw [if_neg (by simp [h]), if_neg h2]
theorem mergeE_in {a b : CpV} (h : cpChecks a b = 0) (h2 : sameS a b) : mergeE a b = if (zipN a.muts b.muts 0 0).all (agZ a.muts b.muts) = true then 0 else 21 := by unfold mergeE; rw [if_neg (by simp [h]), if_pos h2]
def cp0 : CpV := ⟨⟨0, none, 0, [], none, 0, []⟩, none, 0, [], 0, none, 0, [], ⟨0, 0, 0⟩⟩
structure Cd where
 params : Int
 V : List Int
 body : List Nd
 tests : List (List Int)
 fuel : Int
 muts : List Mt
 sc : Sc
def CpV.data (c : CpV) : Cd := ⟨c.p.params, c.p.V, c.p.body, c.testsL, c.fuel, c.muts, c.sc⟩
def mergeD (a b : Cd) : Cd := { a with muts := mergeM a.muts b.muts, sc := scoreZ (mergeM a.muts b.muts) }
noncomputable def mgZ (a b : CpV) : Cd := if mergeE a b = 0 then mergeD a.data b.data else cp0.data
theorem cp0_ok (w : World) : CpOk w cp0 :=
 ⟨⟨by unfold InI cp0; simp, Nat.le_refl _, by unfold maxLen cp0; simp, fun _ => rfl, Rd.nil _ _, fun t h => by simp [cp0] at h, Nat.le_refl _, by unfold maxLen cp0; simp, fun _ => rfl, Rd.nil _ _, fun t h => by simp [cp0] at h⟩,
  by simp [cp0], by simp [cp0], Rd.nil _ _, fun x h => by simp [cp0] at h, by simp [cp0], fun x h => by simp [cp0] at h, fun _ => rfl, Rd.nil _ _, fun x h => by simp [cp0] at h, by simp [cp0], fun _ => rfl⟩
end Go.Proofs.YtcgglolckkeeiaaGreat
namespace Go.Proofs.YtcgglolckkeeiaaGreat
set_option linter.unusedVariables false
open Go.RowKit Go.Deep
theorem good_same {p q : PgV} (h1 : p.params = q.params) (h2 : p.V = q.V) (h3 : p.body = q.body) {t : Tr} (h : Good p t) : Good q t :=
 ⟨h3 ▸ h.hat, h3 ▸ h.size, by rw [← h1, ← h2]; exact h.vars, h.tag, h2 ▸ h.kind⟩
theorem fine_same {p q : PgV} (h1 : p.params = q.params) (h2 : p.V = q.V) (h3 : p.body = q.body) {t : Tr} (h : Fine p t) : Fine q t :=
 ⟨good_same h1 h2 h3 h.good, h3 ▸ h.len, h3 ▸ h.ar, h.dep⟩
theorem checkP_same {p q : PgV} (h1 : p.params = q.params) (h2 : p.V = q.V) (h3 : p.body = q.body) : checkP p = checkP q := by
 have e : (∃ t, Good p t) ↔ (∃ t, Good q t) := ⟨fun ⟨t, h⟩ => ⟨t, good_same h1 h2 h3 h⟩, fun ⟨t, h⟩ => ⟨t, good_same h1.symm h2.symm h3.symm h⟩⟩
 unfold checkP
 rw [h1, h2, h3]
 by_cases hq : ∃ t, Good q t
 · rw [if_pos hq, if_pos (e.2 hq)]
 · rw [if_neg hq, if_neg (fun h => hq (e.1 h))]
theorem inP_same {p q : PgV} (h1 : p.params = q.params) (h2 : p.V = q.V) (h3 : p.body = q.body) (d : Dl) : inP p d = inP q d := by
 unfold inP
 exact decide_eq_decide.2 ⟨fun ⟨t, h, h'⟩ => ⟨t, fine_same h1 h2 h3 h, h3 ▸ h'⟩, fun ⟨t, h, h'⟩ => ⟨t, fine_same h1.symm h2.symm h3.symm h, h3.symm ▸ h'⟩⟩
theorem scB_iff {a b : Sc} : scB a b = true ↔ a = b := by
 cases a; cases b
 simp [scB]
structure OkC (c : CpV) : Prop where
 prog : checkP c.p = 0
 suite : suiteZ c.p.params c.testsL c.fuel = 0
 len : c.muts.length ≤ 2000
 rise : riseM c.muts
 inp : ∀ m ∈ c.muts, inP c.p m.d = true
 odd : ∀ m ∈ c.muts, oddZ c.testsL.length m = false
 sc : c.sc = scoreZ c.muts
theorem orL_all : ∀ {l : List Int}, orL l = 0 ↔ ∀ x ∈ l, x = 0
 | [] => by simp [orL]
 | x :: l => by
  rw [orL]
  by_cases h : x = 0
  · rw [if_pos h, orL_all]; simp [h]
  · rw [if_neg h]; simp [h]
theorem unlessZ_iff {b : Bool} {n : Int} (h : n ≠ 0) : unlessZ b n = 0 ↔ b = true := by cases b <;> simp [unlessZ, h]
theorem okC {c : CpV} : cpCheckZ c = 0 ↔ OkC c := by
 unfold cpCheckZ
 rw [orL_all]
 simp only [List.mem_cons, List.not_mem_nil, or_false, forall_eq_or_imp, forall_eq]
 rw [unlessZ_iff (by decide), unlessZ_iff (by decide), unlessZ_iff (by decide), unlessZ_iff (by decide), unlessZ_iff (by decide), unlessZ_iff (by decide)]
 rw [riseB_iff, scB_iff]
 have el : c.muts.length = c.mts.length := by unfold CpV.muts; rw [List.length_map]
 have et : c.testsL.length = c.tests.length := by unfold CpV.testsL; rw [List.length_map]
 constructor
 · rintro ⟨h1, h2, h3, h4, h5, h6, h7⟩
   refine ⟨by simpa using h1, h2, by rw [el]; have := of_decide_eq_true h3; omega, h4, fun m hm => ?_, fun m hm => ?_, h7⟩
   · obtain ⟨x, hx, rfl⟩ := List.mem_map.1 hm
     have := h5
     simp only [Bool.not_eq_true', List.any_eq_false] at this
     simpa using this x hx
   · obtain ⟨x, hx, rfl⟩ := List.mem_map.1 hm
     have := h6
     simp only [Bool.not_eq_true', List.any_eq_false] at this
     rw [et]
     simpa using this x hx
 · intro h
   refine ⟨by simp [h.prog], h.suite, by have := h.len; rw [el] at this; exact decide_eq_true (by omega), h.rise, ?_, ?_, h.sc⟩
   · simp only [Bool.not_eq_true', List.any_eq_false]
     intro x hx
     simp [h.inp x.m (List.mem_map_of_mem hx)]
   · simp only [Bool.not_eq_true', List.any_eq_false]
     intro x hx
     have := h.odd x.m (List.mem_map_of_mem hx)
     rw [et] at this
     simp [this]
theorem data_iff {a b : CpV} : a.data = b.data ↔ (a.p.params = b.p.params ∧ a.p.V = b.p.V ∧ a.p.body = b.p.body) ∧ a.testsL = b.testsL ∧ a.fuel = b.fuel ∧ a.muts = b.muts ∧ a.sc = b.sc := by
 unfold CpV.data
 simp only [Cd.mk.injEq]
 constructor
 · rintro ⟨h1, h2, h3, h4, h5, h6, h7⟩; exact ⟨⟨h1, h2, h3⟩, h4, h5, h6, h7⟩
 · rintro ⟨⟨h1, h2, h3⟩, h4, h5, h6, h7⟩; exact ⟨h1, h2, h3, h4, h5, h6, h7⟩
theorem sameC_iff {a b : CpV} : sameC a b = true ↔ a.data = b.data := by
 rw [data_iff]
 unfold sameC sameP
 simp only [Bool.and_eq_true, decide_eq_true_eq, beq_iff_eq]
 constructor
 · rintro ⟨⟨h1, h2, h3⟩, h4, h5, ⟨h6, h7, h8⟩, h9⟩
   exact ⟨⟨h1, h2, h3⟩, h4, h5, h9, by rw [show a.sc = ⟨a.sc.alive, a.sc.killed, a.sc.timeout⟩ from rfl, h6, h7, h8]⟩
 · rintro ⟨h1, h2, h3, h4, h5⟩
   exact ⟨h1, h2, h3, ⟨by rw [h5], by rw [h5], by rw [h5]⟩, h4⟩
theorem sameS_iff {a b : CpV} : sameS a b ↔ (a.p.params = b.p.params ∧ a.p.V = b.p.V ∧ a.p.body = b.p.body) ∧ a.testsL = b.testsL ∧ a.fuel = b.fuel := by
 unfold sameS sameP
 rw [decide_eq_true_eq]
theorem sameS_symm {a b : CpV} (h : sameS a b) : sameS b a := by
 obtain ⟨⟨h1, h2, h3⟩, h4, h5⟩ := sameS_iff.1 h
 exact sameS_iff.2 ⟨⟨h1.symm, h2.symm, h3.symm⟩, h4.symm, h5.symm⟩
theorem sameS_trans {a b c : CpV} (h : sameS a b) (k : sameS b c) : sameS a c := by
 obtain ⟨⟨h1, h2, h3⟩, h4, h5⟩ := sameS_iff.1 h
 obtain ⟨⟨k1, k2, k3⟩, k4, k5⟩ := sameS_iff.1 k
 exact sameS_iff.2 ⟨⟨h1.trans k1, h2.trans k2, h3.trans k3⟩, h4.trans k4, h5.trans k5⟩
theorem OkC.same {a b : CpV} (h : OkC a) (e : a.data = b.data) : OkC b := by
 obtain ⟨⟨h1, h2, h3⟩, h4, h5, h6, h7⟩ := data_iff.1 e
 exact ⟨(checkP_same h1 h2 h3) ▸ h.prog, by rw [← h1, ← h4, ← h5]; exact h.suite, h6 ▸ h.len, h6 ▸ h.rise, fun m hm => (inP_same h1 h2 h3 m.d) ▸ h.inp m (h6 ▸ hm), fun m hm => by rw [← h4]; exact h.odd m (h6 ▸ hm), by rw [← h6, ← h7]; exact h.sc⟩
theorem checks_iff {a b : CpV} : cpChecks a b = 0 ↔ OkC a ∧ OkC b := by
 unfold cpChecks
 by_cases h : cpCheckZ a = 0
 · rw [if_neg (by simp [h]), okC]
   exact ⟨fun h2 => ⟨okC.1 h, h2⟩, fun h2 => h2.2⟩
 · rw [if_pos h]
   exact ⟨fun h2 => absurd h2 h, fun h2 => absurd (okC.2 h2.1) h⟩
structure Joins (a b : CpV) : Prop where
 ha : OkC a
 hb : OkC b
 same : sameS a b
 agree : agreeM a.muts b.muts
theorem mergeE_0 {a b : CpV} : mergeE a b = 0 ↔ Joins a b := by
 by_cases h : cpChecks a b = 0
 · obtain ⟨ha, hb⟩ := checks_iff.1 h
   by_cases h2 : sameS a b
   · rw [mergeE_in h h2]
     by_cases h3 : (zipN a.muts b.muts 0 0).all (agZ a.muts b.muts) = true
     · rw [if_pos h3]
       exact ⟨fun _ => ⟨ha, hb, h2, (agZ_agree ha.rise hb.rise).1 h3⟩, fun _ => rfl⟩
     · rw [if_neg h3]
       exact ⟨fun h9 => absurd h9 (by decide), fun h9 => absurd ((agZ_agree ha.rise hb.rise).2 h9.agree) h3⟩
   · rw [mergeE_26 h h2]
     exact ⟨fun h9 => absurd h9 (by decide), fun h9 => absurd h9.same h2⟩
 · rw [mergeE_chk h]
   exact ⟨fun h9 => absurd h9 h, fun h9 => absurd (checks_iff.2 ⟨h9.ha, h9.hb⟩) h⟩
theorem mergeE_no {a b : CpV} (ha : OkC a) (hb : OkC b) (h : ¬ sameS a b) : mergeE a b = 26 := mergeE_26 (checks_iff.2 ⟨ha, hb⟩) h
theorem Joins.symm {a b : CpV} (h : Joins a b) : Joins b a := ⟨h.hb, h.ha, sameS_symm h.same, agreeM_symm h.agree⟩
theorem mergeM_length : ∀ (a b : List Mt), (mergeM a b).length ≤ a.length + b.length
 | [], b => by rw [mergeM_nil']; simp
 | x :: a, [] => by rw [mergeM_nil]; simp
 | x :: a, y :: b => by
  rw [mergeM]
  have h1 := mergeM_length a (y :: b)
  have h2 := mergeM_length (x :: a) b
  have h3 := mergeM_length a b
  simp only [List.length_cons] at h1 h2 h3 ⊢
  split
  · simp only [List.length_cons]; omega
  · split <;> (simp only [List.length_cons]; omega)
termination_by a b => a.length + b.length
theorem Joins.ok {a b c : CpV} (h : Joins a b) (e : c.data = mergeD a.data b.data) (hl : a.muts.length + b.muts.length ≤ 2000) : OkC c := by
 have e1 : c.p.params = a.p.params := congrArg Cd.params e
 have e2 : c.p.V = a.p.V := congrArg Cd.V e
 have e3 : c.p.body = a.p.body := congrArg Cd.body e
 have e4 : c.testsL = a.testsL := congrArg Cd.tests e
 have e5 : c.fuel = a.fuel := congrArg Cd.fuel e
 have e6 : c.muts = mergeM a.muts b.muts := congrArg Cd.muts e
 have e7 : c.sc = scoreZ (mergeM a.muts b.muts) := congrArg Cd.sc e
 obtain ⟨⟨s1, s2, s3⟩, s4, s5⟩ := sameS_iff.1 h.same
 have hm := agreeM_mem h.ha.rise h.hb.rise h.agree
 refine ⟨(checkP_same e1 e2 e3).trans h.ha.prog, by rw [e1, e4, e5]; exact h.ha.suite, by rw [e6]; exact Nat.le_trans (mergeM_length _ _) hl, by rw [e6]; exact mergeM_rise h.ha.rise h.hb.rise, fun m hmm => ?_, fun m hmm => ?_, by rw [e6, e7]⟩
 · rw [e6, hm] at hmm
   rcases hmm with hmm | hmm
   · rw [inP_same e1 e2 e3]; exact h.ha.inp m hmm
   · rw [inP_same (e1.trans s1) (e2.trans s2) (e3.trans s3)]; exact h.hb.inp m hmm
 · rw [e6, hm] at hmm
   rw [e4]
   rcases hmm with hmm | hmm
   · exact h.ha.odd m hmm
   · rw [s4]; exact h.hb.odd m hmm
theorem mgZ_0 {a b : CpV} (h : Joins a b) : mgZ a b = mergeD a.data b.data := by unfold mgZ; rw [if_pos (mergeE_0.2 h)]
end Go.Proofs.YtcgglolckkeeiaaGreat
namespace Go.Proofs.YtcgglolckkeeiaaGreat
set_option linter.unusedVariables false
open Go.RowKit Go.Deep
def Sc.small (s : Sc) : Prop := (0 ≤ s.alive ∧ s.alive ≤ 1000000) ∧ (0 ≤ s.killed ∧ s.killed ≤ 1000000) ∧ (0 ≤ s.timeout ∧ s.timeout ≤ 1000000)
def Sc.add (a b : Sc) : Sc := ⟨a.alive + b.alive, a.killed + b.killed, a.timeout + b.timeout⟩
def mixC (c s : Sc) (j : Nat) : Array Value := #[.int .i64 (if 0 < j then c.alive + s.alive else c.alive), .int .i64 (if 1 < j then c.killed + s.killed else c.killed), .int .i64 (if 2 < j then c.timeout + s.timeout else c.timeout)]
def partS (a b : Sc) (k : Nat) : Sc := if k = 0 then ⟨0, 0, 0⟩ else if k = 1 then a else a.add b
set_option maxRecDepth 100000 in
set_option maxHeartbeats 4000000 in
theorem sum_any (G cap : Nat) (a b : Sc) (w : World) (hr : Row w G 29 (a.cells ++ b.cells)) (ha : a.small) (hb : b.small) :
 Calls Tryz.prog 80 #[.slice (some ⟨G, 0, none⟩) 2 cap] w fun e w' => e = .returned (.agg (a.add b).cells) ∧ Below w.heap.size w w' := by
 have zc := zero_counts
 have hG := hr.lt
 go_enter Tryz.func80, Tryz.ntmps80
 go_wp2_with (first | fail | (refine at_alloc _ rfl ?_))
 refine Stop.to ?_
 refine wpList_alloc_gen rfl 89 rfl _ _ (zc _) rfl ?_
 intro R Rw Rh Rr Rb
 go_wp2_with (first | fail | (refine at_alloc _ rfl ?_))
 refine Stop.to ?_
 refine wpList_alloc_gen rfl 89 rfl _ _ (zc _) rfl ?_
 intro C Cw Ch Cr Cb
 have rR := Rr.below Cb (Nat.lt_of_lt_of_le Rr.lt Ch)
 have hRC : R ≠ C := by have := Rr.lt; omega
 have b1 := (Below.refl w.heap.size w).trans (Rb.mono Rh)
 have b2 := b1.trans ((Cb.mono Ch).mono b1.size)
 have hC : w.heap.size ≤ C := Nat.le_trans b1.size Ch
 have hSC : G ≠ C := by omega
 have hR : w.heap.size ≤ R := Rh
 have rS := hr.below b2 hG
 clear Rr Rb Cb b1 zc Rh Ch hr hG
 have rC := Cr
 clear Cr
 go_wp2_with fail
 go_loopw [10] (fun i wr => ∃ k : Nat, i = .int .i64 (k : Int) ∧ k ≤ 2 ∧ Row wr R 89 #[.int .i64 0, .int .i64 0, .int .i64 0] ∧ Row wr G 29 (a.cells ++ b.cells) ∧ Row wr C 89 (partS a b k).cells ∧ Below w.heap.size w wr) (fun i _ => 2 - (intOf i).toNat)
 case atStart => exact ⟨0, rfl, Nat.zero_le _, rR, rS, rC, b2⟩
 case round =>
  clear rR rC rS b2
  obtain ⟨k, rfl, hk, rR, rS, rC, hbl⟩ := hrel
  by_cases hlt : k < 2
  · obtain ⟨s, c, hs, hc, hn, hsm, hcm⟩ : ∃ s c : Sc, (∀ j v, s.cells.toList[j]? = some v → wr.cell? ((⟨G, k * 3, none⟩ : Addr).add j) = some v) ∧ partS a b k = c ∧ partS a b (k + 1) = c.add s ∧ s.small ∧ c.small := by
     have hk2 : k = 0 ∨ k = 1 := by omega
     rcases hk2 with rfl | rfl
     · refine ⟨a, ⟨0, 0, 0⟩, ?_, rfl, by simp [partS, Sc.add], ha, by simp [Sc.small]⟩
       exact Row.from_ (cur := a.cells ++ b.cells) rS 0 (fun j v hj => by
        match j, hj with
        | 0, hj | 1, hj | 2, hj => exact hj
        | j + 3, hj => simp [Sc.cells] at hj)
     · refine ⟨b, a, ?_, rfl, rfl, hb, ha⟩
       exact Row.from_ (cur := a.cells ++ b.cells) rS 3 (fun j v hj => by
        match j, hj with
        | 0, hj | 1, hj | 2, hj => exact hj
        | j + 3, hj => simp [Sc.cells] at hj)
    have Hs := Lib.hid hs
    have Hn := Lib.hid hn
    rw [hc] at rC
    have hltI : (k : Int) < 2 := by omega
    clear hs hn hc hlt
    have Hsm := Lib.hid hsm
    have Hcm := Lib.hid hcm
    clear hsm hcm
    have e0 : wr.cell? ⟨G, k * 3, none⟩ = some (.int .i64 s.alive) := by have := Hs.out 0 _ rfl; rwa [add_zero'] at this
    have e1 : wr.cell? ⟨G, k * 3 + 1, none⟩ = some (.int .i64 s.killed) := Hs.out 1 _ rfl
    have e2 : wr.cell? ⟨G, k * 3 + 2, none⟩ = some (.int .i64 s.timeout) := Hs.out 2 _ rfl
    clear Hs
    go_wp2_with (first | fail | (refine at_alloc _ rfl ?_))
    refine Stop.to ?_
    refine wpList_alloc_gen rfl 29 rfl _ _ (zero_score _) rfl ?_
    intro D Dw Dh Dr Db
    go_wp2_with (refine at_store _ _ _ rfl ?_)
    refine Stop.to ?_
    refine wpList_store_gen rfl 29 _ _ rfl D s.cells rfl rfl 29 _ Dr (by kernel_rfl) rfl (by simp [Value.oneCell', Sc.cells]) ?_
    intro Dx Ds Do
    have Dc := (Db.mono Dh).trans (Do.below Dh)
    clear Db Dr Do
    clear e0 e1 e2
    replace rR := rR.below Dc rR.lt
    replace rC := rC.below Dc rC.lt
    replace rS := rS.below Dc rS.lt
    replace hbl := hbl.trans (Dc.mono hbl.size)
    have Hof := Lib.hid (scOf_any s Dx)
    clear Dc Dh
    go_wp2_with (refine wpList_load_row rfl 29 _ rfl D rfl 29 s.cells (0, 0) _ Ds Tryz.underlying29 rfl (by kernel_rfl) ?_)
    refine Hof.out.mono ?_
    rintro e w1 ⟨rfl, b3⟩
    replace rR := rR.below b3 rR.lt
    replace rC := rC.below b3 rC.lt
    replace rS := rS.below b3 rS.lt
    replace hbl := hbl.trans (b3.mono hbl.size)
    clear b3 Hof Ds
    rw [show c.cells = mixC c s 0 from rfl] at rC
    obtain ⟨⟨hs0, hs1⟩, ⟨hs2, hs3⟩, hs4, hs5⟩ := Hsm.out
    obtain ⟨⟨hc0, hc1⟩, ⟨hc2, hc3⟩, hc4, hc5⟩ := Hcm.out
    clear Hsm Hcm
    obtain ⟨s0, s1, s2⟩ := s
    obtain ⟨n0, n1, n2⟩ := c
    simp only at hs0 hs1 hs2 hs3 hs4 hs5 hc0 hc1 hc2 hc3 hc4 hc5
    obtain ⟨wo, rfl⟩ : ∃ wo : World, wo = wr := ⟨_, rfl⟩
    rw [show (Sc.mk s0 s1 s2).cells = #[.int .i64 s0, .int .i64 s1, .int .i64 s2] from rfl]
    go_wp2_with fail
    go_loopw [16] (fun i wr => ∃ j : Nat, i = .int .i64 (j : Int) ∧ j ≤ 3 ∧ Row wr R 89 #[.int .i64 0, .int .i64 0, .int .i64 0] ∧ Row wr G 29 (a.cells ++ b.cells) ∧ Row wr C 89 (mixC ⟨n0, n1, n2⟩ ⟨s0, s1, s2⟩ j) ∧ Below w.heap.size w wr) (fun i _ => 3 - (intOf i).toNat)
    case atStart => exact ⟨0, rfl, Nat.zero_le _, rR, rS, rC, hbl⟩
    case round =>
     clear rR rC rS hbl
     obtain ⟨j, rfl, hj, rR, rS, rC, hbl⟩ := hrel
     have hj4 : j = 0 ∨ j = 1 ∨ j = 2 ∨ j = 3 := by omega
     clear hj
     rcases hj4 with rfl | rfl | rfl | rfl
     · have ix : ∀ w, (Instr.index 89 (.agg #[.int .i64 s0, .int .i64 s1, .int .i64 s2]) (.int .i64 0)).run Tryz.prog w = .ok (.int .i64 s0) w := fun _ => by kernel_rfl
       have c4 : wr.cell? ⟨C, 0, none⟩ = some (.int .i64 n0) := rC.cellv (i := 0) rfl
       go_wp2_with (refine at_store _ _ _ rfl ?_)
       refine Stop.to ?_
       refine wpList_store_part rfl 3 _ _ rfl C 0 rfl (.int .i64 (n0 + s0)) (by first | rfl | (simp; done)) [.int .i64 (n0 + s0)] rfl 89 _ _ rC (by kernel_rfl) (by simp [mixC]) (by simp [Value.oneCell']) (putL_0 _ _ _ _) ?_
       intro W9 r9 o9
       have hb9 := hbl.trans (o9.below hC)
       have rR9 := rR.only o9 hRC
       have rS9 := rS.only o9 hSC
       clear o9 rC rR rS hbl c4 ix
       go_wp2_with fail
       go_roundw
       case rel => exact ⟨0 + 1, by go_num, by omega, rR9, rS9, r9, hb9⟩
       case measure => simp [intOf]
     · have ix : ∀ w, (Instr.index 89 (.agg #[.int .i64 s0, .int .i64 s1, .int .i64 s2]) (.int .i64 1)).run Tryz.prog w = .ok (.int .i64 s1) w := fun _ => by kernel_rfl
       have c4 : wr.cell? ⟨C, 1, none⟩ = some (.int .i64 n1) := rC.cellv (i := 1) rfl
       go_wp2_with (refine at_store _ _ _ rfl ?_)
       refine Stop.to ?_
       refine wpList_store_part rfl 3 _ _ rfl C 1 rfl (.int .i64 (n1 + s1)) (by first | rfl | (simp; done)) [.int .i64 (n1 + s1)] rfl 89 _ _ rC (by kernel_rfl) (by simp [mixC]) (by simp [Value.oneCell']) (putL_1 _ _ _ _) ?_
       intro W9 r9 o9
       have hb9 := hbl.trans (o9.below hC)
       have rR9 := rR.only o9 hRC
       have rS9 := rS.only o9 hSC
       clear o9 rC rR rS hbl c4 ix
       go_wp2_with fail
       go_roundw
       case rel => exact ⟨1 + 1, by go_num, by omega, rR9, rS9, r9, hb9⟩
       case measure => simp [intOf]
     · have ix : ∀ w, (Instr.index 89 (.agg #[.int .i64 s0, .int .i64 s1, .int .i64 s2]) (.int .i64 2)).run Tryz.prog w = .ok (.int .i64 s2) w := fun _ => by kernel_rfl
       have c4 : wr.cell? ⟨C, 2, none⟩ = some (.int .i64 n2) := rC.cellv (i := 2) rfl
       go_wp2_with (refine at_store _ _ _ rfl ?_)
       refine Stop.to ?_
       refine wpList_store_part rfl 3 _ _ rfl C 2 rfl (.int .i64 (n2 + s2)) (by first | rfl | (simp; done)) [.int .i64 (n2 + s2)] rfl 89 _ _ rC (by kernel_rfl) (by simp [mixC]) (by simp [Value.oneCell']) (putL_2 _ _ _ _) ?_
       intro W9 r9 o9
       have hb9 := hbl.trans (o9.below hC)
       have rR9 := rR.only o9 hRC
       have rS9 := rS.only o9 hSC
       clear o9 rC rR rS hbl c4 ix
       go_wp2_with fail
       go_roundw
       case rel => exact ⟨2 + 1, by go_num, by omega, rR9, rS9, r9, hb9⟩
       case measure => simp [intOf]
     · go_wp2_with fail
       go_roundw
       case rel => exact ⟨k + 1, by go_num, by omega, rR, rS, by rw [Hn.out]; exact rC, hbl⟩
       case measure => simp [intOf]; omega
  · obtain rfl : k = 2 := by omega
    clear hk hlt
    rw [show partS a b 2 = a.add b from rfl] at rC
    go_wp2_with (first | (refine wpList_load_row rfl 89 _ rfl C rfl 89 (a.add b).cells (0, 0) _ rC Tryz.underlying89 rfl (by kernel_rfl) ?_) | (refine at_store _ _ _ rfl ?_))
    refine Stop.to ?_
    refine wpList_store_gen rfl 89 _ _ rfl R (a.add b).cells rfl rfl 89 _ rR (by kernel_rfl) rfl (by simp [Value.oneCell', Sc.cells]) ?_
    intro W9 r9 o9
    go_wp2_with fail
    refine bodyPost_ret (results_cell_row Tryz.results80 _ _ R 89 _ (0, 0) _ rfl r9 Tryz.underlying89 rfl (by kernel_rfl)) rfl ?_
    exact ⟨rfl, hbl.trans (o9.below hR)⟩
theorem info_sc : (Tryz.prog.info? 29).map (fun i => (i.zero, i.size)) = some (some (.agg #[.int .i64 0, .int .i64 0, .int .i64 0]), 3) := by kernel_rfl
set_option maxRecDepth 100000 in
set_option maxHeartbeats 4000000 in
theorem scAdd_any (a b : Sc) (w : World) (ha : a.small) (hb : b.small) :
 Calls Tryz.prog 28 #[.agg a.cells, .agg b.cells] w fun e w' => e = .returned (.agg (a.add b).cells) ∧ Below w.heap.size w w' := by
 go_enter Tryz.func28, Tryz.ntmps28
 go_wp2_with (refine at_box _ _ rfl ?_)
 refine Stop.to ?_
 refine wpList_box_gen rfl 29 _ rfl a.cells rfl ?_
 intro G Gw Gh Gr Gb
 go_wp2_with (refine at_box _ _ rfl ?_)
 refine Stop.to ?_
 refine wpList_box_gen rfl 29 _ rfl b.cells rfl ?_
 intro J Jw Jh Jr Jb
 have b1 := (Below.refl w.heap.size w).trans (Gb.mono Gh)
 have b2 := b1.trans ((Jb.mono Jh).mono b1.size)
 have rG := Gr.below Jb (Nat.lt_of_lt_of_le Gr.lt Jh)
 have rJ := Jr
 clear Gr Gb Gh Jr Jb Jh b1
 go_wp2_with (first | fail | (refine at_alloc _ rfl ?_))
 refine Stop.to ?_
 refine wpList_alloc_gen rfl 29 rfl _ _ (zero_score _) rfl ?_
 intro R Rw Rh Rr Rb
 replace rG := rG.below Rb (Nat.lt_of_lt_of_le rG.lt Rh)
 replace rJ := rJ.below Rb (Nat.lt_of_lt_of_le rJ.lt Rh)
 have hR : w.heap.size ≤ R := Nat.le_trans b2.size Rh
 have b3 := b2.trans ((Rb.mono Rh).mono b2.size)
 have rR := Rr
 clear Rr Rb Rh b2
 go_wp2_with (first | (refine wpList_load_row rfl 29 _ rfl G rfl 29 a.cells (0, 0) _ rG Tryz.underlying29 rfl (by kernel_rfl) ?_) | (refine wpList_load_row rfl 29 _ rfl J rfl 29 b.cells (0, 0) _ rJ Tryz.underlying29 rfl (by kernel_rfl) ?_) | (refine at_slice _ _ _ rfl ?_))
 refine Stop.to ?_
 refine wpList_slice_gen rfl 168 2 _ rfl 29 (a.cells ++ b.cells) (bs_run Tryz.underlying168 info_sc (by decide) (by decide) (by kernel_rfl)) ?_
 intro M Mw Mh Mr Mb
 have rR2 := rR.below Mb (Nat.lt_of_lt_of_le rR.lt Mh)
 have bM := b3.trans ((Mb.mono Mh).mono b3.size)
 have Hs := Lib.hid (sum_any M 2 a b Mw Mr ha hb)
 clear rG rJ rR Mr Mb Mh b3
 go_wp2_with fail
 refine Hs.out.mono ?_
 rintro e w1 ⟨rfl, b4⟩
 have rR3 := rR2.below b4 rR2.lt
 have b5 := bM.trans (b4.mono bM.size)
 have Hb := Lib.hid (scBack_any (a.add b) w1)
 clear Hs b4 bM rR2
 go_wp2_with fail
 refine Hb.out.mono ?_
 rintro e w2 ⟨rfl, b6⟩
 have rR4 := rR3.below b6 rR3.lt
 have b7 := b5.trans (b6.mono b5.size)
 clear Hb b5 b6 rR3
 go_wp2_with (refine at_store _ _ _ rfl ?_)
 refine Stop.to ?_
 refine wpList_store_gen rfl 29 _ _ rfl R (a.add b).cells rfl rfl 29 _ rR4 (by kernel_rfl) rfl (by simp [Value.oneCell', Sc.cells]) ?_
 intro W9 r9 o9
 go_wp2_with fail
 refine bodyPost_ret (results_cell_row Tryz.results28 _ _ R 29 _ (0, 0) _ rfl r9 Tryz.underlying29 rfl (by kernel_rfl)) rfl ?_
 exact ⟨rfl, b7.trans (o9.below hR)⟩
end Go.Proofs.YtcgglolckkeeiaaGreat
namespace Go.Proofs.YtcgglolckkeeiaaGreat
set_option linter.unusedVariables false
open Go.RowKit Go.Deep
theorem riseM_pw : ∀ {l : List Mt}, riseM l → l.Pairwise fun x y => cmpD x.d y.d < 0
 | [], _ => List.Pairwise.nil
 | x :: l, h => List.Pairwise.cons (fun _ hy => riseM_head h hy) (riseM_pw (riseM_tail h))
theorem riseM_of : ∀ {l : List Mt}, l.Pairwise (fun x y => cmpD x.d y.d < 0) → riseM l
 | [], _ => trivial
 | x :: l, h => by
  rw [List.pairwise_cons] at h
  exact riseM_cons (riseM_of h.2) h.1
theorem pw_get {α : Type} {R : α → α → Prop} {l : List α} (h : l.Pairwise R) {i j : Nat} {x y : α} (hx : l[i]? = some x) (hy : l[j]? = some y) (hij : i < j) : R x y := by
 obtain ⟨h1, rfl⟩ := List.getElem?_eq_some_iff.1 hx
 obtain ⟨h2, rfl⟩ := List.getElem?_eq_some_iff.1 hy
 exact List.pairwise_iff_getElem.1 h i j h1 h2 hij
def partL {α : Type} (p : Nat → Bool) (b : Bool) : Nat → List α → List α
 | _, [] => []
 | i, x :: l => if p i = b then x :: partL p b (i + 1) l else partL p b (i + 1) l
theorem partL_app {α : Type} (p : Nat → Bool) (b : Bool) (x : α) : ∀ (l : List α) (i : Nat), partL p b i (l ++ [x]) = partL p b i l ++ if p (i + l.length) = b then [x] else []
 | [], i => by simp only [List.nil_append, partL, List.length_nil, Nat.add_zero]
 | y :: l, i => by
  rw [List.cons_append, partL, partL, partL_app p b x l (i + 1)]
  rw [show i + 1 + l.length = i + (y :: l).length by simp; omega]
  by_cases h : p i = b
  · rw [if_pos h, if_pos h]; rfl
  · rw [if_neg h, if_neg h]
theorem partL_step {α : Type} (p : Nat → Bool) (b : Bool) {l : List α} {k : Nat} {x : α} (hx : l[k]? = some x) : partL p b 0 (l.take (k + 1)) = partL p b 0 (l.take k) ++ if p k = b then [x] else [] := by
 have hk := (List.getElem?_eq_some_iff.1 hx).1
 rw [List.take_add_one, hx]
 have h := partL_app p b x (l.take k) 0
 rw [List.length_take, Nat.min_eq_left (by omega), Nat.zero_add] at h
 exact h
theorem partL_map {α β : Type} (f : α → β) (p : Nat → Bool) (b : Bool) : ∀ (l : List α) (i : Nat), (partL p b i l).map f = partL p b i (l.map f)
 | [], _ => rfl
 | x :: l, i => by
  rw [List.map_cons, partL, partL, ← partL_map f p b l (i + 1)]
  split <;> rfl
theorem partL_sub {α : Type} (p : Nat → Bool) (b : Bool) : ∀ (l : List α) (i : Nat), (partL p b i l).Sublist l
 | [], _ => List.Sublist.slnil
 | x :: l, i => by
  rw [partL]
  split
  · exact (partL_sub p b l (i + 1)).cons_cons x
  · exact (partL_sub p b l (i + 1)).cons x
theorem partL_mem {α : Type} (p : Nat → Bool) (b : Bool) (x : α) : ∀ (l : List α) (i : Nat), x ∈ partL p b i l ↔ ∃ j, l[j]? = some x ∧ p (i + j) = b
 | [], i => by simp [partL]
 | y :: l, i => by
  rw [partL]
  have ih := partL_mem p b x l (i + 1)
  constructor
  · intro h
    by_cases h1 : p i = b
    · rw [if_pos h1] at h
      rcases List.mem_cons.1 h with rfl | h
      · exact ⟨0, rfl, h1⟩
      · obtain ⟨j, h2, h3⟩ := ih.1 h
        exact ⟨j + 1, by simpa using h2, by rw [← h3]; congr 1; omega⟩
    · rw [if_neg h1] at h
      obtain ⟨j, h2, h3⟩ := ih.1 h
      exact ⟨j + 1, by simpa using h2, by rw [← h3]; congr 1; omega⟩
  · rintro ⟨j, h2, h3⟩
    cases j with
    | zero =>
     simp at h2
     rw [Nat.add_zero] at h3
     rw [if_pos h3, h2]; simp
    | succ j =>
     have : x ∈ partL p b (i + 1) l := ih.2 ⟨j, by simpa using h2, by rw [← h3]; congr 1; omega⟩
     split
     · exact List.mem_cons_of_mem _ this
     · exact this
theorem partL_count (p : Nat → Bool) (v : Int) : ∀ (l : List Mt) (i : Nat), countV (partL p true i l) v + countV (partL p false i l) v = countV l v
 | [], _ => rfl
 | x :: l, i => by
  have ih := partL_count p v l (i + 1)
  unfold countV at ih ⊢
  rw [partL, partL]
  cases h : p i
  all_goals
   by_cases hv : x.verdict = v
   all_goals simp [hv]
   all_goals omega
theorem partL_score (p : Nat → Bool) (l : List Mt) : (scoreZ (partL p true 0 l)).add (scoreZ (partL p false 0 l)) = scoreZ l := by
 unfold scoreZ Sc.add
 simp only [partL_count]
theorem riseM_at {l : List Mt} (h : riseM l) {i j : Nat} {x y : Mt} (hx : l[i]? = some x) (hy : l[j]? = some y) (e : x.d = y.d) : i = j := by
 rcases Nat.lt_trichotomy i j with h1 | h1 | h1
 · have := pw_get (riseM_pw h) hx hy h1; rw [e, cmpD_self] at this; omega
 · exact h1
 · have := pw_get (riseM_pw h) hy hx h1; rw [e, cmpD_self] at this; omega
theorem partL_all {α β : Type} (p : Nat → Bool) (f : α → Option β) (g : α → β) : ∀ (l : List α) (i : Nat), (∀ j x, l[j]? = some x → f x = if p (i + j) = true then none else some (g x)) → l.filterMap f = (partL p false i l).map g
 | [], _, _ => rfl
 | x :: l, i, h => by
  have h0 := h 0 x rfl
  have ih := partL_all p f g l (i + 1) fun j y hy => by
   have := h (j + 1) y (by simpa using hy)
   rw [this, show i + (j + 1) = i + 1 + j by omega]
  rw [Nat.add_zero] at h0
  rw [List.filterMap_cons, h0, partL, ih]
  cases hp : p i <;> simp
structure PartC (c d : CpV) (p : Nat → Bool) (b : Bool) : Prop where
 same : sameS c d
 muts : d.muts = partL p b 0 c.muts
 sc : d.sc = scoreZ d.muts
theorem PartC.ok {c d : CpV} {p : Nat → Bool} {b : Bool} (h : PartC c d p b) (hc : OkC c) : OkC d := by
 obtain ⟨⟨s1, s2, s3⟩, s4, s5⟩ := sameS_iff.1 h.same
 have hs : d.muts.Sublist c.muts := by rw [h.muts]; exact partL_sub _ _ _ _
 exact ⟨(checkP_same s1 s2 s3) ▸ hc.prog, by rw [← s1, ← s4, ← s5]; exact hc.suite, Nat.le_trans hs.length_le hc.len, riseM_of ((riseM_pw hc.rise).sublist hs), fun m hm => (inP_same s1 s2 s3 m.d) ▸ hc.inp m (hs.subset hm), fun m hm => by rw [← s4]; exact hc.odd m (hs.subset hm), h.sc⟩
theorem PartC.joins {c d : CpV} {p : Nat → Bool} {b : Bool} (h : PartC c d p b) (hc : OkC c) : Joins c d ∧ mergeD c.data d.data = c.data := by
 have hd := h.ok hc
 have hs : d.muts.Sublist c.muts := by rw [h.muts]; exact partL_sub _ _ _ _
 obtain ⟨g, m⟩ := mergeM_sub hc.rise hd.rise (fun y hy => hs.subset hy)
 refine ⟨⟨hc, hd, h.same, g⟩, ?_⟩
 show ({ c.data with muts := mergeM c.muts d.muts, sc := scoreZ (mergeM c.muts d.muts) } : Cd) = c.data
 rw [m, ← hc.sc]; rfl
theorem PartC.both {c d e : CpV} {p : Nat → Bool} (h : PartC c d p true) (k : PartC c e p false) (hc : OkC c) : Joins d e ∧ mergeD d.data e.data = c.data ∧ d.sc.add e.sc = c.sc := by
 have hd := h.ok hc
 have he := k.ok hc
 have hs : d.muts.Sublist c.muts := by rw [h.muts]; exact partL_sub _ _ _ _
 have ks : e.muts.Sublist c.muts := by rw [k.muts]; exact partL_sub _ _ _ _
 have g : agreeM d.muts e.muts := fun x hx y hy h0 => riseM_uniq hc.rise (hs.subset hx) (ks.subset hy) h0
 have em : mergeM d.muts e.muts = c.muts := riseM_ext (mergeM_rise hd.rise he.rise) hc.rise fun x => by
  rw [agreeM_mem hd.rise he.rise g]
  refine ⟨fun q => q.elim (fun q => hs.subset q) (fun q => ks.subset q), fun q => ?_⟩
  obtain ⟨j, hj, rfl⟩ := List.mem_iff_getElem.1 q
  have hj2 : c.muts[j]? = some c.muts[j] := List.getElem?_eq_getElem hj
  cases hp : p j
  · right; rw [k.muts, partL_mem]; exact ⟨j, hj2, by rw [Nat.zero_add]; exact hp⟩
  · left; rw [h.muts, partL_mem]; exact ⟨j, hj2, by rw [Nat.zero_add]; exact hp⟩
 refine ⟨⟨hd, he, sameS_trans (sameS_symm h.same) k.same, g⟩, ?_, ?_⟩
 · obtain ⟨⟨s1, s2, s3⟩, s4, s5⟩ := sameS_iff.1 h.same
   have ec := hc.sc
   unfold mergeD CpV.data
   simp only [em, ← s1, ← s2, ← s3, ← s4, ← s5, ← ec]
 · rw [h.sc, k.sc, h.muts, k.muts, hc.sc]; exact partL_score p c.muts
theorem right_verdict {m : Mt} (h : rightZ m = true) : m.verdict ≠ -1 := by
 intro e
 unfold rightZ at h
 rw [e] at h
 simp at h
theorem OkC.verdict {c : CpV} (h : OkC c) {m : Mt} (hm : m ∈ c.muts) : m.verdict ≠ -1 := by
 have := h.odd m hm
 unfold oddZ at this
 cases hr : rightZ m
 · rw [hr] at this; simp at this
 · exact right_verdict hr
theorem PartC.diff {c d e : CpV} {p : Nat → Bool} (h : PartC c d p true) (k : PartC c e p false) (hc : OkC c) : diffL c.muts d.muts = e.muts.map fun m => (m.d, m.verdict, -1) := by
 have hd := h.ok hc
 have hs : d.muts.Sublist c.muts := by rw [h.muts]; exact partL_sub _ _ _ _
 obtain ⟨-, em⟩ := mergeM_sub hc.rise hd.rise (fun y hy => hs.subset hy)
 rw [diffL_told _ _ hc.rise hd.rise, em, k.muts]
 refine partL_all p _ _ _ 0 fun j x hx => ?_
 have hxc : x ∈ c.muts := List.mem_of_getElem? hx
 rw [toldZ_mem hc.rise hxc, Nat.zero_add]
 cases hp : p j
 · have : toldZ d.muts x.d = -1 := toldZ_no fun y hy h0 => by
    rw [h.muts, partL_mem] at hy
    obtain ⟨i, hi, hpi⟩ := hy
    rw [Nat.zero_add] at hpi
    have := riseM_at hc.rise hi hx (cmpD_eq.1 h0)
    rw [this, hp] at hpi; cases hpi
   rw [this, if_neg (hc.verdict hxc), if_neg (by simp)]
 · have hxd : x ∈ d.muts := by rw [h.muts, partL_mem]; exact ⟨j, hx, by rw [Nat.zero_add]; exact hp⟩
   rw [toldZ_mem hd.rise hxd, if_pos rfl, if_pos rfl]
end Go.Proofs.YtcgglolckkeeiaaGreat
namespace Go.Proofs.YtcgglolckkeeiaaGreat
set_option linter.unusedVariables false
open Go.RowKit Go.Deep
theorem info_mt : (Tryz.prog.info? 47).map (fun i => (i.zero, i.size, i.bytes)) = some (some (.agg #[.slice none 0 0, .int .i64 0, .int .i64 0, .int .i64 0, .int .i64 0, .int .i64 0, .int .i64 0, .string ByteArray.empty]), 8, 88) := by kernel_rfl
theorem mtsC_one (l : List MtV) : ∀ u ∈ mtsC l, u.oneCell' = true := fun u hu => by
 obtain ⟨x, _, hx⟩ := List.mem_flatMap.1 hu
 have := mt_one x
 rw [Array.all_eq_true'] at this
 exact this u (by simpa using hx)
end Go.Proofs.YtcgglolckkeeiaaGreat
