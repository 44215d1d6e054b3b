/- Lemmas for JnBll. -/
import Derived.Test.YtcgglolckkeeiaaGreatZk29
namespace Go.Proofs.YtcgglolckkeeiaaGreat
set_option linter.unusedVariables false
open Go.RowKit Go.Deep
def InZ (d : Dl) (l : List Mt) (p : Int × Int) : Prop := (p = (0, 0) ∧ ∀ m ∈ l, cmpD m.d d ≠ 0) ∨ (p.1 = 1 ∧ ∃ m ∈ l, cmpD m.d d = 0 ∧ p.2 = m.verdict)
theorem InZ.nil (d : Dl) : InZ d [] (0, 0) := .inl ⟨rfl, fun m hm => by simp at hm⟩
theorem InZ.yes {d : Dl} {pre l : List Mt} {k : Nat} {m : Mt} (hm : l[k]? = some m) (hd : cmpD m.d d = 0) : InZ d (pre ++ l.take (k + 1)) (1, m.verdict) :=
 .inr ⟨rfl, m, by rw [List.take_add_one, hm]; simp, hd, rfl⟩
theorem InZ.no {d : Dl} {pre l : List Mt} {k : Nat} {m : Mt} {p : Int × Int} (h : InZ d (pre ++ l.take k) p) (hm : l[k]? = some m) (hd : ¬ cmpD m.d d = 0) : InZ d (pre ++ l.take (k + 1)) p := by
 rw [List.take_add_one, hm, ← List.append_assoc]
 rcases h with ⟨h1, h2⟩ | ⟨h1, x, hx, h2⟩
 · refine .inl ⟨h1, fun y hy => ?_⟩
   rcases List.mem_append.1 hy with hy | hy
   · exact h2 y hy
   · simp only [Option.toList_some, List.mem_singleton] at hy
     rw [hy]; exact hd
 · exact .inr ⟨h1, x, List.mem_append.2 (.inl hx), h2⟩
theorem InZ.full {d : Dl} {pre l : List Mt} {p : Int × Int} {n : Nat} (h : InZ d (pre ++ l.take n) p) (hn : l.length ≤ n) : InZ d (pre ++ l) p := by rwa [List.take_of_length_le hn] at h
def CnZ {α : Type} (g : α → Dl) (d : Dl) (l : List α) (c : Int) : Prop := (c = 0 ∧ ∀ m ∈ l, cmpD (g m) d ≠ 0) ∨ (c = 1 ∧ ∃ m ∈ l, cmpD (g m) d = 0)
theorem CnZ.nil {α : Type} (g : α → Dl) (d : Dl) : CnZ g d [] 0 := .inl ⟨rfl, fun m hm => by simp at hm⟩
theorem CnZ.yes {α : Type} {g : α → Dl} {d : Dl} {l : List α} (hl : l.Pairwise fun x y => cmpD (g x) (g y) < 0) {k : Nat} {m : α} {c : Int} (h : CnZ g d (l.take k) c) (hm : l[k]? = some m) (hd : cmpD (g m) d = 0) : CnZ g d (l.take (k + 1)) (c + 1) := by
 rcases h with ⟨rfl, _⟩ | ⟨_, x, hx, h2⟩
 · exact .inr ⟨rfl, m, by rw [List.take_add_one, hm]; simp, hd⟩
 · obtain ⟨j, hj, e⟩ := List.mem_iff_getElem.1 hx
   rw [List.length_take] at hj
   rw [List.getElem_take] at e
   have h3 := pw_get hl (i := j) (j := k) (x := x) (y := m) (by rw [← e]; exact List.getElem?_eq_getElem _) hm (by omega)
   rw [cmpD_eq.1 h2, cmpD_eq.1 hd, cmpD_self] at h3
   omega
theorem CnZ.no {α : Type} {g : α → Dl} {d : Dl} {l : List α} {k : Nat} {m : α} {c : Int} (h : CnZ g d (l.take k) c) (hm : l[k]? = some m) (hd : ¬ cmpD (g m) d = 0) : CnZ g d (l.take (k + 1)) c := by
 rw [List.take_add_one, hm]
 rcases h with ⟨h1, h2⟩ | ⟨h1, x, hx, h2⟩
 · refine .inl ⟨h1, fun y hy => ?_⟩
   rcases List.mem_append.1 hy with hy | hy
   · exact h2 y hy
   · simp only [Option.toList_some, List.mem_singleton] at hy
     rw [hy]; exact hd
 · exact .inr ⟨h1, x, List.mem_append.2 (.inl hx), h2⟩
theorem CnZ.full {α : Type} {g : α → Dl} {d : Dl} {l : List α} {c : Int} {n : Nat} (h : CnZ g d (l.take n) c) (hn : l.length ≤ n) : CnZ g d l c := by rwa [List.take_of_length_le hn] at h
theorem Joins.verdict {a b x : CpV} (h : Joins a b) (e : x.data = mergeD a.data b.data) {d : Dl} {p : Int × Int} (hp : InZ d (a.muts ++ b.muts) p) {y : Mt} (hy : y ∈ x.muts) (hd : cmpD y.d d = 0) : y.verdict = p.2 := by
 have e6 : x.muts = mergeM a.muts b.muts := congrArg Cd.muts e
 have hm := agreeM_mem h.ha.rise h.hb.rise h.agree
 rcases hp with ⟨_, h2⟩ | ⟨_, m, hmm, h2, h3⟩
 · rw [e6, hm] at hy
   exact absurd hd (h2 y (List.mem_append.2 hy))
 · have hmx : m ∈ mergeM a.muts b.muts := (hm m).2 (List.mem_append.1 hmm)
   rw [e6] at hy
   have := riseM_uniq (mergeM_rise h.ha.rise h.hb.rise) hy hmx (by rw [cmpD_eq.1 h2, cmpD_eq.1 hd, cmpD_self])
   rw [this]; exact h3.symm
theorem apart_once {a b : List Mt} (ha : riseM a) (hb : riseM b) {d : Dl} {c : Int} (hc : CnZ (fun p : Dl × Int × Int => p.1) d (diffL a b) c) : (c = 1 ↔ toldZ a d ≠ toldZ b d) ∧ c ≤ 1 := by
 rw [← diffL_mem ha hb]
 rcases hc with ⟨rfl, h⟩ | ⟨rfl, p, hp, h⟩
 · exact ⟨⟨fun h9 => absurd h9 (by decide), fun ⟨p, hp, e⟩ => absurd (cmpD_eq.2 e) (h p hp)⟩, by decide⟩
 · exact ⟨⟨fun _ => ⟨p, hp, cmpD_eq.1 h⟩, fun _ => rfl⟩, Int.le_refl _⟩
theorem diffE_0 {a b : CpV} (h : diffE a b = 0) : OkC a ∧ OkC b ∧ sameP a.p b.p = true := by
 unfold diffE at h
 by_cases h1 : cpChecks a b = 0
 · rw [if_neg (by simp [h1])] at h
   obtain ⟨h2, h3⟩ := checks_iff.1 h1
   refine ⟨h2, h3, ?_⟩
   by_cases h4 : sameP a.p b.p = true
   · exact h4
   · rw [if_neg h4] at h; exact absurd h (by decide)
 · rw [if_pos h1] at h; exact absurd h h1
theorem diffE_of {a b : CpV} (h1 : OkC a) (h2 : OkC b) (h3 : sameP a.p b.p = true) : diffE a b = 0 := by
 unfold diffE; rw [if_neg (by rw [checks_iff.2 ⟨h1, h2⟩]; simp), if_pos h3]
theorem diffE_symm {a b : CpV} (h : diffE a b = 0) : diffE b a = 0 := by
 obtain ⟨h1, h2, h3⟩ := diffE_0 h
 refine diffE_of h2 h1 ?_
 unfold sameP at h3 ⊢
 rw [decide_eq_true_eq] at h3 ⊢
 exact ⟨h3.1.symm, h3.2.1.symm, h3.2.2.symm⟩
end Go.Proofs.YtcgglolckkeeiaaGreat
