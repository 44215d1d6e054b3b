/- The machine in memory: a frame is taken off; a variable is set. Conditions: stated in each law. -/
import Derived.Test.YtlglilmgklipdaaMcD
import Derived.Test.YtlglilmgklipdaaMcE
import Derived.Test.YtlglilmgklipdaaMcF
import Derived.Test.YtlglilmgklipdaaKit
namespace Go.Proofs.Ytlglilmgklipdaa
set_option linter.unusedVariables false
open Go.RowKit Go.Deep

theorem yields_at {P : Program} {ops : Array Oper} {S : World → Prop} {a : Act} {o : Oper} (hw : Region.wanted o (yielded ops a.tmps) = true) (ty : TypeId) (x : Operand) (ho : o.op = .load ty x) (ad : Addr) (hx : a.eval x = .pointer (some ad)) (cs : List Value) (d : TypeDesc)
    (hr : ∀ W, S W → ∀ (j : Nat) (v : Value), cs[j]? = some v → W.cell? (ad.add j) = some v) (hu : P.underlying ty = some d) (hd : (match d with | .struct _ | .array _ _ => true | _ => false) = true) (hi : (P.info? ty).map (·.size) = some cs.length) : YieldsIf P ops S o (.agg cs.toArray) a :=
  yields_val hw (fun W hW => by simp only [execOp, ho, hx, Instr.loadAt, Instr.sureAddr, Sem.run_bind, Sem.run_pure, Result.andThen_ok, run_loadVar_at W ad ty cs d (hr W hW) hu hd hi])
section
variable {L : Lay} {s : Ms} {x : FrV} {rs : List FrV} {sv ev : Value} {W W' : World} {SB cap : Nat} {cur : Array Value}
theorem MC.drop (h : MC L s (x :: rs) ev W) : MC L s rs ev W :=
  ⟨h.evs, h.vals, h.arrs, fun y hy => h.fr y (List.mem_cons_of_mem _ hy), (List.pairwise_cons.1 h.dist).2, h.im, h.size, h.sum, by have := h.few; simp at this; omega⟩
/-- The frame on top is taken off. -/
theorem MR.pop (h : MR L s (x :: rs) sv ev W) (hL : LOk L) (ht : Top L W x rs sv SB cap cur) (o : Only L.M W W') (hr : Row W' L.M 60 (L.cells s (.slice (some ⟨SB, 0, none⟩) rs.length cap) ev)) : MR L s rs (.slice (some ⟨SB, 0, none⟩) rs.length cap) ev W' :=
  ⟨hr, own_only ht.pop o (fun e => by have := own_lo ht.pop e; have := hL.lt; omega), (h.core.only hL o).drop⟩
theorem MR.drew1 (h : MR L s rs sv ev W) (hL : LOk L) : MR L s rs sv ev W.drew := h.below hL ⟨rfl, rfl, rfl, Nat.le_refl _, fun _ _ => rfl⟩
theorem Top.drew1 (h : Top L W x rs sv SB cap cur) : Top L W.drew x rs sv SB cap cur := h.below ⟨rfl, rfl, rfl, Nat.le_refl _, fun _ _ => rfl⟩
theorem Chg.drew1 (h : Chg L W W') : Chg L W W'.drew := h.trans ⟨rfl, rfl, rfl, Nat.le_refl _, fun _ _ _ _ _ => rfl⟩
theorem MR.few1 (h : MR L s (x :: rs) sv ev W) : s.evs.length + rs.length < s.steps := by have := h.core.few; simp at this; omega
/-- A variable is set. -/
theorem MR.setVal (h : MR L s rs sv ev W) (hL : LOk L) (n : Nat) (v : Int) (hn : n < s.vals.length) : ∃ g cap cur, L.vv = .slice (some ⟨g, 0, none⟩) s.vals.length cap ∧ Row W g 3 cur ∧ n < cur.size ∧ ∀ W1, Only g W W1 → Row W1 g 3 (cur.setIfInBounds n (.int .i64 v)) → MR L { s with vals := s.vals.set n v } rs sv ev W1 ∧ Chg L W W1 := by
  rcases h.core.vals.2 with ⟨_, h0⟩ | ⟨g, cap, cur, hv, hb, hh, hc, hm, hsz, ht⟩
  · have := h.core.vals.1; rw [h0] at this; simp [ints] at this; omega
  · have hgb : L.vv.ownBlock = some g := by rw [hv]; rfl
    refine ⟨g, cap, cur, hv, hh, by omega, fun W1 o r1 => ?_⟩
    have hlt := hL.vlt g hgb
    have ne : ∀ {e : TypeId} {size m : Nat} {u : Value} {xs : List Value}, W.ownsRow L.b1 e size u m xs → W1.ownsRow L.b1 e size u m xs := fun h' => own_only h' o (fun e => by have := own_lo h' e; omega)
    refine ⟨⟨h.row.only o (fun e => hlt.2.1 e.symm), ne h.stack, ⟨ne h.core.evs, ⟨by have := h.core.vals.1; simp [ints] at this ⊢, .inr ⟨g, cap, _, by simpa using hv, hb, r1, by simpa using hc, hm, by simpa using hsz, ?_⟩⟩, ?_, fun y hy => ne (h.core.fr y hy), h.core.dist, hL.im _ _ h.core.im (.only o (.inr (.inr (.inl hgb)))), by rw [o.size]; exact h.core.size, h.core.sum, h.core.few⟩⟩, .only o (.inr (.inr (.inl hgb)))⟩
    · simp only [Array.toList_setIfInBounds, List.length_set]
      rw [List.take_set, ht]
      simp [ints, List.map_set]
    · intro i g' a hi ha
      exact (h.core.arrs i g' a hi ha).only o (fun e => hlt.2.2 (by subst e; exact List.mem_of_getElem? hi))
/-- An array's cell is set. -/
theorem MR.setArr (h : MR L s rs sv ev W) (hL : LOk L) (n i : Nat) (v : Int) (a : List Int) (g : Nat) (hg : L.ab[n]? = some g) (ha : s.arrs[n]? = some a) : Row W g 3 (ints a).toArray ∧ ∀ W1, Only g W W1 → Row W1 g 3 ((ints a).toArray.setIfInBounds i (.int .i64 v)) → MR L { s with arrs := s.arrs.set n (a.set i v) } rs sv ev W1 ∧ Chg L W W1 := by
  refine ⟨h.core.arrs n g a hg ha, fun W1 o r1 => ?_⟩
  have hm := List.mem_of_getElem? hg
  have hlt := hL.alt g hm
  have ne : ∀ {e : TypeId} {size m : Nat} {u : Value} {xs : List Value}, W.ownsRow L.b1 e size u m xs → W1.ownsRow L.b1 e size u m xs := fun h' => own_only h' o (fun e => by have := own_lo h' e; omega)
  refine ⟨⟨h.row.only o (fun e => hlt.2 e.symm), ne h.stack, ⟨ne h.core.evs, own_only h.core.vals o (fun e => (hL.vlt g e).2.2 hm), ?_, fun y hy => ne (h.core.fr y hy), h.core.dist, hL.im _ _ h.core.im (.only o (.inr (.inr (.inr hm)))), by rw [o.size]; exact h.core.size, h.core.sum, h.core.few⟩⟩, .only o (.inr (.inr (.inr hm)))⟩
  intro j g' b hj hb
  by_cases hjn : j = n
  · subst hjn
    rw [hg] at hj; cases hj
    have hjl : j < s.arrs.length := (List.getElem?_eq_some_iff.1 ha).1
    simp only [List.getElem?_set_self hjl, Option.some.injEq] at hb
    subst hb
    have : (ints (a.set i v)).toArray = (ints a).toArray.setIfInBounds i (.int .i64 v) := by simp [ints, List.map_set]
    rw [this]; exact r1
  · have hb' : s.arrs[j]? = some b := by simpa [List.getElem?_set, Ne.symm hjn] using hb
    refine (h.core.arrs j g' b hj hb').only o (fun e => hjn ?_)
    subst e
    have h1 := List.getElem?_eq_some_iff.1 hg
    have h2 := List.getElem?_eq_some_iff.1 hj
    obtain ⟨l1, e1⟩ := h1
    obtain ⟨l2, e2⟩ := h2
    rcases Nat.lt_trichotomy j n with hl | hl | hl
    · exact absurd (e2.trans e1.symm) (List.pairwise_iff_getElem.1 hL.and j n l2 l1 hl)
    · exact hl
    · exact absurd (e1.trans e2.symm) (List.pairwise_iff_getElem.1 hL.and n j l1 l2 hl)
end
end Go.Proofs.Ytlglilmgklipdaa
