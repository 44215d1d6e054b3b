/- The walk over kinds.rules: a map of rules. Conditions: stated in each theorem. -/
import Derived.Test.YtlglilmgklipdaaMapI
import Derived.Test.YtlglilmgklipdaaRf9c
namespace Go.Proofs.Ytlglilmgklipdaa
set_option linter.unusedVariables false
open Go.RowKit Go.Deep

def ruleC (k : Int) : Option (Int × List Int) :=
  if k = 1 then some (0, []) else if k = 2 then some (1, []) else if k = 5 then some (0, [0]) else if k = 6 then some (1, [1]) else if k = 18 then some (1, [1, 1]) else if k = 19 then some (1, [1, 1])
  else if k = 23 then some (2, [1, 2, 2]) else if k = 24 then some (2, [1, 2]) else if k = 25 then some (2, [0]) else if k = 26 then some (2, [])
  else if 7 ≤ k ∧ k ≤ 11 then some (0, [0, 0]) else if 12 ≤ k ∧ k ≤ 17 then some (1, [0, 0]) else none
def arrC (k : Int) : Option (Int × List Int) := if k = 4 then some (0, [0]) else if k = 22 then some (2, [0, 0]) else none
inductive RuleR (W : World) : Int → Value → Prop
  | plain (k is : Int) (A : Option Addr) (n cap : Nat) (want : List Int) (hc : ruleC k = some (is, want)) (hn : n = want.length) (hr : Rd W A (ints want)) : RuleR W k (.iface 129 (.agg #[.slice A n cap, .int .i64 is]))
  | scalar (k : Int) (b : Bool) (h : k = 3 ∧ b = false ∨ k = 21 ∧ b = true) : RuleR W k (.iface 131 (.agg #[.bool b]))
  | array (k is : Int) (A : Option Addr) (n cap : Nat) (want : List Int) (hc : arrC k = some (is, want)) (hn : n = want.length) (hr : Rd W A (ints want)) : RuleR W k (.iface 133 (.agg #[.slice A n cap, .int .i64 is]))
theorem RuleR.go {W W' : World} {k : Int} {v : Value} (h : RuleR W k v) (b : Below W.heap.size W W') : RuleR W' k v := by
  cases h with
  | plain is A n cap want hc hn hr => exact .plain _ _ _ _ _ _ hc hn (hr.go b)
  | scalar b' h => exact .scalar _ _ h
  | array is A n cap want hc hn hr => exact .array _ _ _ _ _ _ hc hn (hr.go b)
theorem Rd.only_map {W W' : World} {A : Option Addr} {xs : List Value} {M : Nat} {es : List (Int × Value)} (h : Rd W A xs) (hm : MapB W M es) (o : Only M W W') : Rd W' A xs := fun j u hj => by
  obtain ⟨ad, e, hc⟩ := h j u hj
  refine ⟨ad, e, ?_⟩
  have hne : (ad.add j).block ≠ M := fun e2 => by
    obtain ⟨arr, clock, he, _⟩ := hm
    simp [World.cell?, e2, he] at hc
  rw [← hc]
  simp only [World.cell?, o.block _ hne]
theorem RuleR.only {W W' : World} {k : Int} {v : Value} {M : Nat} {es : List (Int × Value)} (h : RuleR W k v) (hm : MapB W M es) (o : Only M W W') : RuleR W' k v := by
  cases h with
  | plain is A n cap want hc hn hr => exact .plain _ _ _ _ _ _ hc hn (hr.only_map hm o)
  | scalar b' h => exact .scalar _ _ h
  | array is A n cap want hc hn hr => exact .array _ _ _ _ _ _ hc hn (hr.only_map hm o)
structure RS (w W : World) (M : Nat) (D : List Int) : Prop where
  below : Below w.heap.size w W
  lo : w.heap.size ≤ M
  map : ∃ es, MapB W M es ∧ es.map (·.1) = D ∧ ∀ p ∈ es, RuleR W p.1 p.2
theorem RS.go {w W W' : World} {M : Nat} {D : List Int} (h : RS w W M D) (b : Below W.heap.size W W') : RS w W' M D := by
  obtain ⟨es, h1, h2, h3⟩ := h.map
  exact ⟨h.below.trans (b.mono h.below.size), h.lo, es, h1.below b h1.lt, h2, fun p hp => (h3 p hp).go b⟩
theorem RS.alloc {w W : World} {M : Nat} {D : List Int} (h : RS w W M D) (o : Obj) : RS w (W.alloc o) M D := h.go ((Below.refl _ _).alloc (Nat.le_refl _) o)
theorem assoc_none {k : Int} : ∀ {es : List (Int × Value)}, k ∉ es.map (·.1) → assoc k es = none
  | [], _ => rfl
  | (k', v) :: es, h => by
    rw [assoc, if_neg (fun e => h (by simp [e]))]
    exact assoc_none (fun hm => h (by simp at hm ⊢; exact .inr hm))
theorem assoc_mem {k : Int} {v : Value} : ∀ {es : List (Int × Value)}, assoc k es = some v → (k, v) ∈ es
  | [], h => by cases h
  | (k', v') :: es, h => by
    rw [assoc] at h
    split at h
    · rename_i e; injection h with h; subst e h; simp
    · exact List.mem_cons_of_mem _ (assoc_mem h)
theorem assoc_some {k : Int} : ∀ {es : List (Int × Value)}, k ∈ es.map (·.1) → ∃ v, assoc k es = some v
  | [], h => by simp at h
  | (k', v') :: es, h => by
    rw [assoc]
    by_cases e : k = k'
    · exact ⟨v', if_pos e⟩
    · rw [if_neg e]
      refine assoc_some ?_
      simp only [List.map_cons, List.mem_cons] at h
      rcases h with h | h
      · exact absurd h e
      · exact h
theorem wpList_insert_rs {ops : Array Oper} {rest : List Oper} {o : Oper} {a : Act} {w W : World} {Q : Exit → Act → World → Prop} {M : Nat} {D : List Int} (hgd : o.guard = none) (m x y : Operand) (ho : o.op = .insert 96 m x y ∨ o.op = .mapUpdate 96 m x y) (hm : a.eval m = .map (some M)) (k : Int) (v : Value) (hx : a.eval x = .int .i64 k) (hy : a.eval y = v) (hs : RS w W M D) (hn : k ∉ D) (hr : RuleR W k v)
    (h : ∀ W', RS w W' M (D ++ [k]) → wpList Try.prog ops Q rest (a.put o.dst undef) W') : wpList Try.prog ops Q (o :: rest) a W := by
  obtain ⟨es, h1, h2, h3⟩ := hs.map
  subst h2
  refine wpList_insert_map hgd m x y ho Try.underlying96 Try.underlying3 h1 hm k v hx hy (assoc_none hn) ?_
  intro W' h4 o4
  refine h W' ⟨below_only hs.below o4 hs.lo, hs.lo, _, h4, by simp, fun p hp => ?_⟩
  rcases List.mem_append.1 hp with hp | hp
  · exact (h3 p hp).only h1 o4
  · rw [List.mem_singleton.1 hp]; exact hr.only h1 o4

set_option maxRecDepth 100000 in
set_option maxHeartbeats 8000000 in
theorem rules_any (w : World) : Calls Try.prog 61 #[] w fun e w' => ∃ M D, e = .returned (.map (some M)) ∧ RS w w' M D ∧ ∀ k, k ∈ D ↔ (1 ≤ k ∧ k ≤ 26 ∧ k ≠ 20) := by
  have hmm : ∀ w : World, (Instr.makeMap 96 none).run Try.prog w = .ok (.map (some w.heap.size)) (w.alloc (.map #[] 0)) := fun _ => by kernel_rfl
  go_enter Try.func61, Try.ntmps61
  have r0 : RS w (w.alloc (.map #[] 0)) w.heap.size [] := ⟨(Below.refl _ _).alloc (Nat.le_refl _) _, Nat.le_refl _, [], MapB.new w, rfl, fun p hp => by simp at hp⟩
  obtain ⟨M, hM⟩ : ∃ M, M = w.heap.size := ⟨_, rfl⟩
  go_wp2_with (refine wpList_insert_rs rfl _ _ _ (.inl rfl) rfl _ _ rfl rfl (by first | assumption | exact RS.alloc (by assumption) _) (by decide) (by first | exact RuleR.scalar _ _ (by decide) | exact RuleR.plain _ _ _ _ _ [] rfl rfl (Rd.nil _ _) | exact RuleR.plain _ _ _ _ _ [0] rfl rfl (rd_new _ (ints [0]) _) | exact RuleR.plain _ _ _ _ _ [1] rfl rfl (rd_new _ (ints [1]) _) | exact RuleR.plain _ _ _ _ _ [1, 1] rfl rfl (rd_new _ (ints [1, 1]) _) | exact RuleR.plain _ _ _ _ _ [1, 2] rfl rfl (rd_new _ (ints [1, 2]) _) | exact RuleR.plain _ _ _ _ _ [1, 2, 2] rfl rfl (rd_new _ (ints [1, 2, 2]) _) | exact RuleR.array _ _ _ _ _ [0] rfl rfl (rd_new _ (ints [0]) _) | exact RuleR.array _ _ _ _ _ [0, 0] rfl rfl (rd_new _ (ints [0, 0]) _)) ?_; intro W' h')
  have hrs : RS w W' M ([1, 2, 3, 21, 4, 22, 5, 6, 18, 19, 23, 24, 25, 26]) := by rw [hM]; exact h'
  have HM := Lib.hid hM
  rw [← hM]
  clear h' r0 hmm hM
  go_loopw [2] (fun i wr => ∃ (k : Nat) (D : List Int), i = .int .i64 (k : Int) ∧ 7 ≤ k ∧ k ≤ 18 ∧ RS w wr M D ∧ Hid (∀ j : Int, j ∈ D ↔ (j ∈ [1, 2, 3, 21, 4, 22, 5, 6, 18, 19, 23, 24, 25, 26] ∨ (7 ≤ j ∧ j < (k : Int))))) (fun i _ => 18 - (intOf i).toNat)
  case atStart => exact ⟨7, _, rfl, by omega, by omega, hrs, Lib.hid (fun j => ⟨.inl, fun h => h.elim id (fun h => by omega)⟩)⟩
  case round =>
    clear hrs
    obtain ⟨k, D, rfl, h7, h18, hrs, hD⟩ := hrel
    by_cases hlt : k < 18
    · have hnot : (k : Int) ∉ D := fun h => by
        rcases (hD.out (k : Int)).1 h with h | h
        · simp only [List.mem_cons, List.not_mem_nil, or_false] at h; omega
        · omega
      have Hnot := Lib.hid hnot
      clear hnot
      by_cases h12 : k < 12
      · have hc : ruleC (k : Int) = some (0, [0, 0]) := by
          unfold ruleC
          repeat (first | rw [if_neg (show ¬ _ by omega)] | rw [if_pos (show _ by omega)])
        have Hc := Lib.hid hc
        clear hc
        go_wp2_with (refine wpList_insert_rs rfl _ _ _ (.inr rfl) rfl _ _ rfl rfl (RS.alloc hrs _) Hnot.out (RuleR.plain _ _ _ _ _ [0, 0] Hc.out rfl (rd_new wr (ints [0, 0]) _)) ?_; intro W2 h2)
        go_roundw
        case rel =>
          refine ⟨k + 1, _, by go_num, by omega, by omega, h2, Lib.hid (fun j => ?_)⟩
          rw [List.mem_append, hD.out j, List.mem_singleton]
          constructor
          · rintro ((h | h) | h)
            · exact .inl h
            · exact .inr (by omega)
            · exact .inr (by omega)
          · rintro (h | h)
            · exact .inl (.inl h)
            · by_cases e : j = (k : Int)
              · exact .inr e
              · exact .inl (.inr (by omega))
        case measure => simp [intOf]; omega
      · have h12' : 12 ≤ k := by omega
        have hc : ruleC (k : Int) = some (1, [0, 0]) := by
          unfold ruleC
          repeat (first | rw [if_neg (show ¬ _ by omega)] | rw [if_pos (show _ by omega)])
        have Hc := Lib.hid hc
        clear hc
        go_wp2_with (refine wpList_insert_rs rfl _ _ _ (.inr rfl) rfl _ _ rfl rfl (RS.alloc hrs _) Hnot.out (RuleR.plain _ _ _ _ _ [0, 0] Hc.out rfl (rd_new wr (ints [0, 0]) _)) ?_; intro W2 h2)
        go_roundw
        case rel =>
          refine ⟨k + 1, _, by go_num, by omega, by omega, h2, Lib.hid (fun j => ?_)⟩
          rw [List.mem_append, hD.out j, List.mem_singleton]
          constructor
          · rintro ((h | h) | h)
            · exact .inl h
            · exact .inr (by omega)
            · exact .inr (by omega)
          · rintro (h | h)
            · exact .inl (.inl h)
            · by_cases e : j = (k : Int)
              · exact .inr e
              · exact .inl (.inr (by omega))
        case measure => simp [intOf]; omega
    · obtain rfl : k = 18 := by omega
      go_wp2
      go_ret
      refine ⟨M, D, rfl, hrs, fun j => ?_⟩
      rw [hD.out j]
      simp only [List.mem_cons, List.not_mem_nil, or_false]
      omega
end Go.Proofs.Ytlglilmgklipdaa
