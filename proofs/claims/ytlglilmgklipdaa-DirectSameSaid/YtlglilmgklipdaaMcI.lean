/- The walk over machine.pairs: a map of functions. Conditions: stated in each theorem. -/
import Derived.Test.YtlglilmgklipdaaMcB
import Derived.Test.YtlglilmgklipdaaKdR
namespace Go.Proofs.Ytlglilmgklipdaa
set_option linter.unusedVariables false
open Go.RowKit Go.Deep

structure PS (w W : World) (M : Nat) (es : List (Int × Value)) : Prop where
  below : Below w.heap.size w W
  lo : w.heap.size ≤ M
  map : MapB W M es
theorem wpList_insert_ps {ops : Array Oper} {rest : List Oper} {o : Oper} {a : Act} {w W : World} {Q : Exit → Act → World → Prop} {M : Nat} {es : List (Int × Value)} (hgd : o.guard = none) (m x y : Operand) (ho : o.op = .insert 58 m x y ∨ o.op = .mapUpdate 58 m x y) (hm : a.eval m = .map (some M)) (k : Int) (v : Value) (hx : a.eval x = .int .i64 k) (hy : a.eval y = v) (hs : PS w W M es) (hn : assoc k es = none)
    (h : ∀ W', PS w W' M (es ++ [(k, v)]) → wpList Try.prog ops Q rest (a.put o.dst undef) W') : wpList Try.prog ops Q (o :: rest) a W :=
  wpList_insert_map hgd m x y ho Try.underlying58 Try.underlying3 hs.map hm k v hx hy hn fun W' h4 o4 => h W' ⟨below_only hs.below o4 hs.lo, hs.lo, h4⟩
set_option maxRecDepth 100000 in
set_option maxHeartbeats 8000000 in
theorem pairs_any (w : World) : Calls Try.prog 49 #[] w fun e w' => ∃ M, e = .returned (.map (some M)) ∧ PS w w' M pairsL := by
  have hmm : ∀ w : World, (Instr.makeMap 58 none).run Try.prog w = .ok (.map (some w.heap.size)) (w.alloc (.map #[] 0)) := fun _ => by kernel_rfl
  go_enter Try.func49, Try.ntmps49
  have r0 : PS w (w.alloc (.map #[] 0)) w.heap.size [] := ⟨(Below.refl _ _).alloc (Nat.le_refl _) _, Nat.le_refl _, MapB.new w⟩
  go_wp2_with (refine wpList_insert_ps rfl _ _ _ (.inl rfl) rfl _ _ rfl rfl (by assumption) (by first | rfl | decide) ?_; intro W' h')
  go_ret
  exact ⟨_, rfl, h'⟩
end Go.Proofs.Ytlglilmgklipdaa
