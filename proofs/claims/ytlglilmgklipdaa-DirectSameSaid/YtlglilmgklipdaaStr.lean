/- A region in the order of the text, each operation with one value in every world that meets S; a slice literal that names its world. Conditions: stated in each law. -/
import Derived.Test.YtlglilmgklipdaaKit
import Derived.Test.YtlglilmgklipdaaEvE
import Derived.Great.BuildSlice
namespace Go.Proofs.Ytlglilmgklipdaa
set_option linter.unusedVariables false
open Go.RowKit

section
variable {P : Program} {ops : Array Oper} {rest : List Oper} {o : Oper} {a : Act} {w : World} {Q : Exit → Act → World → Prop}
/-- The first n operations of a region in the order of the text. -/
theorem wpList_hold (S : World → Prop) (hS : S w) : ∀ (n : Nat) (l : List Oper) (a : Act) (w : World), S w → wpHold P ops S (fun a' => ∀ W, S W → wpList P ops Q (l.drop n) a' W) (l.take n) a → wpList P ops Q l a w := by
  intro n
  induction n with
  | zero => intro l a w hS h; exact h w hS
  | succ n ih =>
    intro l a w hS h
    cases l with
    | nil => exact h w hS
    | cons o l =>
      obtain ⟨v, hy, hh⟩ := h
      refine wpList_step fun K hK => ?_
      rcases hy with ⟨hw, hv⟩ | ⟨hw, rfl⟩
      · rw [if_pos hw]
        have h1 := hv w hS
        unfold Oper.wp
        generalize (execOp a.eval o).run P w = r at h1
        cases r with
        | ok n' w' =>
          cases n' <;> simp only [holdUpon] at h1 <;> simp only [Oper.upon]
          case value u => obtain ⟨rfl, h2⟩ := h1; exact hK _ _ (ih l _ _ h2 hh)
          case skip => obtain ⟨rfl, h2⟩ := h1; exact hK _ _ (ih l _ _ h2 hh)
          case enter f args => exact h1.mono fun e w'' ⟨he, hs⟩ => by subst he; exact hK _ _ (ih l _ _ hs hh)
        | halt x w' => simp only [holdUpon] at h1
      · rw [if_neg (by rw [hw]; simp)]
        exact hK _ _ (ih l _ _ hS hh)
theorem wpList_holdN (S : World → Prop) (n : Nat) {l : List Oper} (hS : S w) (h : wpHold P ops S (fun a' => ∀ W, S W → wpList P ops Q (l.drop n) a' W) (l.take n) a) : wpList P ops Q l a w := wpList_hold S hS n l a w hS h
theorem at_load (ty : TypeId) (x : Operand) (_ : o.op = .load ty x) (h : Stop (wpList P ops Q (o :: rest) a w) id) : wpList P ops Q (o :: rest) a w := h.out
theorem at_move (x : Operand) (_ : o.op = .move x) (h : Stop (wpList P ops Q (o :: rest) a w) id) : wpList P ops Q (o :: rest) a w := h.out
theorem at_slice (t : TypeId) (n : Nat) (ps : Array (Nat × Operand)) (_ : o.op = .buildSlice t n ps) (h : Stop (wpList P ops Q (o :: rest) a w) id) : wpList P ops Q (o :: rest) a w := h.out
theorem at_any (h : Stop (wpList P ops Q (o :: rest) a w) id) : wpList P ops Q (o :: rest) a w := h.out
/-- A slice literal. -/
theorem wpList_slice_gen (hw : Region.wanted o (yielded ops a.tmps) = true) (t : TypeId) (n : Nat) (ps : Array (Nat × Operand)) (ho : o.op = .buildSlice t n ps) (e : TypeId) (cells : Array Value)
    (hx : ∀ W, (Instr.buildSlice t n (ps.map fun (i, x) => (i, a.eval x))).run P W = .ok (.slice (some ⟨W.heap.size, 0, none⟩) n n) (W.alloc (.cells cells e)))
    (h : ∀ g w', w.heap.size ≤ g → Row w' g e cells → Below g w w' → wpList P ops Q rest (a.put o.dst (.slice (some ⟨g, 0, none⟩) n n)) w') : wpList P ops Q (o :: rest) a w := by
  refine BigFrame.wpList_want hw fun K hK => ?_
  unfold Oper.wp execOp
  simp only [ho, Sem.run_bind, hx, Result.andThen_ok, Sem.run_pure]
  exact hK _ _ (h _ _ (Nat.le_refl _) (Row.new _ _ _) ((Below.refl _ _).alloc (Nat.le_refl _) _))
theorem bs_run {t e : TypeId} {n sz : Nat} {z : Value} {parts : Array (Nat × Value)} {cells : Array Value} (hu : P.underlying t = some (.slice e)) (hi : (P.info? e).map (fun i => (i.zero, i.size)) = some (some z, sz)) (h1 : n * sz ≤ 2 ^ 24) (h2 : n * sz ≠ 0)
    (hf : Instr.fill (fun i => some (i * sz, sz)) ((Array.range (n * sz)).map (z.cells[· % z.cells.size]!)) parts.toList = some cells) : ∀ W, (Instr.buildSlice t n parts).run P W = .ok (.slice (some ⟨W.heap.size, 0, none⟩) n n) (W.alloc (.cells cells e)) := by
  intro W
  cases hq : P.info? e with
  | none => rw [hq] at hi; cases hi
  | some ie =>
    rw [hq] at hi
    simp only [Option.map_some, Option.some.injEq, Prod.mk.injEq] at hi
    obtain ⟨hz, rfl⟩ := hi
    exact run_buildSlice W t e n parts cells ie z hu hq hz (by omega) h2 hf
end
end Go.Proofs.Ytlglilmgklipdaa
