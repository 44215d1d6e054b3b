/- A parameter boxed: the step that names the world behind it. -/
import Derived.Test.YtkdcelnlhhodlaaGen
namespace Go.Proofs.Ytkdcelnlhhodlaa
open Go.RowKit

section
variable {P : Program} {ops : Array Oper} {rest : List Oper} {o : Oper} {a : Act} {w : World} {Q : Exit → Act → World → Prop}
theorem at_box (ty : TypeId) (x : Operand) (_ : o.op = .box ty x) (h : Stop (wpList P ops Q (o :: rest) a w) id) : wpList P ops Q (o :: rest) a w := h.out
theorem wpList_box_gen (hgd : o.guard = none) (ty : TypeId) (x : Operand) (ho : o.op = .box ty x) (cs : Array Value) (hx : (a.eval x).cells = cs)
    (h : ∀ g w', w.heap.size ≤ g → Row w' g ty cs → Below g w w' → wpList P ops Q rest (a.put o.dst (.pointer (some ⟨g, 0, none⟩))) w') : wpList P ops Q (o :: rest) a w :=
  wpList_plain hgd fun _ hK => by
    have e : (execOp a.eval o).run P w = .ok (.value (.pointer (some ⟨w.heap.size, 0, none⟩))) (w.alloc (.cells cs ty)) := by
      rw [← hx]; simp [execOp, ho, Instr.box, Sem.run_bind, newVar, newRow]
    unfold Oper.wp
    rw [e]
    exact hK _ _ (h _ _ (Nat.le_refl _) (Row.new _ _ _) ((Below.refl _ _).alloc (Nat.le_refl _) _))
end
end Go.Proofs.Ytkdcelnlhhodlaa
