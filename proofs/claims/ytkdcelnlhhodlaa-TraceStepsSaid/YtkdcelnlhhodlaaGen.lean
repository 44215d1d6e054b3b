/- Steps that name the world behind them, so that no world is ever spelled out: an alloc, a store of a whole row, a load of one; and a stop for the walk. -/
import Derived.Test.YtkdcelnlhhodlaaBase
namespace Go.Proofs.Ytkdcelnlhhodlaa
open Go.RowKit

/-- The walk stands here. -/
structure Stop (p : Prop) (i : p → p) : Prop where
  out : p
theorem Stop.to {p : Prop} (h : p) : Stop p id := ⟨h⟩

/-- w' is w but for block g. -/
structure Only (g : Nat) (w w' : World) : Prop where
  os : w'.os = w.os
  tape : w'.tape = w.tape
  output : w'.output = w.output
  size : w'.heap.size = w.heap.size
  block : ∀ k, k ≠ g → w'.heap[k]? = w.heap[k]?
theorem Row.only {w w' : World} {g k : Nat} {t : TypeId} {cs : Array Value} (h : Row w k t cs) (o : Only g w w') (hk : k ≠ g) : Row w' k t cs := (o.block k hk).trans h
theorem Only.below {w w' : World} {g B : Nat} (o : Only g w w') (hg : B ≤ g) : Below B w w' := ⟨o.os, o.tape, o.output, Nat.le_of_eq o.size.symm, fun k hk => o.block k (by omega)⟩
theorem below_only {w w' a : World} {g B : Nat} (b : Below B a w) (o : Only g w w') (hg : B ≤ g) : Below B a w' := b.trans (o.below hg)
theorem only_setRow (w : World) (g : Nat) (cells : Array Value) : Only g w (w.setRow g cells) :=
  ⟨rfl, rfl, rfl, by simp [World.setRow], fun k hk => by simp only [World.setRow, Array.getElem?_modify]; rw [if_neg (fun h => hk h.symm)]⟩

section
variable {P : Program} {ops : Array Oper} {rest : List Oper} {o : Oper} {a : Act} {w : World} {K : Act → World → Prop} {Q : Exit → Act → World → Prop}

theorem wp_alloc_gen (ty : TypeId) (ho : o.op = .alloc ty) (z : Value) (cs : Array Value) (hz : (zeroValue ty).run P w = .ok z w) (hc : z.cells = cs)
    (h : ∀ g w', w.heap.size ≤ g → Row w' g ty cs → Below g w w' → K (a.put o.dst (.pointer (some ⟨g, 0, none⟩))) w') : o.wp P a w K Q := by
  have e : (execOp a.eval o).run P w = .ok (.value (.pointer (some ⟨w.heap.size, 0, none⟩))) (w.alloc (.cells cs ty)) := by
    rw [← hc]; simp [execOp, ho, Instr.alloc, Sem.run_bind, hz, newVar, newRow]
  unfold Oper.wp
  rw [e]
  exact h _ _ (Nat.le_refl _) (Row.new _ _ _) ((Below.refl _ _).alloc (Nat.le_refl _) _)

theorem wpList_alloc_gen (hgd : o.guard = none) (ty : TypeId) (ho : o.op = .alloc ty) (z : Value) (cs : Array Value) (hz : (zeroValue ty).run P w = .ok z w) (hc : z.cells = cs)
    (h : ∀ g w', w.heap.size ≤ g → Row w' g ty cs → Below g w w' → wpList P ops Q rest (a.put o.dst (.pointer (some ⟨g, 0, none⟩))) w') : wpList P ops Q (o :: rest) a w :=
  wpList_plain hgd fun _ hK => wp_alloc_gen ty ho z cs hz hc fun g w' h1 h2 h3 => hK _ _ (h g w' h1 h2 h3)

/-- An operation whose value is known. -/
theorem wpList_val (hgd : o.guard = none) (v : Value) (hv : (execOp a.eval o).run P w = .ok (.value v) w) (h : wpList P ops Q rest (a.put o.dst v) w) : wpList P ops Q (o :: rest) a w :=
  wpList_plain hgd fun _ hK => by unfold Oper.wp; rw [hv]; exact hK _ _ h
theorem run_exec_build {ρ : Operand → Value} (ty : TypeId) (ps : List (Nat × Operand)) (ho : o.op = .build ty ps.toArray) (v : Value) (hv : (Instr.build ty (ps.map fun (i, x) => (i, ρ x)).toArray).run P w = .ok v w) : (execOp ρ o).run P w = .ok (.value v) w := by
  simp only [execOp, ho, Sem.run_bind, List.map_toArray, hv, Result.andThen_ok, Sem.run_pure]

theorem run_exec_field {ρ : Operand → Value} {ty : TypeId} {x : Operand} {i : Nat} (ho : o.op = .field ty x i) (v : Value) (hv : (Instr.field ty (ρ x) i).run P w = .ok v w) : (execOp ρ o).run P w = .ok (.value v) w := by
  simp only [execOp, ho, Sem.run_bind, hv, Result.andThen_ok, Sem.run_pure]

theorem at_build (ty : TypeId) (ps : Array (Nat × Operand)) (_ : o.op = .build ty ps) (h : Stop (wpList P ops Q (o :: rest) a w) id) : wpList P ops Q (o :: rest) a w := h.out
theorem at_alloc (ty : TypeId) (_ : o.op = .alloc ty) (h : Stop (wpList P ops Q (o :: rest) a w) id) : wpList P ops Q (o :: rest) a w := h.out
theorem at_store (ty : TypeId) (p x : Operand) (_ : o.op = .store ty p x) (h : Stop (wpList P ops Q (o :: rest) a w) id) : wpList P ops Q (o :: rest) a w := h.out

theorem wpList_store_gen (hgd : o.guard = none) (ty : TypeId) (p x : Operand) (ho : o.op = .store ty p x) (g : Nat) (cells : Array Value) (hp : a.eval p = .pointer (some ⟨g, 0, none⟩)) (hx : a.eval x = .agg cells)
    (t : TypeId) (cur : Array Value) (hg : Row w g t cur) (hi : (P.info? ty).map (·.size) = some cells.size) (hs : cur.size = cells.size) (h1 : cells.all (·.oneCell') = true)
    (h : ∀ w', Row w' g t cells → Only g w w' → wpList P ops Q rest (a.put o.dst undef) w') : wpList P ops Q (o :: rest) a w :=
  wpList_store_row hgd ty p x ho g cells hp hx t cur hg hi hs h1 (h _ (hg.setRow cells) (only_setRow _ _ _))
end

/-- What holds of a world holds of every later one in which all blocks that were there are as they were. -/
class St (S : World → Prop) : Prop where
  go : ∀ {W W' : World}, S W → Below W.heap.size W W' → S W'
theorem St.drew {S : World → Prop} [h : St S] {W : World} (hS : S W) : S W.drew := h.go hS ⟨rfl, rfl, rfl, Nat.le_refl _, fun _ _ => rfl⟩
theorem St.drewN {S : World → Prop} [h : St S] {W : World} (hS : S W) (n : Nat) : S (W.drewN n) := h.go hS ⟨rfl, rfl, rfl, Nat.le_refl _, fun _ _ => rfl⟩
theorem St.alloc {S : World → Prop} [h : St S] {W : World} (hS : S W) (o : Obj) : S (W.alloc o) := h.go hS ((Below.refl _ _).alloc (Nat.le_refl _) o)
theorem St.from_ {S : World → Prop} [h : St S] {W W' : World} {g : Nat} (hS : S W) (hb : Below g W W') (hg : W.heap.size ≤ g) : S W' := h.go hS (hb.mono hg)
instance St.row {g : Nat} {t : TypeId} {cs : Array Value} : St (fun W => Row W g t cs) := ⟨fun h b => h.below b h.lt⟩
instance St.below {w : World} : St (fun W => Below w.heap.size w W) := ⟨fun h b => h.trans (b.mono h.size)⟩
instance St.and {S T : World → Prop} [hs : St S] [ht : St T] : St (fun W => S W ∧ T W) := ⟨fun h b => ⟨hs.go h.1 b, ht.go h.2 b⟩⟩
instance St.lt {n : Nat} : St (fun W => n < W.heap.size) := ⟨fun h b => Nat.lt_of_lt_of_le h b.size⟩
instance St.le {n : Nat} : St (fun W => n ≤ W.heap.size) := ⟨fun h b => Nat.le_trans h b.size⟩

end Go.Proofs.Ytkdcelnlhhodlaa
