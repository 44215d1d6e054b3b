/- Laws that the walks over Sum share: a block laid byte by byte. -/
import Derived.Test.YtkdcelnlhhodlaaShaI
namespace Go.Proofs.Ytkdcelnlhhodlaa
open Go.RowKit Go.Deep

theorem wpList_load_rowG {P : Program} {ops : Array Oper} {rest : List Oper} {o : Oper} {a : Act} {w : World} {Q : Exit → Act → World → Prop} (hw : Region.wanted o (yielded ops a.tmps) = true) (ty : TypeId) (x : Operand) (ho : o.op = .load ty x)
    (g : Nat) (hx : a.eval x = .pointer (some ⟨g, 0, none⟩)) (t : TypeId) (cs : Array Value) (fr : Nat × Nat) (d : TypeDesc) (hg : w.heap[g]? = some (.cells cs t fr))
    (hu : P.underlying ty = some d) (hd : (match d with | .struct _ | .array _ _ => true | _ => false) = true) (hi : (P.info? ty).map (·.size) = some cs.size)
    (h : wpList P ops Q rest (a.put o.dst (.agg cs)) w) : wpList P ops Q (o :: rest) a w :=
  BigFrame.wpList_want hw fun _ hK => wp_load_row ty x ho g hx t cs fr d hg hu hd hi (hK _ _ h)

/-- The first j of l's bytes, then zeros, n in all. -/
def part (l : List UInt8) (n j : Nat) : List UInt8 := l.take j ++ List.replicate (n - j) 0
theorem part_set (l : List UInt8) (n j : Nat) (x : UInt8) (hl : l.length = n) (hj : j < n) (hx : l[j]? = some x) :
    (u8s (part l n j)).toArray.setIfInBounds j (.int .u8 (x.toNat : Int)) = (u8s (part l n (j + 1))).toArray := by
  have e : (part l n j).set j x = part l n (j + 1) := by
    unfold part
    have hlen : (l.take j).length = j := by rw [List.length_take]; omega
    rw [List.set_append_right _ _ (by omega), hlen, Nat.sub_self, show n - j = (n - (j + 1)) + 1 from by omega, List.replicate_succ, List.set_cons_zero]
    have hj' : j < l.length := by omega
    rw [List.take_succ_eq_append_getElem hj']
    rw [List.getElem?_eq_getElem hj'] at hx
    injection hx with hx
    rw [hx]; simp
  rw [← e]; simp [u8s, List.map_set]
theorem part_done (l : List UInt8) (n : Nat) (hl : l.length = n) : part l n n = l := by
  unfold part; rw [Nat.sub_self, ← hl, List.take_length]; simp
theorem part_len (l : List UInt8) (n j : Nat) (hl : l.length = n) (hj : j ≤ n) : (part l n j).length = n := by
  unfold part; rw [List.length_append, List.length_take, List.length_replicate]; omega
theorem hash_take (s : List UInt8) (k : Nat) (c : List UInt8) (hc : c = (s.drop (64 * k)).take 64) (h : 64 * (k + 1) ≤ s.length) :
    blockL (hashFold startL ((chunks (s.length / 64) s).take k)) c = hashFold startL ((chunks (s.length / 64) s).take (k + 1)) := by
  have hl : c.length = 64 := by rw [hc]; simp; omega
  have := chunks_take s k ⟨c, hl⟩ hc h
  rw [this, hashFold, hashFold, List.foldl_append]; rfl

end Go.Proofs.Ytkdcelnlhhodlaa
