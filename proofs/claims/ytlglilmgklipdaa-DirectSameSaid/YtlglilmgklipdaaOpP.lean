/- Arguments opened: programs and slices of integers. -/
import Derived.Test.YtlglilmgklipdaaTrOpen
import Derived.Test.YtlglilmgklipdaaKdP
namespace Go.Proofs.Ytlglilmgklipdaa
set_option linter.unusedVariables false
open Go.ChangeShapes Go.WideShapes Go.RowKit Go.Deep

theorem cells_node : Try.prog.cellsOf 44 = 2 := by kernel_rfl
theorem cells_prog : Try.prog.cellsOf 25 = 3 := by kernel_rfl
theorem cells_ints : Try.prog.cellsOf 22 = 1 := by kernel_rfl
theorem cells_nodes : Try.prog.cellsOf 23 = 1 := by kernel_rfl
/-- A slice of integers. -/
structure IntsV where
  addr : Option Addr
  cap : Nat
  l : List Int
def IntsV.val (r : IntsV) : Value := .slice r.addr r.l.length r.cap
structure IntsV.ok (r : IntsV) (w : World) : Prop where
  len : r.l.length ≤ r.cap
  cap : r.cap ≤ maxLen
  nil : r.addr = none → r.cap = 0
  reads : Rd w r.addr (ints r.l)
  all : ∀ x ∈ r.l, InI x
theorem IntsV.ok.go {r : IntsV} {w w' : World} (h : r.ok w) (b : Below w.heap.size w w') : r.ok w' := ⟨h.len, h.cap, h.nil, h.reads.go b, h.all⟩
instance St.intsok {r : IntsV} : St (fun W => r.ok W) := ⟨fun h b => h.go b⟩
def PgV.val (p : PgV) : Value := .agg p.cells
section
variable {H : Type} {enc : TypeId × Value → H} {w : World} {base : Nat} {spare : Nat → Bool} {held : Bool}
theorem open_int1 {fuel : Nat} {cs : List Value} {x : DataW H × List MemPlace} (h : DataW.trod enc Try.prog w base spare held fuel 3 cs = some x) : ∃ n : Int, cs = [.int .i64 n] ∧ InI n := by
  obtain ⟨n, e, h⟩ := trod_i64 Try.underlying3 h
  exact ⟨n, e, h⟩
set_option maxRecDepth 100000 in
theorem open_node {fuel : Nat} {cs : List Value} {x : DataW H × List MemPlace} (h : DataW.trod enc Try.prog w base spare held fuel 44 cs = some x) : ∃ e : Nd, cs = e.cells ∧ InI e.tag ∧ InI e.n := by
  obtain ⟨hl, n, hf⟩ := trod_field Try.underlying44 h
  have hl2 : cs.length = 2 := hl.trans cells_node
  match cs, hl2 with
  | [a, b], _ =>
    obtain ⟨_, h0⟩ := hf 0 _ rfl
    obtain ⟨_, h1⟩ := hf 1 _ rfl
    obtain ⟨n0, e0, w0⟩ := trod_i64 Try.underlying3 h0
    obtain ⟨n1, e1, w1⟩ := trod_i64 Try.underlying3 h1
    simp [cells_int] at e0 e1
    exact ⟨⟨n0, n1⟩, by rw [e0, e1]; rfl, w0, w1⟩
theorem ints_flat (l : List Int) : l.flatMap (fun n => [Value.int .i64 n]) = ints l := by
  induction l with
  | nil => rfl
  | cons a l ih => rw [List.flatMap_cons, ih]; rfl
set_option maxRecDepth 100000 in
theorem open_intsC {fuel : Nat} {cs : List Value} {x : DataW H × List MemPlace} (h : DataW.trod enc Try.prog w base spare held fuel 22 cs = some x) : ∃ r : IntsV, r.ok w ∧ cs = [r.val] := by
  obtain ⟨A, cap, xss, rfl, h1, h2, hA, h3, h4, h5⟩ := open_rows Try.underlying22 h
  obtain ⟨l, rfl, hok⟩ := rows_map (fun n : Int => [Value.int .i64 n]) InI xss (fun xs hxs => by obtain ⟨n, y, hy⟩ := h5 xs hxs; exact open_int1 hy)
  rw [List.length_map] at h1
  refine ⟨⟨A, cap, l⟩, ⟨h1, h2, hA, ?_, hok⟩, by rw [List.length_map]; rfl⟩
  rw [← List.flatMap_def, ints_flat] at h4
  exact h4
set_option maxRecDepth 100000 in
theorem open_nodesC {fuel : Nat} {cs : List Value} {x : DataW H × List MemPlace} (h : DataW.trod enc Try.prog w base spare held fuel 23 cs = some x) :
    ∃ (A : Option Addr) (cap : Nat) (l : List Nd), cs = [.slice A l.length cap] ∧ l.length ≤ cap ∧ cap ≤ maxLen ∧ (A = none → cap = 0) ∧ Rd w A (l.flatMap Nd.cells) ∧ ∀ e ∈ l, InI e.tag ∧ InI e.n := by
  obtain ⟨A, cap, xss, rfl, h1, h2, hA, h3, h4, h5⟩ := open_rows Try.underlying23 h
  obtain ⟨l, rfl, hok⟩ := rows_map Nd.cells (fun e => InI e.tag ∧ InI e.n) xss (fun xs hxs => by obtain ⟨n, y, hy⟩ := h5 xs hxs; exact open_node hy)
  rw [List.length_map] at h1
  exact ⟨A, cap, l, by rw [List.length_map], h1, h2, hA, by rw [List.flatMap_def]; exact h4, hok⟩
set_option maxRecDepth 100000 in
theorem open_progC {fuel : Nat} {cs : List Value} {x : DataW H × List MemPlace} (h : DataW.trod enc Try.prog w base spare held fuel 25 cs = some x) : ∃ p : PgV, p.ok w ∧ cs = p.cells.toList := by
  obtain ⟨hl, n, hf⟩ := trod_field Try.underlying25 h
  have hl3 : cs.length = 3 := hl.trans cells_prog
  match cs, hl3 with
  | [a, b, c], _ =>
    obtain ⟨_, h0⟩ := hf 0 _ rfl
    obtain ⟨_, h1⟩ := hf 1 _ rfl
    obtain ⟨_, h2⟩ := hf 2 _ rfl
    obtain ⟨n0, e0, w0⟩ := trod_i64 Try.underlying3 h0
    obtain ⟨r, hr, e1⟩ := open_intsC h1
    obtain ⟨A, cap, l, e2, g1, g2, g3, g4, g5⟩ := open_nodesC h2
    simp [cells_int, cells_ints, cells_nodes] at e0 e1 e2
    exact ⟨⟨n0, r.addr, r.cap, r.l, A, cap, l⟩, ⟨w0, hr.len, hr.cap, hr.nil, hr.reads, hr.all, g1, g2, g3, g4, g5⟩, by rw [e0, e1, e2]; rfl⟩
set_option maxRecDepth 100000 in
theorem open_ints {r : Go.Reach} {b0 : Nat} {v : Value} {d : DataW H} {p : List MemPlace} (hv : Value.okWide Try.prog w r b0 22 v) (h : DataW.Trod enc Try.prog w base spare held 22 v d p) : ∃ r : IntsV, r.ok w ∧ v = r.val := by
  obtain ⟨a, len, cap, rfl⟩ := okWide_slice Try.underlying22 hv
  obtain ⟨fuel, hx⟩ := h
  obtain ⟨r, hr, e⟩ := open_intsC hx
  have e2 : [Value.slice a len cap] = [r.val] := e
  injection e2 with e2
  exact ⟨r, hr, e2⟩
set_option maxRecDepth 100000 in
theorem open_prog {r : Go.Reach} {b0 : Nat} {v : Value} {d : DataW H} {p : List MemPlace} (hv : Value.okWide Try.prog w r b0 25 v) (h : DataW.Trod enc Try.prog w base spare held 25 v d p) : ∃ p : PgV, p.ok w ∧ v = p.val := by
  obtain ⟨cs, rfl, fuel, x, hx⟩ := trod_val Try.underlying25 hv h
  obtain ⟨p, hp, rfl⟩ := open_progC hx
  exact ⟨p, hp, rfl⟩
end
end Go.Proofs.Ytlglilmgklipdaa
