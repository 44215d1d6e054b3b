/- Arguments opened: events and runs. -/
import Derived.Test.YtlglilmgklipdaaRows
import Derived.Test.YtlglilmgklipdaaKit
namespace Go.Proofs.Ytlglilmgklipdaa
set_option linter.unusedVariables false
open Go.ChangeShapes Go.WideShapes Go.RowKit Go.Deep

theorem cells_int : Try.prog.cellsOf 3 = 1 := by kernel_rfl
theorem cells_event : Try.prog.cellsOf 41 = 3 := by kernel_rfl
theorem cells_outcome : Try.prog.cellsOf 29 = 2 := by kernel_rfl
theorem cells_run : Try.prog.cellsOf 32 = 4 := by kernel_rfl
theorem cells_events : Try.prog.cellsOf 30 = 1 := by kernel_rfl

section
variable {H : Type} {enc : TypeId × Value → H} {w : World} {base : Nat} {spare : Nat → Bool} {held : Bool}

set_option maxRecDepth 100000 in
theorem open_event {fuel : Nat} {cs : List Value} {x : DataW H × List MemPlace} (h : DataW.trod enc Try.prog w base spare held fuel 41 cs = some x) : ∃ e : EvV, cs = e.cells ∧ e.ok := by
  obtain ⟨hl, n, hf⟩ := trod_field Try.underlying41 h
  have hl3 : cs.length = 3 := hl.trans cells_event
  match cs, hl3 with
  | [a, b, c], _ =>
    obtain ⟨_, h0⟩ := hf 0 _ rfl
    obtain ⟨_, h1⟩ := hf 1 _ rfl
    obtain ⟨_, h2⟩ := hf 2 _ rfl
    obtain ⟨n0, e0, w0⟩ := trod_i64 Try.underlying3 h0
    obtain ⟨n1, e1, w1⟩ := trod_i64 Try.underlying3 h1
    obtain ⟨n2, e2, w2⟩ := trod_i64 Try.underlying3 h2
    simp [cells_int] at e0 e1 e2
    exact ⟨⟨n0, n1, n2⟩, by rw [e0, e1, e2]; rfl, w0, w1, w2⟩

set_option maxRecDepth 100000 in
theorem open_outcome {fuel : Nat} {cs : List Value} {x : DataW H × List MemPlace} (h : DataW.trod enc Try.prog w base spare held fuel 29 cs = some x) : ∃ k v : Int, cs = [.int .i64 k, .int .i64 v] ∧ InI k ∧ InI v := by
  obtain ⟨hl, n, hf⟩ := trod_field Try.underlying29 h
  have hl2 : cs.length = 2 := hl.trans cells_outcome
  match cs, hl2 with
  | [a, b], _ =>
    obtain ⟨_, h0⟩ := hf 0 _ rfl
    obtain ⟨_, h1⟩ := hf 1 _ rfl
    obtain ⟨n0, e0, w0⟩ := trod_i64 Try.underlying3 h0
    obtain ⟨n1, e1, w1⟩ := trod_i64 Try.underlying3 h1
    simp [cells_int] at e0 e1
    exact ⟨n0, n1, by rw [e0, e1], w0, w1⟩

set_option maxRecDepth 100000 in
theorem open_events {fuel : Nat} {cs : List Value} {x : DataW H × List MemPlace} (h : DataW.trod enc Try.prog w base spare held fuel 30 cs = some x) :
    ∃ (A : Option Addr) (cap : Nat) (l : List EvV), cs = [.slice A l.length cap] ∧ l.length ≤ cap ∧ cap ≤ maxLen ∧ (A = none → cap = 0) ∧ Rd w A (l.flatMap EvV.cells) ∧ ∀ e ∈ l, e.ok := by
  obtain ⟨A, cap, xss, rfl, h1, h2, hA, h3, h4, h5⟩ := open_rows Try.underlying30 h
  obtain ⟨l, rfl, hok⟩ := rows_map EvV.cells EvV.ok xss (fun xs hxs => by obtain ⟨n, y, hy⟩ := h5 xs hxs; exact open_event hy)
  rw [List.length_map] at h1
  exact ⟨A, cap, l, by rw [List.length_map], h1, h2, hA, by rw [List.flatMap_def]; exact h4, hok⟩

/-- A run as a value, and what is known of it. -/
def RunV.val (r : RunV) : Value := .agg #[.int .i64 r.kind, .int .i64 r.value, .int .i64 r.steps, .slice r.addr r.evs.length r.cap]
structure RunV.ok (r : RunV) (w : World) : Prop where
  kind : InI r.kind
  value : InI r.value
  steps : InI r.steps
  len : r.evs.length ≤ r.cap
  cap : r.cap ≤ maxLen
  nil : r.addr = none → r.cap = 0
  reads : Rd w r.addr (r.evs.flatMap EvV.cells)
  evs : ∀ e ∈ r.evs, e.ok
set_option maxRecDepth 100000 in
theorem open_run {r : Go.Reach} {b0 : Nat} {v : Value} {d : DataW H} {p : List MemPlace} (hv : Value.okWide Try.prog w r b0 32 v) (h : DataW.Trod enc Try.prog w base spare held 32 v d p) : ∃ r : RunV, r.ok w ∧ v = r.val := by
  obtain ⟨cs, rfl, fuel, x, hx⟩ := trod_val Try.underlying32 hv h
  obtain ⟨hl, n, hf⟩ := trod_field Try.underlying32 hx
  have hl4 : cs.length = 4 := hl.trans cells_run
  match cs, hl4 with
  | [a, b, c, e], _ =>
    obtain ⟨_, h0⟩ := hf 0 _ rfl
    obtain ⟨_, h1⟩ := hf 1 _ rfl
    obtain ⟨_, h2⟩ := hf 2 _ rfl
    obtain ⟨k, v, e0, w0, w0'⟩ := open_outcome h0
    obtain ⟨n1, e1, w1⟩ := trod_i64 Try.underlying3 h1
    obtain ⟨A, cap, l, e2, g1, g2, g0, g3, g4⟩ := open_events h2
    simp [cells_int, cells_outcome, cells_events] at e0 e1 e2
    exact ⟨⟨k, v, n1, A, cap, l⟩, ⟨w0, w0', w1, g1, g2, g0, g3, g4⟩, by rw [e0.1, e0.2, e1, e2]; rfl⟩
end
end Go.Proofs.Ytlglilmgklipdaa
