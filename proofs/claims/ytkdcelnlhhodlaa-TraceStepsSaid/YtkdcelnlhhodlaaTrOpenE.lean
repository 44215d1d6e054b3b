/- An event opened, handed over by value. -/
import Derived.Test.YtkdcelnlhhodlaaTrOpen
namespace Go.Proofs.Ytkdcelnlhhodlaa
open Go.ChangeShapes Go.WideShapes Go.RowKit Go.Deep
theorem open_event_val {H : Type} {enc : TypeId × Value → H} {w : World} {base : Nat} {spare : Nat → Bool} {held : Bool} {r : Reach} {b0 : Nat} {v : Value} {d : DataW H} {p : List MemPlace} (hv : Value.okWide Try.prog w r b0 34 v) (h : DataW.Trod enc Try.prog w base spare held 34 v d p) : ∃ e : EvV, e.ok ∧ v = .agg e.cells.toArray := by
  obtain ⟨cs, rfl, fuel, x, hx⟩ := trod_val Try.underlying34 hv h
  obtain ⟨e, rfl, he⟩ := open_event hx
  exact ⟨e, he, rfl⟩
end Go.Proofs.Ytkdcelnlhhodlaa
