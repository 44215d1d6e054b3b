/- Lemmas for DirectMutantsP. -/
import Derived.Test.YtdcmppdhdcjpfaaGreatZp1
import Derived.Test.YtdcmppdhdcjpfaaGreatZp8
set_option linter.unusedVariables false
set_option linter.unusedSimpArgs false
set_option maxRecDepth 100000
set_option maxHeartbeats 16000000
namespace Go.Proofs.YtdcmppdhdcjpfaaGreat
open Go.RowKit Go.Deep
def Lay.rcells (L : Lay) (s : Ms) (ev : Value) : Array Value :=
 #[.int .i64 L.p.params, .slice L.p.va L.p.V.length L.p.vcap, .slice L.p.ba L.p.body.length L.p.bcap, L.vv, .slice L.aa L.ab.length L.acap, .int .i64 (s.fuel : Int), .int .i64 (s.steps : Int), ev,
  .int .i64 (s.out.getD (0, 0)).1, .int .i64 (s.out.getD (0, 0)).2, .bool s.out.isSome]
structure RChg (L : Lay) (ev : Value) (W : World) (ev' : Value) (W' : World) : Prop where
 os : W'.os = W.os
 tape : W'.tape = W.tape
 output : W'.output = W.output
 size : W.heap.size ≤ W'.heap.size
 block : ∀ k, k < W.heap.size → k ≠ L.M → L.vv.ownBlock ≠ some k → k ∉ L.ab → ev.ownBlock ≠ some k → W'.heap[k]? = W.heap[k]?
 evb : ∀ k, ev'.ownBlock = some k → ev.ownBlock = some k ∨ W.heap.size ≤ k
theorem RChg.refl (L : Lay) (ev : Value) (W : World) : RChg L ev W ev W := ⟨rfl, rfl, rfl, Nat.le_refl _, fun _ _ _ _ _ _ => rfl, fun _ h => .inl h⟩
theorem RChg.trans {L : Lay} {a b c : Value} {A B C : World} (h : RChg L a A b B) (k : RChg L b B c C) : RChg L a A c C :=
 ⟨k.os.trans h.os, k.tape.trans h.tape, k.output.trans h.output, Nat.le_trans h.size k.size, fun i h0 h1 h2 h3 h4 => (k.block i (Nat.lt_of_lt_of_le h0 h.size) h1 h2 h3 (fun e => (h.evb i e).elim h4 (fun e => by omega))).trans (h.block i h0 h1 h2 h3 h4), fun i e => (k.evb i e).elim (fun e => h.evb i e) (fun e => .inr (Nat.le_trans h.size e))⟩
theorem RChg.only {L : Lay} {ev : Value} {A B : World} {g : Nat} (o : Only g A B) (h : g = L.M ∨ L.vv.ownBlock = some g ∨ g ∈ L.ab) : RChg L ev A ev B :=
 ⟨o.os, o.tape, o.output, Nat.le_of_eq o.size.symm, fun k _ h2 h3 h4 _ => o.block k (fun e => by subst e; rcases h with h | h | h; exact h2 h; exact h3 h; exact h4 h), fun _ h => .inl h⟩
theorem RChg.below {L : Lay} {ev : Value} {A B : World} (b : Below A.heap.size A B) : RChg L ev A ev B := ⟨b.os, b.tape, b.output, b.size, fun k h1 _ _ _ _ => b.block k h1, fun _ h => .inl h⟩
theorem RChg.grown {L : Lay} {ev ev' : Value} {A B : World} (h : A.grownBy B ev.ownBlock) (ha : ∀ k, ev'.ownBlock = some k → ev.ownBlock = some k ∨ A.heap.size ≤ k) : RChg L ev A ev' B :=
 ⟨h.os, h.tape, h.output, h.size, fun k h1 _ _ _ h4 => h.block k h1 (fun e => h4 e.symm), ha⟩
structure Far (L : Lay) (ev : Value) (W : World) (k : Nat) : Prop where
 lo : L.b1 ≤ k
 ev : ev.ownBlock ≠ some k
 lt : k < W.heap.size
theorem Far.go {L : Lay} {ev ev' : Value} {W W' : World} {k : Nat} (h : Far L ev W k) (c : RChg L ev W ev' W') : Far L ev' W' k :=
 ⟨h.lo, fun e => (c.evb k e).elim h.ev (fun e => by have := h.lt; omega), Nat.lt_of_lt_of_le h.lt c.size⟩
theorem Far.same {L : Lay} {ev ev' : Value} {W W' : World} {k : Nat} (h : Far L ev W k) (hL : LOk0 L) (c : RChg L ev W ev' W') : W'.heap[k]? = W.heap[k]? :=
 c.block k h.lt (by have := hL.lt; have := h.lo; omega) (fun e => by have := (hL.vlt k e).1; have := h.lo; omega) (fun e => by have := (hL.alt k e).1; have := h.lo; omega) h.ev
def FRow (L : Lay) (ev : Value) (W : World) (k : Nat) (t : TypeId) (cs : Array Value) : Prop := Far L ev W k ∧ Row W k t cs
theorem FRow.go {L : Lay} {ev ev' : Value} {W W' : World} {k : Nat} {t : TypeId} {cs : Array Value} (h : FRow L ev W k t cs) (hL : LOk0 L) (c : RChg L ev W ev' W') : FRow L ev' W' k t cs := ⟨h.1.go c, (h.1.same hL c).trans h.2⟩
def FRd (L : Lay) (ev : Value) (W : World) (A : Option Addr) (xs : List Value) : Prop := Rd W A xs ∧ ∀ ad, A = some ad → Far L ev W ad.block
theorem FRd.go {L : Lay} {ev ev' : Value} {W W' : World} {A : Option Addr} {xs : List Value} (h : FRd L ev W A xs) (hL : LOk0 L) (c : RChg L ev W ev' W') : FRd L ev' W' A xs := by
 refine ⟨fun j u hj => ?_, fun ad e => (h.2 ad e).go c⟩
 obtain ⟨ad, e, hc⟩ := h.1 j u hj
 refine ⟨ad, e, ?_⟩
 have := (h.2 ad e).same hL c
 simp only [World.cell?, JN] at hc ⊢
 rw [this]; exact hc
structure RR (L : Lay) (s : Ms) (ev : Value) (W : World) : Prop where
 row : Row W L.M 201 (L.rcells s ev)
 core : MC L s [] ev W
section
variable {L : Lay} {s s' : Ms} {ev : Value} {W W' : World}
theorem RR.below (h : RR L s ev W) (hL : LOk0 L) (b : Below W.heap.size W W') : RR L s ev W' := ⟨h.row.below b h.row.lt, h.core.below hL b⟩
theorem RR.drew (h : RR L s ev W) (hL : LOk0 L) (n : Nat) : RR L s ev (W.drewN n) := h.below hL ⟨rfl, rfl, rfl, Nat.le_refl _, fun _ _ => rfl⟩
theorem RR.setM (h : RR L s ev W) (hL : LOk0 L) (o : Only L.M W W') (hr : Row W' L.M 201 (L.rcells s' ev))
 (h1 : s'.vals = s.vals) (h2 : s'.arrs = s.arrs) (h3 : s'.evs = s.evs) (h4 : s'.steps + s'.fuel = L.F) (h5 : s.steps ≤ s'.steps) : RR L s' ev W' :=
 ⟨hr, (h.core.only hL o).state h1 h2 h3 h4 h5⟩
theorem RR.few (h : RR L s ev W) : s.evs.length ≤ s.steps := by have := h.core.few; simpa using this
theorem RR.far_new (h : RR L s ev W) {g : Nat} {W' : World} (hg : W.heap.size ≤ g) (hlt : g < W'.heap.size) : Far L ev W' g :=
 ⟨Nat.le_trans h.core.size hg, fun e => by have := h.core.evs.lt _ e; omega, hlt⟩
end
end Go.Proofs.YtdcmppdhdcjpfaaGreat
