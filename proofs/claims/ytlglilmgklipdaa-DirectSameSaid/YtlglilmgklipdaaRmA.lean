/- The reference's machine in memory: what its blocks hold, what a call may change; its stop, store and two-number tags. Conditions: stated in each theorem. -/
import Derived.Test.YtlglilmgklipdaaMcG
namespace Go.Proofs.Ytlglilmgklipdaa
set_option linter.unusedVariables false
open Go.RowKit Go.Deep

def Lay.rcells (L : Lay) (s : Ms) (ev : Value) : Array Value :=
  #[.int .i64 L.p.params, .slice L.p.va L.p.V.length L.p.vcap, .slice L.p.ba L.p.body.length L.p.bcap, L.vv, .slice L.aa L.ab.length L.acap, .int .i64 (s.fuel : Int), .int .i64 (s.steps : Int), ev,
    .int .i64 (s.out.getD (0, 0)).1, .int .i64 (s.out.getD (0, 0)).2, .bool s.out.isSome]
/-- What a call changes: the state, the variables, the arrays, the events' row, and what is newer. -/
structure RChg (L : Lay) (ev : Value) (W : World) (ev' : Value) (W' : World) : Prop where
  os : W'.os = W.os
  tape : W'.tape = W.tape
  output : W'.output = W.output
  size : W.heap.size ≤ W'.heap.size
  block : ∀ k, k < W.heap.size → k ≠ L.M → L.vv.ownBlock ≠ some k → k ∉ L.ab → ev.ownBlock ≠ some k → W'.heap[k]? = W.heap[k]?
  evb : ∀ k, ev'.ownBlock = some k → ev.ownBlock = some k ∨ W.heap.size ≤ k
theorem RChg.refl (L : Lay) (ev : Value) (W : World) : RChg L ev W ev W := ⟨rfl, rfl, rfl, Nat.le_refl _, fun _ _ _ _ _ _ => rfl, fun _ h => .inl h⟩
theorem RChg.trans {L : Lay} {a b c : Value} {A B C : World} (h : RChg L a A b B) (k : RChg L b B c C) : RChg L a A c C :=
  ⟨k.os.trans h.os, k.tape.trans h.tape, k.output.trans h.output, Nat.le_trans h.size k.size, fun i h0 h1 h2 h3 h4 => (k.block i (Nat.lt_of_lt_of_le h0 h.size) h1 h2 h3 (fun e => (h.evb i e).elim h4 (fun e => by omega))).trans (h.block i h0 h1 h2 h3 h4), fun i e => (k.evb i e).elim (fun e => h.evb i e) (fun e => .inr (Nat.le_trans h.size e))⟩
theorem RChg.only {L : Lay} {ev : Value} {A B : World} {g : Nat} (o : Only g A B) (h : g = L.M ∨ L.vv.ownBlock = some g ∨ g ∈ L.ab) : RChg L ev A ev B :=
  ⟨o.os, o.tape, o.output, Nat.le_of_eq o.size.symm, fun k _ h2 h3 h4 _ => o.block k (fun e => by subst e; rcases h with h | h | h; exact h2 h; exact h3 h; exact h4 h), fun _ h => .inl h⟩
theorem RChg.below {L : Lay} {ev : Value} {A B : World} (b : Below A.heap.size A B) : RChg L ev A ev B := ⟨b.os, b.tape, b.output, b.size, fun k h1 _ _ _ _ => b.block k h1, fun _ h => .inl h⟩
theorem RChg.grown {L : Lay} {ev ev' : Value} {A B : World} (h : A.grownBy B ev.ownBlock) (ha : ∀ k, ev'.ownBlock = some k → ev.ownBlock = some k ∨ A.heap.size ≤ k) : RChg L ev A ev' B :=
  ⟨h.os, h.tape, h.output, h.size, fun k h1 _ _ _ h4 => h.block k h1 (fun e => h4 e.symm), ha⟩
/-- A cell that the call does not reach. -/
structure Far (L : Lay) (ev : Value) (W : World) (k : Nat) : Prop where
  lo : L.b1 ≤ k
  ev : ev.ownBlock ≠ some k
  lt : k < W.heap.size
theorem Far.go {L : Lay} {ev ev' : Value} {W W' : World} {k : Nat} (h : Far L ev W k) (c : RChg L ev W ev' W') : Far L ev' W' k :=
  ⟨h.lo, fun e => (c.evb k e).elim h.ev (fun e => by have := h.lt; omega), Nat.lt_of_lt_of_le h.lt c.size⟩
theorem Far.same {L : Lay} {ev ev' : Value} {W W' : World} {k : Nat} (h : Far L ev W k) (hL : LOk0 L) (c : RChg L ev W ev' W') : W'.heap[k]? = W.heap[k]? :=
  c.block k h.lt (by have := hL.lt; have := h.lo; omega) (fun e => by have := (hL.vlt k e).1; have := h.lo; omega) (fun e => by have := (hL.alt k e).1; have := h.lo; omega) h.ev
def FRow (L : Lay) (ev : Value) (W : World) (k : Nat) (t : TypeId) (cs : Array Value) : Prop := Far L ev W k ∧ Row W k t cs
theorem FRow.go {L : Lay} {ev ev' : Value} {W W' : World} {k : Nat} {t : TypeId} {cs : Array Value} (h : FRow L ev W k t cs) (hL : LOk0 L) (c : RChg L ev W ev' W') : FRow L ev' W' k t cs := ⟨h.1.go c, (h.1.same hL c).trans h.2⟩
/-- Cells that the call does not reach. -/
def FRd (L : Lay) (ev : Value) (W : World) (A : Option Addr) (xs : List Value) : Prop := Rd W A xs ∧ ∀ ad, A = some ad → Far L ev W ad.block
theorem FRd.go {L : Lay} {ev ev' : Value} {W W' : World} {A : Option Addr} {xs : List Value} (h : FRd L ev W A xs) (hL : LOk0 L) (c : RChg L ev W ev' W') : FRd L ev' W' A xs := by
  refine ⟨fun j u hj => ?_, fun ad e => (h.2 ad e).go c⟩
  obtain ⟨ad, e, hc⟩ := h.1 j u hj
  refine ⟨ad, e, ?_⟩
  have := (h.2 ad e).same hL c
  simp only [World.cell?, add_block] at hc ⊢
  rw [this]; exact hc
structure RR (L : Lay) (s : Ms) (ev : Value) (W : World) : Prop where
  row : Row W L.M 68 (L.rcells s ev)
  core : MC L s [] ev W
/-- What stands fast of the reference's layout. -/
structure ROk (L : Lay) : Prop extends LOk0 L where
  pok : ∀ W, L.Im W → L.p.ok W
  arrs : ∀ W, L.Im W → ∀ (i g : Nat), L.ab[i]? = some g → ∃ (ad : Addr) (t : Int), L.aa = some ad ∧ L.p.V[i]? = some t ∧ W.cell? (ad.add i) = some (.slice (some ⟨g, 0, none⟩) (sizeZ t).toNat (sizeZ t).toNat)
  alen : L.ab.length = L.p.V.length
instance {L : Lay} : Coe (ROk L) (LOk0 L) := ⟨ROk.toLOk0⟩
section
variable {L : Lay} {s s' : Ms} {ev : Value} {W W' : World}
theorem RR.below (h : RR L s ev W) (hL : LOk0 L) (b : Below W.heap.size W W') : RR L s ev W' := ⟨h.row.below b h.row.lt, h.core.below hL b⟩
theorem RR.drew (h : RR L s ev W) (hL : LOk0 L) (n : Nat) : RR L s ev (W.drewN n) := h.below hL ⟨rfl, rfl, rfl, Nat.le_refl _, fun _ _ => rfl⟩
theorem RR.setM (h : RR L s ev W) (hL : LOk0 L) (o : Only L.M W W') (hr : Row W' L.M 68 (L.rcells s' ev))
    (h1 : s'.vals = s.vals) (h2 : s'.arrs = s.arrs) (h3 : s'.evs = s.evs) (h4 : s'.steps + s'.fuel = L.F) (h5 : s.steps ≤ s'.steps) : RR L s' ev W' :=
  ⟨hr, (h.core.only hL o).state h1 h2 h3 h4 h5⟩
theorem RR.few (h : RR L s ev W) : s.evs.length ≤ s.steps := by have := h.core.few; simpa using this
theorem RR.far_new (h : RR L s ev W) {g : Nat} {W' : World} (hg : W.heap.size ≤ g) (hlt : g < W'.heap.size) : Far L ev W' g :=
  ⟨Nat.le_trans h.core.size hg, fun e => by have := h.core.evs.lt _ e; omega, hlt⟩
end

set_option maxRecDepth 100000 in
set_option maxHeartbeats 2000000 in
theorem rStop_any (L : Lay) (hL : LOk0 L) (s : Ms) (ev : Value) (k v : Int) (W : World) (h : RR L s ev W) : Calls Try.prog 40 #[.pointer (some ⟨L.M, 0, none⟩), .int .i64 k, .int .i64 v] W fun e W' => e = .returned (.int .i64 0) ∧ RR L (s.stopped k v) ev W' ∧ RChg L ev W ev W' := by
  have Hm := Lib.hid h
  have HL := Lib.hid hL
  have rM := h.row
  have c10 := rM.cellv (i := 10) (v := .bool s.out.isSome) rfl
  have hsz : (L.rcells s ev).size = 11 := rfl
  clear h hL
  cases ho : s.out.isSome
  · rw [ho] at c10
    have Hz : Hid (s.stopped k v = s.stop k v) := by show _ = _; unfold Ms.stopped; rw [if_neg (by rw [ho]; simp)]
    clear ho
    go_enter Try.func40, Try.ntmps40
    go_wp2_with (refine at_store _ _ _ rfl ?_)
    refine Stop.to ?_
    refine wpList_store_part rfl 29 _ _ rfl L.M 8 rfl _ rfl [.int .i64 k, .int .i64 v] rfl 68 _ _ rM (by kernel_rfl) (by show 8 + 2 ≤ 11; omega) (by simp [Value.oneCell']) rfl ?_
    intro W1 r1 o1
    go_wp2_with (refine at_store _ _ _ rfl ?_)
    refine Stop.to ?_
    refine wpList_store_part rfl 4 _ _ rfl L.M 10 rfl _ rfl [.bool true] rfl 68 _ (L.rcells (s.stop k v) ev) r1 (by kernel_rfl) (by show 10 + 1 ≤ 11; omega) (by simp [Value.oneCell']) rfl ?_
    intro W2 r2 o2
    have o12 : Only L.M W W2 := o1.trans o2
    clear rM r1 o1 o2 hsz c10
    go_wp2
    go_ret
    exact ⟨rfl, by rw [Hz.out]; exact Hm.out.setM HL.out o12 r2 rfl rfl rfl Hm.out.core.sum (Nat.le_refl _), .only o12 (.inl rfl)⟩
  · rw [ho] at c10
    have Hz : Hid (s.stopped k v = s) := by show _ = _; unfold Ms.stopped; rw [if_pos ho]
    clear ho
    go_enter Try.func40, Try.ntmps40
    go_wp2
    go_ret
    exact ⟨rfl, by rw [Hz.out]; exact Hm.out, .refl _ _ _⟩
set_option maxRecDepth 100000 in
set_option maxHeartbeats 4000000 in
theorem rStore_any (L : Lay) (hL : LOk0 L) (s1 s2 : Ms) (ev : Value) (v at_ x : Int) (W : World) (hm : RR L s1 ev W)
    (h1 : s2.vals = s1.vals) (h2 : s2.arrs = s1.arrs) (h3 : s2.steps = s1.steps) (h4 : s2.fuel = s1.fuel) (h5 : s2.evs = s1.evs ++ [⟨v, at_, x⟩]) (h6 : s1.evs.length < s1.steps) (h7 : s2.out = s1.out) :
    Calls Try.prog 58 #[.pointer (some ⟨L.M, 0, none⟩), .int .i64 v, .int .i64 at_, .int .i64 x] W fun e W' => (∃ u, e = .returned u) ∧ ∃ ev', RR L s2 ev' W' ∧ RChg L ev W ev' W' := by
  obtain ⟨i0, hi0, hz0, hz1, hz2⟩ := info_parts info_ev
  have HL := Lib.hid hL
  have H1 := Lib.hid h1
  have H2 := Lib.hid h2
  have H3 := Lib.hid h3
  have H4 := Lib.hid h4
  have H5 := Lib.hid h5
  have H7 := Lib.hid h7
  have hF := hL.F
  have Hm1 := Lib.hid hm
  have c7 := hm.row.cellv (i := 7) (v := ev) rfl
  have hsum := hm.core.sum
  have hb1 := hm.core.size
  have hel : s1.evs.length ≤ 20001 := by omega
  have ha := hm.core.evs.alloc (.cells (EvV.cells ⟨v, at_, x⟩).toArray 41)
  have HA := Lib.hid ha
  clear hL hm h1 h2 h3 h4 h5 h7 ha hsum
  go_enter Try.func58, Try.ntmps58
  go_wp2_with (at_builtin; refine wpList_append_own_at _ rfl (.tmp 12) (.tmp 17) 30 rfl L.b1 41 i0 _ 3 24 Try.underlying30 hi0 hz0 hz1 hz2 rfl (by decide) ev s1.evs.length (s1.evs.flatMap EvV.cells) rfl HA.out ⟨W.heap.size, 0, none⟩ 1 1 (EvV.cells ⟨v, at_, x⟩) rfl rfl (cells_new _ _ _) (evcells_one1 _) (by unfold maxLen; omega) (by omega) (by simp; omega) ?_)
  intro ev' W3 hown hg _ hat
  have b2 : Below W.heap.size W (W.alloc (.cells (EvV.cells ⟨v, at_, x⟩).toArray 41)) := (Below.refl _ _).alloc (Nat.le_refl _) _
  have hm2 := Hm1.out.below HL.out b2
  have k3 := hm2.core.grownEvs (s' := s2) HL.out hg (by rw [H5.out]; simpa using hown) H1.out H2.out H3.out H4.out (by rw [H5.out, H3.out]; simp; omega)
  have r3 := hm2.row.grown hg (own_ne hm2.core.evs hm2.row (by decide))
  have g3 : RChg L ev W ev' W3 := (RChg.below b2).trans (.grown hg (fun k e => by
    rcases hat with h | h
    · exact .inl (h ▸ e)
    · rw [h] at e; injection e with e; exact .inr (by simp only [World.alloc, Array.size_push] at *; omega)))
  have hov := own_ov hown
  have K3 := Lib.hid k3
  have R3 := Lib.hid r3
  have G3 := Lib.hid g3
  clear hown hg hat b2 hm2 k3 r3 g3 HA Hm1 c7
  go_wp2_with (refine at_store _ _ _ rfl ?_)
  refine Stop.to ?_
  refine wpList_store_part rfl 30 _ _ rfl L.M 7 rfl _ rfl [ev'] (by cases ev' <;> first | rfl | cases hov) 68 _ (L.rcells s2 ev') R3.out (by kernel_rfl) (by show 7 + 1 ≤ 11; omega) (by simpa using hov) (by unfold Lay.rcells; rw [H3.out, H4.out, H7.out]; rfl) ?_
  intro W4 r4 o4
  have m4 : RR L s2 ev' W4 := ⟨r4, K3.out.only HL.out o4⟩
  have M4 := Lib.hid m4
  have G4 := Lib.hid (G3.out.trans (RChg.only o4 (.inl rfl)))
  clear m4 r4 o4 K3 R3 G3
  go_wp2
  go_end0
  exact ⟨⟨_, rfl⟩, ev', M4.out, G4.out⟩
theorem rTruth_any (b : Bool) (w : World) : Calls Try.prog 94 #[.bool b] w fun e w' => e = .returned (.int .i64 (tr b)) ∧ w = w' := by
  cases b
  all_goals
    go_enter Try.func94, Try.ntmps94
    go_wp2
    go_ret
    exact ⟨rfl, rfl⟩
set_option maxRecDepth 100000 in
set_option maxHeartbeats 4000000 in
theorem rBin_any (M : Nat) (tag a b c : Int) (w : World) (ht : 7 ≤ tag ∧ tag ≤ 17) (hp : pairT tag a b = some c) : Calls Try.prog 59 #[.pointer (some ⟨M, 0, none⟩), .int .i64 tag, .int .i64 a, .int .i64 b] w fun e w' => e = .returned (.int .i64 c) ∧ w = w' := by
  have key : tag = 7 ∨ tag = 8 ∨ tag = 9 ∨ tag = 12 ∨ tag = 13 ∨ tag = 14 ∨ tag = 15 ∨ tag = 16 ∨ tag = 17 ∨ tag = 10 ∨ tag = 11 := by omega
  clear ht
  rcases key with rfl | rfl | rfl | rfl | rfl | rfl | rfl | rfl | rfl | rfl | rfl
  · have hc : wrap64 (a + b) = c := by simpa [pairT] using hp
    subst hc; clear hp
    go_enter Try.func59, Try.ntmps59
    go_wp2
    go_ret
    exact ⟨ret_i (by first | rfl | simp), rfl⟩
  · have hc : wrap64 (a - b) = c := by simpa [pairT] using hp
    subst hc; clear hp
    go_enter Try.func59, Try.ntmps59
    go_wp2
    go_ret
    exact ⟨ret_i (by first | rfl | simp), rfl⟩
  · have hc : wrap64 (a * b) = c := by simpa [pairT] using hp
    subst hc; clear hp
    go_enter Try.func59, Try.ntmps59
    go_wp2
    go_ret
    exact ⟨ret_i (by first | rfl | simp), rfl⟩
  · have hc : tr (decide (a = b)) = c := by simpa [pairT] using hp
    clear hp
    go_enter Try.func59, Try.ntmps59
    go_wp2_with fail
    refine (rTruth_any _ _).mono ?_
    rintro e w' ⟨rfl, rfl⟩
    go_wp2
    go_ret
    exact ⟨ret_i (by rw [← hc]; all_goals (first | (congr 1; done) | (congr 1; rw [Bool.eq_iff_iff]; simp))), rfl⟩
  · have hc : tr (decide (a ≠ b)) = c := by simpa [pairT] using hp
    clear hp
    go_enter Try.func59, Try.ntmps59
    go_wp2_with fail
    refine (rTruth_any _ _).mono ?_
    rintro e w' ⟨rfl, rfl⟩
    go_wp2
    go_ret
    exact ⟨ret_i (by rw [← hc]; all_goals (first | (congr 1; done) | (congr 1; rw [Bool.eq_iff_iff]; simp))), rfl⟩
  · have hc : tr (decide (a < b)) = c := by simpa [pairT] using hp
    clear hp
    go_enter Try.func59, Try.ntmps59
    go_wp2_with fail
    refine (rTruth_any _ _).mono ?_
    rintro e w' ⟨rfl, rfl⟩
    go_wp2
    go_ret
    exact ⟨ret_i (by rw [← hc]; all_goals (first | (congr 1; done) | (congr 1; rw [Bool.eq_iff_iff]; simp))), rfl⟩
  · have hc : tr (decide (a ≤ b)) = c := by simpa [pairT] using hp
    clear hp
    go_enter Try.func59, Try.ntmps59
    go_wp2_with fail
    refine (rTruth_any _ _).mono ?_
    rintro e w' ⟨rfl, rfl⟩
    go_wp2
    go_ret
    exact ⟨ret_i (by rw [← hc]; all_goals (first | (congr 1; done) | (congr 1; rw [Bool.eq_iff_iff]; simp))), rfl⟩
  · have hc : tr (decide (b < a)) = c := by simpa [pairT] using hp
    clear hp
    go_enter Try.func59, Try.ntmps59
    go_wp2_with fail
    refine (rTruth_any _ _).mono ?_
    rintro e w' ⟨rfl, rfl⟩
    go_wp2
    go_ret
    exact ⟨ret_i (by rw [← hc]; all_goals (first | (congr 1; done) | (congr 1; rw [Bool.eq_iff_iff]; simp))), rfl⟩
  · have hc : tr (decide (b ≤ a)) = c := by simpa [pairT] using hp
    clear hp
    go_enter Try.func59, Try.ntmps59
    go_wp2_with fail
    refine (rTruth_any _ _).mono ?_
    rintro e w' ⟨rfl, rfl⟩
    go_wp2
    go_ret
    exact ⟨ret_i (by rw [← hc]; all_goals (first | (congr 1; done) | (congr 1; rw [Bool.eq_iff_iff]; simp))), rfl⟩
  · by_cases h0 : b = 0
    · simp [pairT, h0] at hp
    have hc : wrap64 (a.tdiv b) = c := by simpa [pairT, h0] using hp
    subst hc; clear hp
    by_cases h1 : b = -1
    · subst h1
      go_enter Try.func59, Try.ntmps59
      go_wp2
      go_ret
      exact ⟨ret_i (by first | rfl | simp), rfl⟩
    · go_enter Try.func59, Try.ntmps59
      go_wp2
      go_ret
      exact ⟨ret_i (by first | rfl | simp), rfl⟩
  · by_cases h0 : b = 0
    · simp [pairT, h0] at hp
    have hc : a.tmod b = c := by simpa [pairT, h0] using hp
    subst hc; clear hp
    by_cases h1 : b = -1
    · subst h1
      go_enter Try.func59, Try.ntmps59
      go_wp2
      go_ret
      exact ⟨ret_i (by first | rfl | simp), rfl⟩
    · go_enter Try.func59, Try.ntmps59
      go_wp2
      go_ret
      exact ⟨ret_i (by first | rfl | simp), rfl⟩
set_option maxRecDepth 100000 in
set_option maxHeartbeats 4000000 in
theorem rBinNo_any (L : Lay) (hL : LOk0 L) (s : Ms) (ev : Value) (tag a b : Int) (W : World) (h : RR L s ev W) (hp : pairT tag a b = none) : Calls Try.prog 59 #[.pointer (some ⟨L.M, 0, none⟩), .int .i64 tag, .int .i64 a, .int .i64 b] W fun e W' => e = .returned (.int .i64 0) ∧ RR L (s.stopped 1 0) ev W' ∧ RChg L ev W ev W' := by
  have Hst := Lib.hid (rStop_any L hL s ev 1 0 W h)
  have hb : b = 0 ∧ (tag = 10 ∨ tag = 11) := by
    unfold pairT at hp
    repeat' split at hp
    all_goals (first | (cases hp; done) | (refine ⟨?_, ?_⟩ <;> first | assumption | omega))
  obtain ⟨rfl, ht⟩ := hb
  clear h hp hL
  rcases ht with rfl | rfl
  all_goals
    go_enter Try.func59, Try.ntmps59
    go_wp2_with fail
    refine Hst.out.mono ?_
    rintro e W2 ⟨rfl, h2, g2⟩
    have G2 := Lib.hid g2
    have H2 := Lib.hid h2
    clear h2 g2
    go_wp2
    go_ret
    exact ⟨rfl, H2.out, G2.out⟩
end Go.Proofs.Ytlglilmgklipdaa
