/- Lemmas for TraceSameP. -/
import Derived.Test.YtlglilmgklipdaaZt10
import Derived.WalkLawsBesides
namespace Go.Proofs.Ytlglilmgklipdaa
set_option linter.unusedVariables false
open Go.RowKit Go.Deep
def Lay.rcells (L : Lay) (s : Ms) (ev : Value) : Array Value :=
 #[.int .i64 L.p.params, .slice L.p.va L.p.V.length L.p.vcap, .slice L.p.ba L.p.body.length L.p.bcap, L.vv, .slice L.aa L.ab.length L.acap, .int .i64 (s.fuel : Int), .int .i64 (s.steps : Int), ev,
  .int .i64 (s.out.getD (0, 0)).1, .int .i64 (s.out.getD (0, 0)).2, .bool s.out.isSome]
structure RChg (L : Lay) (ev : Value) (W : World) (ev' : Value) (W' : World) : Prop where
 os : W'.os = W.os
 tape : W'.tape = W.tape
 output : W'.output = W.output
 size : W.heap.size ≤ W'.heap.size
 block : ∀ k, k < W.heap.size → k ≠ L.M → L.vv.ownBlock ≠ some k → k ∉ L.ab → ev.ownBlock ≠ some k → W'.heap[k]? = W.heap[k]?
 evb : ∀ k, ev'.ownBlock = some k → ev.ownBlock = some k ∨ W.heap.size ≤ k
theorem RChg.refl (L : Lay) (ev : Value) (W : World) : RChg L ev W ev W := ⟨rfl, rfl, rfl, Nat.le_refl _, fun _ _ _ _ _ _ => rfl, fun _ h => .inl h⟩
theorem RChg.trans {L : Lay} {a b c : Value} {A B C : World} (h : RChg L a A b B) (k : RChg L b B c C) : RChg L a A c C :=
 ⟨k.os.trans h.os, k.tape.trans h.tape, k.output.trans h.output, Nat.le_trans h.size k.size, fun i h0 h1 h2 h3 h4 => (k.block i (Nat.lt_of_lt_of_le h0 h.size) h1 h2 h3 (fun e => (h.evb i e).elim h4 (fun e => by omega))).trans (h.block i h0 h1 h2 h3 h4), fun i e => (k.evb i e).elim (fun e => h.evb i e) (fun e => .inr (Nat.le_trans h.size e))⟩
theorem RChg.only {L : Lay} {ev : Value} {A B : World} {g : Nat} (o : Only g A B) (h : g = L.M ∨ L.vv.ownBlock = some g ∨ g ∈ L.ab) : RChg L ev A ev B :=
 ⟨o.os, o.tape, o.output, Nat.le_of_eq o.size.symm, fun k _ h2 h3 h4 _ => o.block k (fun e => by subst e; rcases h with h | h | h; exact h2 h; exact h3 h; exact h4 h), fun _ h => .inl h⟩
theorem RChg.below {L : Lay} {ev : Value} {A B : World} (b : Below A.heap.size A B) : RChg L ev A ev B := ⟨b.os, b.tape, b.output, b.size, fun k h1 _ _ _ _ => b.block k h1, fun _ h => .inl h⟩
theorem RChg.grown {L : Lay} {ev ev' : Value} {A B : World} (h : A.grownBy B ev.ownBlock) (ha : ∀ k, ev'.ownBlock = some k → ev.ownBlock = some k ∨ A.heap.size ≤ k) : RChg L ev A ev' B :=
 ⟨h.os, h.tape, h.output, h.size, fun k h1 _ _ _ h4 => h.block k h1 (fun e => h4 e.symm), ha⟩
structure Far (L : Lay) (ev : Value) (W : World) (k : Nat) : Prop where
 lo : L.b1 ≤ k
 ev : ev.ownBlock ≠ some k
 lt : k < W.heap.size
theorem Far.go {L : Lay} {ev ev' : Value} {W W' : World} {k : Nat} (h : Far L ev W k) (c : RChg L ev W ev' W') : Far L ev' W' k :=
 ⟨h.lo, fun e => (c.evb k e).elim h.ev (fun e => by have := h.lt; omega), Nat.lt_of_lt_of_le h.lt c.size⟩
theorem Far.same {L : Lay} {ev ev' : Value} {W W' : World} {k : Nat} (h : Far L ev W k) (hL : LOk0 L) (c : RChg L ev W ev' W') : W'.heap[k]? = W.heap[k]? :=
 c.block k h.lt (by have := hL.lt; have := h.lo; omega) (fun e => by have := (hL.vlt k e).1; have := h.lo; omega) (fun e => by have := (hL.alt k e).1; have := h.lo; omega) h.ev
def FRow (L : Lay) (ev : Value) (W : World) (k : Nat) (t : TypeId) (cs : Array Value) : Prop := Far L ev W k ∧ Row W k t cs
theorem FRow.go {L : Lay} {ev ev' : Value} {W W' : World} {k : Nat} {t : TypeId} {cs : Array Value} (h : FRow L ev W k t cs) (hL : LOk0 L) (c : RChg L ev W ev' W') : FRow L ev' W' k t cs := ⟨h.1.go c, (h.1.same hL c).trans h.2⟩
def FRd (L : Lay) (ev : Value) (W : World) (A : Option Addr) (xs : List Value) : Prop := Rd W A xs ∧ ∀ ad, A = some ad → Far L ev W ad.block
theorem FRd.go {L : Lay} {ev ev' : Value} {W W' : World} {A : Option Addr} {xs : List Value} (h : FRd L ev W A xs) (hL : LOk0 L) (c : RChg L ev W ev' W') : FRd L ev' W' A xs := by
 refine ⟨fun j u hj => ?_, fun ad e => (h.2 ad e).go c⟩
 obtain ⟨ad, e, hc⟩ := h.1 j u hj
 refine ⟨ad, e, ?_⟩
 have := (h.2 ad e).same hL c
 simp only [World.cell?, add_block] at hc ⊢
 rw [this]; exact hc
structure RR (L : Lay) (s : Ms) (ev : Value) (W : World) : Prop where
 row : Row W L.M 68 (L.rcells s ev)
 core : MC L s [] ev W
section
variable {L : Lay} {s s' : Ms} {ev : Value} {W W' : World}
theorem RR.below (h : RR L s ev W) (hL : LOk0 L) (b : Below W.heap.size W W') : RR L s ev W' := ⟨h.row.below b h.row.lt, h.core.below hL b⟩
theorem RR.drew (h : RR L s ev W) (hL : LOk0 L) (n : Nat) : RR L s ev (W.drewN n) := h.below hL ⟨rfl, rfl, rfl, Nat.le_refl _, fun _ _ => rfl⟩
theorem RR.setM (h : RR L s ev W) (hL : LOk0 L) (o : Only L.M W W') (hr : Row W' L.M 68 (L.rcells s' ev))
 (h1 : s'.vals = s.vals) (h2 : s'.arrs = s.arrs) (h3 : s'.evs = s.evs) (h4 : s'.steps + s'.fuel = L.F) (h5 : s.steps ≤ s'.steps) : RR L s' ev W' :=
 ⟨hr, (h.core.only hL o).state h1 h2 h3 h4 h5⟩
theorem RR.few (h : RR L s ev W) : s.evs.length ≤ s.steps := by have := h.core.few; simpa using this
theorem RR.far_new (h : RR L s ev W) {g : Nat} {W' : World} (hg : W.heap.size ≤ g) (hlt : g < W'.heap.size) : Far L ev W' g :=
 ⟨Nat.le_trans h.core.size hg, fun e => by have := h.core.evs.lt _ e; omega, hlt⟩
end
end Go.Proofs.Ytlglilmgklipdaa
namespace Go.Proofs.Ytlglilmgklipdaa
set_option linter.unusedVariables false
open Go.RowKit Go.Deep
def overV (k v : Int) : Value := .iface 101 (.agg #[.int .i64 k, .int .i64 v])
def thrown (k v : Int) : Ending := .panicked [{ v := overV k v, recovered := false }]
def cellV (t : Int) (g : Nat) : Value := if sizeZ t = 0 then .iface 82 (.agg #[.pointer (some ⟨g, 0, none⟩)]) else .iface 77 (.slice (some ⟨g, 0, none⟩) (sizeZ t).toNat (sizeZ t).toNat)
def Ms.cont (s : Ms) (i : Nat) (t : Int) : List Int := if sizeZ t = 0 then [(s.vals[i]?).getD 0] else (s.arrs[i]?).getD []
def Lay.dcells (L : Lay) (s : Ms) (ev : Value) : Array Value :=
 #[.slice L.p.ba L.p.body.length L.p.bcap, .slice L.aa L.ab.length L.acap, .int .i64 (L.F : Int), .int .i64 0, .int .i64 0, .int .i64 (s.steps : Int), ev]
structure DR (L : Lay) (s : Ms) (ev : Value) (W : World) : Prop where
 row : Row W L.M 76 (L.dcells s ev)
 evs : W.ownsRow L.b1 41 3 ev s.evs.length (s.evs.flatMap EvV.cells)
 rows : ∀ (i g : Nat) (t : Int), L.ab[i]? = some g → L.p.V[i]? = some t → Row W g 3 (ints (s.cont i t)).toArray
 im : L.Im W
 size : L.b1 ≤ W.heap.size
 sum : s.steps + s.fuel = L.F
 few : s.evs.length ≤ s.steps
structure DOk (L : Lay) : Prop extends LOk0 L where
 pok : ∀ W, L.Im W → L.p.ok W
 cells : ∀ W, L.Im W → ∀ (i g : Nat) (t : Int), L.ab[i]? = some g → L.p.V[i]? = some t → ∃ ad : Addr, L.aa = some ad ∧ W.cell? (ad.add i) = some (cellV t g)
 alen : L.ab.length = L.p.V.length
 vv : L.vv = .slice none 0 0
instance {L : Lay} : Coe (DOk L) (LOk0 L) := ⟨DOk.toLOk0⟩
section
variable {L : Lay} {s s' : Ms} {ev : Value} {W W' : World}
theorem DR.below (h : DR L s ev W) (hL : LOk0 L) (b : Below W.heap.size W W') : DR L s ev W' :=
 ⟨h.row.below b h.row.lt, own_below h.evs b, fun i g t h1 h2 => (h.rows i g t h1 h2).below b (h.rows i g t h1 h2).lt, hL.im _ _ h.im (.below (b.mono h.size)), Nat.le_trans h.size b.size, h.sum, h.few⟩
theorem DR.drew (h : DR L s ev W) (hL : LOk0 L) (n : Nat) : DR L s ev (W.drewN n) := h.below hL ⟨rfl, rfl, rfl, Nat.le_refl _, fun _ _ => rfl⟩
theorem DR.setM (h : DR L s ev W) (hL : LOk0 L) (o : Only L.M W W') (hr : Row W' L.M 76 (L.dcells s' ev)) (h1 : s'.vals = s.vals) (h2 : s'.arrs = s.arrs) (h3 : s'.evs = s.evs) (h4 : s'.steps + s'.fuel = L.F) (h5 : s.steps ≤ s'.steps) : DR L s' ev W' :=
 ⟨hr, by rw [h3]; exact own_only h.evs o (fun e => by have := own_lo h.evs e; have := hL.lt; omega), fun i g t a b => by have := (h.rows i g t a b).only o (hL.alt g (List.mem_of_getElem? a)).2; unfold Ms.cont at this ⊢; rw [h1, h2]; exact this,
  hL.im _ _ h.im (.only o (.inr (.inl rfl))), by rw [o.size]; exact h.size, h4, by rw [h3]; have := h.few; omega⟩
theorem DR.far_new (h : DR L s ev W) {g : Nat} {W' : World} (hg : W.heap.size ≤ g) (hlt : g < W'.heap.size) : Far L ev W' g :=
 ⟨Nat.le_trans h.size hg, fun e => by have := h.evs.lt _ e; omega, hlt⟩
theorem DR.setB (h : DR L s ev W) (hL : LOk0 L) {n g : Nat} {t : Int} (hg : L.ab[n]? = some g) (ht : L.p.V[n]? = some t) (o : Only g W W') (hr : Row W' g 3 (ints (s'.cont n t)).toArray)
 (hv : ∀ i, i ≠ n → s'.vals[i]? = s.vals[i]? ∧ s'.arrs[i]? = s.arrs[i]?) (h3 : s'.evs = s.evs) (h4 : s'.steps = s.steps) (h5 : s'.fuel = s.fuel) : DR L s' ev W' := by
 have hm := List.mem_of_getElem? hg
 have hlt := hL.alt g hm
 refine ⟨?_, by rw [h3]; exact own_only h.evs o (fun e => by have := own_lo h.evs e; omega), fun i g' t' hi ht' => ?_, hL.im _ _ h.im (.only o (.inr (.inr (.inr hm)))), by rw [o.size]; exact h.size, by rw [h4, h5]; exact h.sum, by rw [h3, h4]; exact h.few⟩
 · have := h.row.only o (fun e => hlt.2 e.symm)
   unfold Lay.dcells at this ⊢
   rw [h4]; exact this
 · by_cases hin : i = n
   · subst hin
     rw [hg] at hi; rw [ht] at ht'
     cases hi; cases ht'
     exact hr
   · have hgg : g' ≠ g := by
      intro e
      subst e
      obtain ⟨l1, e1⟩ := List.getElem?_eq_some_iff.1 hg
      obtain ⟨l2, e2⟩ := List.getElem?_eq_some_iff.1 hi
      rcases Nat.lt_trichotomy i n with hl | hl | hl
      · exact absurd (e2.trans e1.symm) (List.pairwise_iff_getElem.1 hL.and i n l2 l1 hl)
      · exact hin hl
      · exact absurd (e1.trans e2.symm) (List.pairwise_iff_getElem.1 hL.and n i l1 l2 hl)
     have := (h.rows i g' t' hi ht').only o hgg
     unfold Ms.cont at this ⊢
     rw [(hv i hin).1, (hv i hin).2]; exact this
theorem RChg.onlyB {g : Nat} (o : Only g W W') (hg : g ∈ L.ab) : RChg L ev W ev W' := RChg.only o (.inr (.inr hg))
end
theorem end_dir (k v : Int) (w : World) : Calls Try.prog 97 #[.int .i64 k, .int .i64 v] w fun e w' => e = thrown k v ∧ w = w' := by
 go_enter Try.func97, Try.ntmps97
 go_wp2
 exact ⟨rfl, rfl, rfl⟩
theorem as_any (b : Bool) (w : World) : Calls Try.prog 99 #[.bool b] w fun e w' => e = .returned (.int .i64 (tr b)) ∧ w = w' := by
 cases b
 all_goals
  go_enter Try.func99, Try.ntmps99
  go_wp2
  go_ret
  exact ⟨rfl, rfl⟩
set_option maxRecDepth 100000 in
set_option maxHeartbeats 4000000 in
theorem both_any (tag a b c : Int) (w : World) (ht : 7 ≤ tag ∧ tag ≤ 17) (hp : pairT tag a b = some c) : Calls Try.prog 102 #[.int .i64 tag, .int .i64 a, .int .i64 b] w fun e w' => e = .returned (.int .i64 c) ∧ w = w' := by
 have key : tag = 7 ∨ tag = 8 ∨ tag = 9 ∨ tag = 12 ∨ tag = 13 ∨ tag = 14 ∨ tag = 15 ∨ tag = 16 ∨ tag = 17 ∨ tag = 10 ∨ tag = 11 := by omega
 clear ht
 rcases key with rfl | rfl | rfl | rfl | rfl | rfl | rfl | rfl | rfl | rfl | rfl
 · have hc : wrap64 (a + b) = c := by simpa [pairT] using hp
   subst hc; clear hp
   go_enter Try.func102, Try.ntmps102
   go_wp2
   go_ret
   exact ⟨ret_i (by first | rfl | simp), rfl⟩
 · have hc : wrap64 (a - b) = c := by simpa [pairT] using hp
   subst hc; clear hp
   go_enter Try.func102, Try.ntmps102
   go_wp2
   go_ret
   exact ⟨ret_i (by first | rfl | simp), rfl⟩
 · have hc : wrap64 (a * b) = c := by simpa [pairT] using hp
   subst hc; clear hp
   go_enter Try.func102, Try.ntmps102
   go_wp2
   go_ret
   exact ⟨ret_i (by first | rfl | simp), rfl⟩
 · have hc : tr (decide (a = b)) = c := by simpa [pairT] using hp
   clear hp
   go_enter Try.func102, Try.ntmps102
   go_wp2_with fail
   refine (as_any _ _).mono ?_
   rintro e w' ⟨rfl, rfl⟩
   go_wp2
   go_ret
   exact ⟨ret_i (by rw [← hc]; all_goals (first | (congr 1; done) | (congr 1; rw [Bool.eq_iff_iff]; simp))), rfl⟩
 · have hc : tr (decide (a ≠ b)) = c := by simpa [pairT] using hp
   clear hp
   go_enter Try.func102, Try.ntmps102
   go_wp2_with fail
   refine (as_any _ _).mono ?_
   rintro e w' ⟨rfl, rfl⟩
   go_wp2
   go_ret
   exact ⟨ret_i (by rw [← hc]; all_goals (first | (congr 1; done) | (congr 1; rw [Bool.eq_iff_iff]; simp))), rfl⟩
 · have hc : tr (decide (a < b)) = c := by simpa [pairT] using hp
   clear hp
   go_enter Try.func102, Try.ntmps102
   go_wp2_with fail
   refine (as_any _ _).mono ?_
   rintro e w' ⟨rfl, rfl⟩
   go_wp2
   go_ret
   exact ⟨ret_i (by rw [← hc]; all_goals (first | (congr 1; done) | (congr 1; rw [Bool.eq_iff_iff]; simp))), rfl⟩
 · have hc : tr (decide (a ≤ b)) = c := by simpa [pairT] using hp
   clear hp
   go_enter Try.func102, Try.ntmps102
   go_wp2_with fail
   refine (as_any _ _).mono ?_
   rintro e w' ⟨rfl, rfl⟩
   go_wp2
   go_ret
   exact ⟨ret_i (by rw [← hc]; all_goals (first | (congr 1; done) | (congr 1; rw [Bool.eq_iff_iff]; simp))), rfl⟩
 · have hc : tr (decide (b < a)) = c := by simpa [pairT] using hp
   clear hp
   go_enter Try.func102, Try.ntmps102
   go_wp2_with fail
   refine (as_any _ _).mono ?_
   rintro e w' ⟨rfl, rfl⟩
   go_wp2
   go_ret
   exact ⟨ret_i (by rw [← hc]; all_goals (first | (congr 1; done) | (congr 1; rw [Bool.eq_iff_iff]; simp))), rfl⟩
 · have hc : tr (decide (b ≤ a)) = c := by simpa [pairT] using hp
   clear hp
   go_enter Try.func102, Try.ntmps102
   go_wp2_with fail
   refine (as_any _ _).mono ?_
   rintro e w' ⟨rfl, rfl⟩
   go_wp2
   go_ret
   exact ⟨ret_i (by rw [← hc]; all_goals (first | (congr 1; done) | (congr 1; rw [Bool.eq_iff_iff]; simp))), rfl⟩
 · by_cases h0 : b = 0
   · simp [pairT, h0] at hp
   have hc : wrap64 (a.tdiv b) = c := by simpa [pairT, h0] using hp
   subst hc; clear hp
   go_enter Try.func102, Try.ntmps102
   go_wp2
   go_ret
   exact ⟨ret_i (by first | rfl | simp), rfl⟩
 · by_cases h0 : b = 0
   · simp [pairT, h0] at hp
   have hc : a.tmod b = c := by simpa [pairT, h0] using hp
   subst hc; clear hp
   go_enter Try.func102, Try.ntmps102
   go_wp2
   go_ret
   exact ⟨ret_i (by first | rfl | simp), rfl⟩
set_option maxRecDepth 100000 in
set_option maxHeartbeats 4000000 in
theorem bothNo_any (tag a b : Int) (w : World) (hp : pairT tag a b = none) : Calls Try.prog 102 #[.int .i64 tag, .int .i64 a, .int .i64 b] w fun e w' => e = thrown 1 0 ∧ w = w' := by
 have hb : b = 0 ∧ (tag = 10 ∨ tag = 11) := by
  unfold pairT at hp
  repeat' split at hp
  all_goals (first | (cases hp; done) | (refine ⟨?_, ?_⟩ <;> first | assumption | omega))
 obtain ⟨rfl, ht⟩ := hb
 clear hp
 rcases ht with rfl | rfl
 all_goals
  go_enter Try.func102, Try.ntmps102
  go_wp2_with fail
  refine (end_dir _ _ _).mono ?_
  rintro e w' ⟨rfl, rfl⟩
  simp only [thrown]
  go_wp2
  exact ⟨rfl, rfl, rfl⟩
end Go.Proofs.Ytlglilmgklipdaa
namespace Go.Proofs.Ytlglilmgklipdaa
set_option linter.unusedVariables false
open Go.RowKit Go.Deep
theorem rowHas_any (A : Option Addr) (n c : Nat) (i : Int) (w : World) : Calls Try.prog 141 #[.slice A n c, .int .i64 i] w fun e w' => e = .returned (.bool (decide (0 ≤ i ∧ i < (n : Int)))) ∧ w = w' := by
 by_cases h0 : 0 ≤ i
 · by_cases h1 : i < (n : Int)
   · go_enter Try.func141, Try.ntmps141
     go_wp2
     go_ret
     exact ⟨ret_b (by simp; omega), rfl⟩
   · go_enter Try.func141, Try.ntmps141
     go_wp2
     go_ret
     exact ⟨ret_b (by simp; omega), rfl⟩
 · go_enter Try.func141, Try.ntmps141
   go_wp2
   go_ret
   exact ⟨ret_b (by simp; omega), rfl⟩
theorem rowGet_ok (A : Addr) (n c i : Nat) (v : Int) (w : World) (hi : i < n) (hc : w.cell? (A.add i) = some (.int .i64 v)) : Calls Try.prog 140 #[.slice (some A) n c, .int .i64 (i : Int)] w fun e w' => e = .returned (.tuple #[.int .i64 v, .bool true]) ∧ w = w' := by
 have hd : decide (0 ≤ (i : Int) ∧ (i : Int) < (n : Int)) = true := by simp; omega
 have hi' : (i : Int) < (n : Int) := by omega
 go_enter Try.func140, Try.ntmps140
 go_wp2_with fail
 refine (rowHas_any (some A) n c (i : Int) w).mono ?_
 rintro e w' ⟨rfl, rfl⟩
 rw [hd]
 clear hd hi
 go_wp2
 go_ret2
 exact ⟨rfl, rfl⟩
theorem rowGet_no (A : Option Addr) (n c : Nat) (i : Int) (w : World) (hi : i < 0 ∨ (n : Int) ≤ i) : Calls Try.prog 140 #[.slice A n c, .int .i64 i] w fun e w' => e = .returned (.tuple #[.int .i64 0, .bool false]) ∧ w = w' := by
 have hd : decide (0 ≤ i ∧ i < (n : Int)) = false := by simp; omega
 go_enter Try.func140, Try.ntmps140
 go_wp2_with fail
 refine (rowHas_any A n c i w).mono ?_
 rintro e w' ⟨rfl, rfl⟩
 rw [hd]
 clear hd hi
 go_wp2
 go_ret2
 exact ⟨rfl, rfl⟩
theorem rowSet_no (A : Option Addr) (n c : Nat) (i v : Int) (w : World) (hi : i < 0 ∨ (n : Int) ≤ i) : Calls Try.prog 142 #[.slice A n c, .int .i64 i, .int .i64 v] w fun e w' => e = .returned (.bool false) ∧ w = w' := by
 have hd : decide (0 ≤ i ∧ i < (n : Int)) = false := by simp; omega
 go_enter Try.func142, Try.ntmps142
 go_wp2_with fail
 refine (rowHas_any A n c i w).mono ?_
 rintro e w' ⟨rfl, rfl⟩
 rw [hd]
 clear hd hi
 go_wp2
 go_ret
 exact ⟨rfl, rfl⟩
theorem rowSet_ok (g n c i : Nat) (v : Int) (cur : Array Value) (w : World) (hi : i < n) (hn : n ≤ cur.size) (hr : Row w g 3 cur) : Calls Try.prog 142 #[.slice (some ⟨g, 0, none⟩) n c, .int .i64 (i : Int), .int .i64 v] w fun e w' => e = .returned (.bool true) ∧ Only g w w' ∧ Row w' g 3 (cur.setIfInBounds i (.int .i64 v)) := by
 have hd : decide (0 ≤ (i : Int) ∧ (i : Int) < (n : Int)) = true := by simp; omega
 have hi' : (i : Int) < (n : Int) := by omega
 have hput := putL_one cur i (.int .i64 v) (by omega)
 have Hr := Lib.hid hr
 clear hr
 go_enter Try.func142, Try.ntmps142
 go_wp2_with fail
 refine (rowHas_any (some ⟨g, 0, none⟩) n c (i : Int) w).mono ?_
 rintro e w' ⟨rfl, rfl⟩
 rw [hd]
 have Hi := Lib.hid hi
 clear hd hi
 go_wp2_with (refine at_store _ _ _ rfl ?_)
 refine Stop.to ?_
 refine wpList_store_part rfl 3 _ _ rfl g i rfl _ rfl [.int .i64 v] rfl 3 _ _ Hr.out (by kernel_rfl) (by have := Hi.out; simp; omega) (by simp [Value.oneCell']) hput ?_
 intro w1 r1 o1
 go_wp2
 go_ret
 exact ⟨rfl, o1, r1⟩
theorem scalarGet_any (g : Nat) (i v : Int) (w : World) (hc : w.cell? ⟨g, 0, none⟩ = some (.int .i64 v)) : Calls Try.prog 143 #[.agg #[.pointer (some ⟨g, 0, none⟩)], .int .i64 i] w fun e w' => e = .returned (.tuple #[.int .i64 v, .bool true]) ∧ Below w.heap.size w w' := by
 go_enter Try.func143, Try.ntmps143
 go_wp2_with (refine at_box _ _ rfl ?_)
 refine Stop.to ?_
 refine wpList_box_gen rfl 82 _ rfl #[.pointer (some ⟨g, 0, none⟩)] rfl ?_
 intro G w1 hG r1 b1
 have hb := b1.mono hG
 have c0 := r1.cellv (i := 0) (v := .pointer (some ⟨g, 0, none⟩)) rfl
 have hlt := World.block_lt_of_cell? _ _ hc
 have cg : w1.cell? ⟨g, 0, none⟩ = some (.int .i64 v) := (hb.cell hlt).trans hc
 have Hb := Lib.hid hb
 clear r1 b1 hG hc hlt hb
 go_wp2
 go_ret2
 exact ⟨rfl, Hb.out⟩
theorem scalarSet_any (g : Nat) (i v u : Int) (w : World) (hr : Row w g 3 #[.int .i64 u]) : Calls Try.prog 144 #[.agg #[.pointer (some ⟨g, 0, none⟩)], .int .i64 i, .int .i64 v] w fun e w' => e = .returned (.bool true) ∧ ∃ w1, Below w.heap.size w w1 ∧ Only g w1 w' ∧ Row w' g 3 #[.int .i64 v] := by
 have Hr := Lib.hid hr
 clear hr
 go_enter Try.func144, Try.ntmps144
 go_wp2_with (refine at_box _ _ rfl ?_)
 refine Stop.to ?_
 refine wpList_box_gen rfl 82 _ rfl #[.pointer (some ⟨g, 0, none⟩)] rfl ?_
 intro G w1 hG r1 b1
 have hb := b1.mono hG
 have c0 := r1.cellv (i := 0) (v := .pointer (some ⟨g, 0, none⟩)) rfl
 have Hg := Lib.hid (Hr.out.below hb Hr.out.lt)
 have Hb := Lib.hid hb
 clear r1 b1 hG hb
 go_wp2_with (refine at_store _ _ _ rfl ?_)
 refine Stop.to ?_
 refine wpList_store_part rfl 3 _ _ rfl g 0 rfl _ rfl [.int .i64 v] rfl 3 _ #[.int .i64 v] Hg.out (by kernel_rfl) (by simp) (by simp [Value.oneCell']) rfl ?_
 intro w2 r2 o2
 clear c0
 go_wp2
 go_ret
 exact ⟨rfl, w1, Hb.out, o2, r2⟩
section
variable {g n c : Nat}
theorem meth_rg (f : Nat) (w : World) : (method (f + 1) 77 (.slice (some ⟨g, 0, none⟩) n c) "offshoot/direct.get").run Try.prog w = .ok (140, .slice (some ⟨g, 0, none⟩) n c) w := by kernel_rfl
theorem meth_rs (f : Nat) (w : World) : (method (f + 1) 77 (.slice (some ⟨g, 0, none⟩) n c) "offshoot/direct.set").run Try.prog w = .ok (142, .slice (some ⟨g, 0, none⟩) n c) w := by kernel_rfl
theorem meth_sg (f : Nat) (w : World) : (method (f + 1) 82 (.agg #[.pointer (some ⟨g, 0, none⟩)]) "offshoot/direct.get").run Try.prog w = .ok (143, .agg #[.pointer (some ⟨g, 0, none⟩)]) w := by kernel_rfl
theorem meth_ss (f : Nat) (w : World) : (method (f + 1) 82 (.agg #[.pointer (some ⟨g, 0, none⟩)]) "offshoot/direct.set").run Try.prog w = .ok (144, .agg #[.pointer (some ⟨g, 0, none⟩)]) w := by kernel_rfl
end
set_option maxRecDepth 100000 in
set_option maxHeartbeats 4000000 in
theorem dLoadS (L : Lay) (hL : DOk L) (s : Ms) (ev : Value) (n : Nat) (t at_ v : Int) (W : World) (h : DR L s ev W) (ht : L.p.V[n]? = some t) (h0 : sizeZ t = 0) (hv : s.vals[n]? = some v) : Calls Try.prog 98 #[.pointer (some ⟨L.M, 0, none⟩), .int .i64 (n : Int), .int .i64 at_] W fun e W' => e = .returned (.int .i64 v) ∧ Below W.heap.size W W' := by
 obtain ⟨g, hg⟩ : ∃ g, L.ab[n]? = some g := ⟨_, List.getElem?_eq_getElem (by rw [hL.alen]; exact (List.getElem?_eq_some_iff.1 ht).1)⟩
 obtain ⟨ad, had, hcell⟩ := hL.cells W h.im n g t hg ht
 have hrow := h.rows n g t hg ht
 have c1 := h.row.cellv (i := 1) (v := .slice L.aa L.ab.length L.acap) rfl
 rw [had] at c1
 have hnl : (n : Int) < (L.ab.length : Int) := by have := (List.getElem?_eq_some_iff.1 hg).1; omega
 rw [show s.cont n t = [v] by unfold Ms.cont; rw [if_pos h0, hv]; rfl] at hrow
 rw [show cellV t g = .iface 82 (.agg #[.pointer (some ⟨g, 0, none⟩)]) by unfold cellV; rw [if_pos h0]] at hcell
 have cg := hrow.cellv (i := 0) (v := .int .i64 v) rfl
 have gm := meth_sg (g := g)
 clear h hL hg ht had hrow h0 hv
 go_enter Try.func98, Try.ntmps98
 go_wp2_with fail
 refine (scalarGet_any g at_ v W cg).mono ?_
 rintro e w1 ⟨rfl, b1⟩
 clear c1 hcell cg gm
 go_wp2
 go_ret
 exact ⟨rfl, b1⟩
set_option maxRecDepth 100000 in
set_option maxHeartbeats 4000000 in
theorem dLoadR (L : Lay) (hL : DOk L) (s : Ms) (ev : Value) (n : Nat) (t i v : Int) (W : World) (h : DR L s ev W) (ht : L.p.V[n]? = some t) (h0 : sizeZ t ≠ 0) (hs : LenS L.p.V s) (hi : ¬ (i < 0 ∨ ((s.arr (n : Int)).length : Int) ≤ i)) (hv : (s.arr (n : Int))[i.toNat]? = some v) : Calls Try.prog 98 #[.pointer (some ⟨L.M, 0, none⟩), .int .i64 (n : Int), .int .i64 i] W fun e W' => e = .returned (.int .i64 v) ∧ Below W.heap.size W W' := by
 obtain ⟨k, rfl⟩ : ∃ k : Nat, i = (k : Int) := ⟨i.toNat, by omega⟩
 obtain ⟨g, hg⟩ : ∃ g, L.ab[n]? = some g := ⟨_, List.getElem?_eq_getElem (by rw [hL.alen]; exact (List.getElem?_eq_some_iff.1 ht).1)⟩
 obtain ⟨ad, had, hcell⟩ := hL.cells W h.im n g t hg ht
 have hrow := h.rows n g t hg ht
 have c1 := h.row.cellv (i := 1) (v := .slice L.aa L.ab.length L.acap) rfl
 rw [had] at c1
 have hnl : (n : Int) < (L.ab.length : Int) := by have := (List.getElem?_eq_some_iff.1 hg).1; omega
 have hal := hs.arr_len (n := (n : Int)) (t := t) (by rw [Int.toNat_natCast]; exact ht)
 have hsz : (sizeZ t).toNat = (s.arr (n : Int)).length := by omega
 rw [show s.cont n t = s.arr (n : Int) by unfold Ms.cont Ms.arr; rw [if_neg h0, Int.toNat_natCast]] at hrow
 rw [show cellV t g = .iface 77 (.slice (some ⟨g, 0, none⟩) (s.arr (n : Int)).length (s.arr (n : Int)).length) by unfold cellV; rw [if_neg h0, hsz]] at hcell
 rw [Int.toNat_natCast] at hv
 have hkl : k < (s.arr (n : Int)).length := (List.getElem?_eq_some_iff.1 hv).1
 have cg : W.cell? ((⟨g, 0, none⟩ : Addr).add k) = some (.int .i64 v) := by
  have := hrow.cellv (i := k) (v := .int .i64 v) (by simp [ints, hv])
  unfold Addr.add
  by_cases h0 : k = 0
  · subst h0; exact this
  · rw [if_neg h0]; simpa using this
 have gm := meth_rg (g := g) (n := (s.arr (n : Int)).length) (c := (s.arr (n : Int)).length)
 generalize (s.arr (n : Int)).length = m at *
 clear h hL hg ht had hrow h0 hv hs hal hsz hi
 go_enter Try.func98, Try.ntmps98
 go_wp2_with fail
 refine (rowGet_ok ⟨g, 0, none⟩ m m k v W hkl cg).mono ?_
 rintro e w1 ⟨rfl, rfl⟩
 clear c1 hcell cg gm hkl
 go_wp2
 go_ret
 exact ⟨rfl, Below.refl _ _⟩
set_option maxRecDepth 100000 in
set_option maxHeartbeats 4000000 in
theorem dLoadNo (L : Lay) (hL : DOk L) (s : Ms) (ev : Value) (n : Nat) (t i : Int) (W : World) (h : DR L s ev W) (ht : L.p.V[n]? = some t) (h0 : sizeZ t ≠ 0) (hs : LenS L.p.V s) (hi : i < 0 ∨ ((s.arr (n : Int)).length : Int) ≤ i) : Calls Try.prog 98 #[.pointer (some ⟨L.M, 0, none⟩), .int .i64 (n : Int), .int .i64 i] W fun e W' => e = thrown 2 0 ∧ Below W.heap.size W W' := by
 obtain ⟨g, hg⟩ : ∃ g, L.ab[n]? = some g := ⟨_, List.getElem?_eq_getElem (by rw [hL.alen]; exact (List.getElem?_eq_some_iff.1 ht).1)⟩
 obtain ⟨ad, had, hcell⟩ := hL.cells W h.im n g t hg ht
 have hrow := h.rows n g t hg ht
 have c1 := h.row.cellv (i := 1) (v := .slice L.aa L.ab.length L.acap) rfl
 rw [had] at c1
 have hnl : (n : Int) < (L.ab.length : Int) := by have := (List.getElem?_eq_some_iff.1 hg).1; omega
 have hal := hs.arr_len (n := (n : Int)) (t := t) (by rw [Int.toNat_natCast]; exact ht)
 have hsz : (sizeZ t).toNat = (s.arr (n : Int)).length := by omega
 rw [show cellV t g = .iface 77 (.slice (some ⟨g, 0, none⟩) (s.arr (n : Int)).length (s.arr (n : Int)).length) by unfold cellV; rw [if_neg h0, hsz]] at hcell
 have gm := meth_rg (g := g) (n := (s.arr (n : Int)).length) (c := (s.arr (n : Int)).length)
 generalize (s.arr (n : Int)).length = m at *
 clear h hL hg ht had hrow h0 hs hal hsz
 have Hi := Lib.hid hi
 clear hi
 go_enter Try.func98, Try.ntmps98
 go_wp2_with fail
 refine (rowGet_no (some ⟨g, 0, none⟩) m m i W Hi.out).mono ?_
 rintro e w1 ⟨rfl, rfl⟩
 clear c1 hcell gm
 go_wp2_with fail
 refine (end_dir _ _ _).mono ?_
 rintro e w' ⟨rfl, rfl⟩
 simp only [thrown]
 go_wp2
 exact ⟨rfl, rfl, Below.refl _ _⟩
set_option maxRecDepth 100000 in
set_option maxHeartbeats 4000000 in
theorem dStoreNo (L : Lay) (hL : DOk L) (s : Ms) (ev : Value) (n : Nat) (t i v : Int) (W : World) (h : DR L s ev W) (ht : L.p.V[n]? = some t) (h0 : sizeZ t ≠ 0) (hs : LenS L.p.V s) (hi : i < 0 ∨ ((s.arr (n : Int)).length : Int) ≤ i) : Calls Try.prog 114 #[.pointer (some ⟨L.M, 0, none⟩), .int .i64 (n : Int), .int .i64 i, .int .i64 v] W fun e W' => e = thrown 2 0 ∧ Below W.heap.size W W' := by
 obtain ⟨g, hg⟩ : ∃ g, L.ab[n]? = some g := ⟨_, List.getElem?_eq_getElem (by rw [hL.alen]; exact (List.getElem?_eq_some_iff.1 ht).1)⟩
 obtain ⟨ad, had, hcell⟩ := hL.cells W h.im n g t hg ht
 have hrow := h.rows n g t hg ht
 have c1 := h.row.cellv (i := 1) (v := .slice L.aa L.ab.length L.acap) rfl
 rw [had] at c1
 have hnl : (n : Int) < (L.ab.length : Int) := by have := (List.getElem?_eq_some_iff.1 hg).1; omega
 have hal := hs.arr_len (n := (n : Int)) (t := t) (by rw [Int.toNat_natCast]; exact ht)
 have hsz : (sizeZ t).toNat = (s.arr (n : Int)).length := by omega
 rw [show cellV t g = .iface 77 (.slice (some ⟨g, 0, none⟩) (s.arr (n : Int)).length (s.arr (n : Int)).length) by unfold cellV; rw [if_neg h0, hsz]] at hcell
 have gm := meth_rs (g := g) (n := (s.arr (n : Int)).length) (c := (s.arr (n : Int)).length)
 generalize (s.arr (n : Int)).length = m at *
 clear h hL hg ht had hrow h0 hs hal hsz
 have Hi := Lib.hid hi
 clear hi
 go_enter Try.func114, Try.ntmps114
 go_wp2_with fail
 refine (rowSet_no (some ⟨g, 0, none⟩) m m i v W Hi.out).mono ?_
 rintro e w1 ⟨rfl, rfl⟩
 clear c1 hcell gm
 go_wp2_with fail
 refine (end_dir _ _ _).mono ?_
 rintro e w' ⟨rfl, rfl⟩
 simp only [thrown]
 go_wp2
 exact ⟨rfl, rfl, Below.refl _ _⟩
set_option maxRecDepth 100000 in
set_option maxHeartbeats 8000000 in
theorem dStoreG1 (L : Lay) (hL : DOk L) (s s2 s3 : Ms) (ev : Value) (n : Nat) (t at_ x : Int) (g : Nat) (W : World) (h : DR L s ev W) (ad : Addr) (had : L.aa = some ad) (hnl : (n : Int) < (L.ab.length : Int)) (hcell : W.cell? (ad.add n) = some (.iface 82 (.agg #[.pointer (some ⟨g, 0, none⟩)])))
 (gm : ∀ (f : Nat) (w : World), (method (f + 1) 82 (.agg #[.pointer (some ⟨g, 0, none⟩)]) "offshoot/direct.set").run Try.prog w = .ok (144, .agg #[.pointer (some ⟨g, 0, none⟩)]) w)
 (hset : Calls Try.prog 144 #[.agg #[.pointer (some ⟨g, 0, none⟩)], .int .i64 at_, .int .i64 x] W fun e w1 => e = .returned (.bool true) ∧ DR L s2 ev w1 ∧ RChg L ev W ev w1)
 (h1 : s3.vals = s2.vals) (h2 : s3.arrs = s2.arrs) (h3 : s3.steps = s2.steps) (h4 : s3.fuel = s2.fuel) (h5 : s3.evs = s2.evs ++ [⟨(n : Int), at_, x⟩]) (h6 : s2.evs.length < s2.steps) :
 Calls Try.prog 114 #[.pointer (some ⟨L.M, 0, none⟩), .int .i64 (n : Int), .int .i64 at_, .int .i64 x] W fun e W' => (∃ u, e = .returned u) ∧ ∃ ev', DR L s3 ev' W' ∧ RChg L ev W ev' W' := by
 have c1 := h.row.cellv (i := 1) (v := .slice L.aa L.ab.length L.acap) rfl
 rw [had] at c1
 obtain ⟨i0, hi0, hz0, hz1, hz2⟩ := info_parts info_ev
 have HL := Lib.hid hL
 have Hset := Lib.hid hset
 have H1 := Lib.hid h1
 have H2 := Lib.hid h2
 have H3 := Lib.hid h3
 have H4 := Lib.hid h4
 have H5 := Lib.hid h5
 have hF := hL.F
 clear h hL had hset h1 h2 h3 h4 h5
 go_enter Try.func114, Try.ntmps114
 go_wp2_with fail
 refine Hset.out.mono ?_
 rintro e w1 ⟨rfl, hm1, hg1⟩
 clear c1 hcell gm
 have c6 := hm1.row.cellv (i := 6) (v := ev) rfl
 have hsum := hm1.sum
 have hb1 := hm1.size
 have hel : s2.evs.length ≤ 20001 := by omega
 have ha := hm1.evs.alloc (.cells (EvV.cells ⟨(n : Int), at_, x⟩).toArray 41)
 have HA := Lib.hid ha
 have Hm1 := Lib.hid hm1
 have Hg1 := Lib.hid hg1
 clear hm1 hg1 ha hsum
 go_wp2_with (at_builtin; refine wpList_append_own_at _ rfl (.tmp 25) (.tmp 30) 30 rfl L.b1 41 i0 _ 3 24 Try.underlying30 hi0 hz0 hz1 hz2 rfl (by decide) ev s2.evs.length (s2.evs.flatMap EvV.cells) rfl HA.out ⟨w1.heap.size, 0, none⟩ 1 1 (EvV.cells ⟨(n : Int), at_, x⟩) rfl rfl (cells_new _ _ _) (evcells_one1 _) (by unfold maxLen; omega) (by omega) (by simp; omega) ?_)
 intro ev' W3 hown hgr _ hat
 have b2 : Below w1.heap.size w1 (w1.alloc (.cells (EvV.cells ⟨(n : Int), at_, x⟩).toArray 41)) := (Below.refl _ _).alloc (Nat.le_refl _) _
 have hm2 := Hm1.out.below HL.out b2
 have r3 := hm2.row.grown hgr (own_ne hm2.evs hm2.row (by decide))
 have g3 : RChg L ev w1 ev' W3 := (RChg.below b2).trans (.grown hgr (fun k e => by
  rcases hat with h | h
  · exact .inl (h ▸ e)
  · rw [h] at e; injection e with e; exact .inr (by simp only [World.alloc, Array.size_push] at *; omega)))
 have rows3 : ∀ (i g : Nat) (t : Int), L.ab[i]? = some g → L.p.V[i]? = some t → Row W3 g 3 (ints (s3.cont i t)).toArray := fun i g t h1 h2 => by
  have := (hm2.rows i g t h1 h2).grown hgr (own_ne hm2.evs (hm2.rows i g t h1 h2) (by decide))
  unfold Ms.cont at this ⊢
  rw [H1.out, H2.out]; exact this
 have im3 := HL.out.im _ _ hm2.im (.grown hgr hm2.size (fun k e => own_lo hm2.evs e))
 have sz3 : L.b1 ≤ W3.heap.size := Nat.le_trans hm2.size hgr.size
 have hov := own_ov hown
 have R3 := Lib.hid r3
 have G3 := Lib.hid g3
 have Rows3 := Lib.hid rows3
 have Own3 := Lib.hid hown
 have Im3 := Lib.hid im3
 have Sz3 := Lib.hid sz3
 have Hsum := Lib.hid Hm1.out.sum
 clear hown hgr hat b2 hm2 r3 g3 HA Hm1 c6 rows3 im3 sz3
 go_wp2_with (refine at_store _ _ _ rfl ?_)
 refine Stop.to ?_
 refine wpList_store_part rfl 30 _ _ rfl L.M 6 rfl _ rfl [ev'] (by cases ev' <;> first | rfl | cases hov) 76 _ (L.dcells s3 ev') R3.out (by kernel_rfl) (by show 6 + 1 ≤ 7; omega) (by simpa using hov) (by unfold Lay.dcells; rw [H3.out]; rfl) ?_
 intro W4 r4 o4
 have m4 : DR L s3 ev' W4 := ⟨r4, by have := own_only Own3.out o4 (fun e => by have := own_lo Own3.out e; have := HL.out.lt; omega); rw [H5.out]; simpa using this,
  fun i g t h1 h2 => (Rows3.out i g t h1 h2).only o4 (HL.out.alt g (List.mem_of_getElem? h1)).2,
  HL.out.im _ _ Im3.out (.only o4 (.inr (.inl rfl))), by rw [o4.size]; exact Sz3.out, by rw [H3.out, H4.out]; exact Hsum.out, by rw [H5.out, H3.out]; simp; omega⟩
 have M4 := Lib.hid m4
 have G4 := Lib.hid (Hg1.out.trans (G3.out.trans (RChg.only o4 (.inl rfl))))
 clear m4 r4 o4 R3 G3 Rows3 Own3 Im3 Hsum Sz3
 go_wp2
 go_end0
 exact ⟨⟨_, rfl⟩, ev', M4.out, G4.out⟩
set_option maxRecDepth 100000 in
set_option maxHeartbeats 8000000 in
theorem dStoreG2 (L : Lay) (hL : DOk L) (s s2 s3 : Ms) (ev : Value) (n : Nat) (t at_ x : Int) (g m : Nat) (W : World) (h : DR L s ev W) (ad : Addr) (had : L.aa = some ad) (hnl : (n : Int) < (L.ab.length : Int)) (hcell : W.cell? (ad.add n) = some (.iface 77 (.slice (some ⟨g, 0, none⟩) m m)))
 (gm : ∀ (f : Nat) (w : World), (method (f + 1) 77 (.slice (some ⟨g, 0, none⟩) m m) "offshoot/direct.set").run Try.prog w = .ok (142, .slice (some ⟨g, 0, none⟩) m m) w)
 (hset : Calls Try.prog 142 #[.slice (some ⟨g, 0, none⟩) m m, .int .i64 at_, .int .i64 x] W fun e w1 => e = .returned (.bool true) ∧ DR L s2 ev w1 ∧ RChg L ev W ev w1)
 (h1 : s3.vals = s2.vals) (h2 : s3.arrs = s2.arrs) (h3 : s3.steps = s2.steps) (h4 : s3.fuel = s2.fuel) (h5 : s3.evs = s2.evs ++ [⟨(n : Int), at_, x⟩]) (h6 : s2.evs.length < s2.steps) :
 Calls Try.prog 114 #[.pointer (some ⟨L.M, 0, none⟩), .int .i64 (n : Int), .int .i64 at_, .int .i64 x] W fun e W' => (∃ u, e = .returned u) ∧ ∃ ev', DR L s3 ev' W' ∧ RChg L ev W ev' W' := by
 have c1 := h.row.cellv (i := 1) (v := .slice L.aa L.ab.length L.acap) rfl
 rw [had] at c1
 obtain ⟨i0, hi0, hz0, hz1, hz2⟩ := info_parts info_ev
 have HL := Lib.hid hL
 have Hset := Lib.hid hset
 have H1 := Lib.hid h1
 have H2 := Lib.hid h2
 have H3 := Lib.hid h3
 have H4 := Lib.hid h4
 have H5 := Lib.hid h5
 have hF := hL.F
 clear h hL had hset h1 h2 h3 h4 h5
 go_enter Try.func114, Try.ntmps114
 go_wp2_with fail
 refine Hset.out.mono ?_
 rintro e w1 ⟨rfl, hm1, hg1⟩
 clear c1 hcell gm
 have c6 := hm1.row.cellv (i := 6) (v := ev) rfl
 have hsum := hm1.sum
 have hb1 := hm1.size
 have hel : s2.evs.length ≤ 20001 := by omega
 have ha := hm1.evs.alloc (.cells (EvV.cells ⟨(n : Int), at_, x⟩).toArray 41)
 have HA := Lib.hid ha
 have Hm1 := Lib.hid hm1
 have Hg1 := Lib.hid hg1
 clear hm1 hg1 ha hsum
 go_wp2_with (at_builtin; refine wpList_append_own_at _ rfl (.tmp 25) (.tmp 30) 30 rfl L.b1 41 i0 _ 3 24 Try.underlying30 hi0 hz0 hz1 hz2 rfl (by decide) ev s2.evs.length (s2.evs.flatMap EvV.cells) rfl HA.out ⟨w1.heap.size, 0, none⟩ 1 1 (EvV.cells ⟨(n : Int), at_, x⟩) rfl rfl (cells_new _ _ _) (evcells_one1 _) (by unfold maxLen; omega) (by omega) (by simp; omega) ?_)
 intro ev' W3 hown hgr _ hat
 have b2 : Below w1.heap.size w1 (w1.alloc (.cells (EvV.cells ⟨(n : Int), at_, x⟩).toArray 41)) := (Below.refl _ _).alloc (Nat.le_refl _) _
 have hm2 := Hm1.out.below HL.out b2
 have r3 := hm2.row.grown hgr (own_ne hm2.evs hm2.row (by decide))
 have g3 : RChg L ev w1 ev' W3 := (RChg.below b2).trans (.grown hgr (fun k e => by
  rcases hat with h | h
  · exact .inl (h ▸ e)
  · rw [h] at e; injection e with e; exact .inr (by simp only [World.alloc, Array.size_push] at *; omega)))
 have rows3 : ∀ (i g : Nat) (t : Int), L.ab[i]? = some g → L.p.V[i]? = some t → Row W3 g 3 (ints (s3.cont i t)).toArray := fun i g t h1 h2 => by
  have := (hm2.rows i g t h1 h2).grown hgr (own_ne hm2.evs (hm2.rows i g t h1 h2) (by decide))
  unfold Ms.cont at this ⊢
  rw [H1.out, H2.out]; exact this
 have im3 := HL.out.im _ _ hm2.im (.grown hgr hm2.size (fun k e => own_lo hm2.evs e))
 have sz3 : L.b1 ≤ W3.heap.size := Nat.le_trans hm2.size hgr.size
 have hov := own_ov hown
 have R3 := Lib.hid r3
 have G3 := Lib.hid g3
 have Rows3 := Lib.hid rows3
 have Own3 := Lib.hid hown
 have Im3 := Lib.hid im3
 have Sz3 := Lib.hid sz3
 have Hsum := Lib.hid Hm1.out.sum
 clear hown hgr hat b2 hm2 r3 g3 HA Hm1 c6 rows3 im3 sz3
 go_wp2_with (refine at_store _ _ _ rfl ?_)
 refine Stop.to ?_
 refine wpList_store_part rfl 30 _ _ rfl L.M 6 rfl _ rfl [ev'] (by cases ev' <;> first | rfl | cases hov) 76 _ (L.dcells s3 ev') R3.out (by kernel_rfl) (by show 6 + 1 ≤ 7; omega) (by simpa using hov) (by unfold Lay.dcells; rw [H3.out]; rfl) ?_
 intro W4 r4 o4
 have m4 : DR L s3 ev' W4 := ⟨r4, by have := own_only Own3.out o4 (fun e => by have := own_lo Own3.out e; have := HL.out.lt; omega); rw [H5.out]; simpa using this,
  fun i g t h1 h2 => (Rows3.out i g t h1 h2).only o4 (HL.out.alt g (List.mem_of_getElem? h1)).2,
  HL.out.im _ _ Im3.out (.only o4 (.inr (.inl rfl))), by rw [o4.size]; exact Sz3.out, by rw [H3.out, H4.out]; exact Hsum.out, by rw [H5.out, H3.out]; simp; omega⟩
 have M4 := Lib.hid m4
 have G4 := Lib.hid (Hg1.out.trans (G3.out.trans (RChg.only o4 (.inl rfl))))
 clear m4 r4 o4 R3 G3 Rows3 Own3 Im3 Hsum Sz3
 go_wp2
 go_end0
 exact ⟨⟨_, rfl⟩, ev', M4.out, G4.out⟩
theorem dStoreS (L : Lay) (hL : DOk L) (s : Ms) (ev : Value) (n : Nat) (t x u : Int) (W : World) (h : DR L s ev W) (ht : L.p.V[n]? = some t) (h0 : sizeZ t = 0) (hv : s.vals[n]? = some u) (hf : s.evs.length < s.steps) : Calls Try.prog 114 #[.pointer (some ⟨L.M, 0, none⟩), .int .i64 (n : Int), .int .i64 (-1), .int .i64 x] W fun e W' => (∃ u, e = .returned u) ∧ ∃ ev', DR L (s.setv (n : Int) x) ev' W' ∧ RChg L ev W ev' W' := by
 obtain ⟨g, hg⟩ : ∃ g, L.ab[n]? = some g := ⟨_, List.getElem?_eq_getElem (by rw [hL.alen]; exact (List.getElem?_eq_some_iff.1 ht).1)⟩
 obtain ⟨ad, had, hcell⟩ := hL.cells W h.im n g t hg ht
 have hrow := h.rows n g t hg ht
 have c1 := h.row.cellv (i := 1) (v := .slice L.aa L.ab.length L.acap) rfl
 rw [had] at c1
 have hnl : (n : Int) < (L.ab.length : Int) := by have := (List.getElem?_eq_some_iff.1 hg).1; omega
 rw [show s.cont n t = [u] by unfold Ms.cont; rw [if_pos h0, hv]; rfl] at hrow
 rw [show cellV t g = .iface 82 (.agg #[.pointer (some ⟨g, 0, none⟩)]) by unfold cellV; rw [if_pos h0]] at hcell
 have hnl2 : n < s.vals.length := (List.getElem?_eq_some_iff.1 hv).1
 refine dStoreG1 L hL s { s with vals := s.vals.set n x } (s.setv (n : Int) x) ev n t (-1) x g W h ad had hnl hcell (fun f w => meth_ss (g := g) f w) ?_ (by simp [Ms.setv]) rfl rfl rfl rfl hf
 refine (scalarSet_any g (-1) x u W hrow).mono ?_
 rintro e w1 ⟨rfl, w0, b0, o1, r1⟩
 exact ⟨rfl, (h.below hL b0).setB hL hg ht o1 (by unfold Ms.cont; rw [if_pos h0]; simp only [List.getElem?_set_self hnl2]; exact r1) (fun i hi => ⟨by simp [Ne.symm hi], rfl⟩) rfl rfl rfl, (RChg.below b0 : RChg L ev W ev w0).trans (RChg.onlyB o1 (List.mem_of_getElem? hg))⟩
theorem dStoreR (L : Lay) (hL : DOk L) (s : Ms) (ev : Value) (n : Nat) (t i x : Int) (W : World) (h : DR L s ev W) (ht : L.p.V[n]? = some t) (h0 : sizeZ t ≠ 0) (hs : LenS L.p.V s) (hi : ¬ (i < 0 ∨ ((s.arr (n : Int)).length : Int) ≤ i)) (hf : s.evs.length < s.steps) : Calls Try.prog 114 #[.pointer (some ⟨L.M, 0, none⟩), .int .i64 (n : Int), .int .i64 i, .int .i64 x] W fun e W' => (∃ u, e = .returned u) ∧ ∃ ev', DR L (s.seta (n : Int) i x) ev' W' ∧ RChg L ev W ev' W' := by
 obtain ⟨k, rfl⟩ : ∃ k : Nat, i = (k : Int) := ⟨i.toNat, by omega⟩
 obtain ⟨g, hg⟩ : ∃ g, L.ab[n]? = some g := ⟨_, List.getElem?_eq_getElem (by rw [hL.alen]; exact (List.getElem?_eq_some_iff.1 ht).1)⟩
 obtain ⟨ad, had, hcell⟩ := hL.cells W h.im n g t hg ht
 have hrow := h.rows n g t hg ht
 have c1 := h.row.cellv (i := 1) (v := .slice L.aa L.ab.length L.acap) rfl
 rw [had] at c1
 have hnl : (n : Int) < (L.ab.length : Int) := by have := (List.getElem?_eq_some_iff.1 hg).1; omega
 have hal := hs.arr_len (n := (n : Int)) (t := t) (by rw [Int.toNat_natCast]; exact ht)
 have hsz : (sizeZ t).toNat = (s.arr (n : Int)).length := by omega
 have hnl2 : n < s.arrs.length := by rw [hs.alen]; exact (List.getElem?_eq_some_iff.1 ht).1
 rw [show s.cont n t = s.arr (n : Int) by unfold Ms.cont Ms.arr; rw [if_neg h0, Int.toNat_natCast]] at hrow
 rw [show cellV t g = .iface 77 (.slice (some ⟨g, 0, none⟩) (s.arr (n : Int)).length (s.arr (n : Int)).length) by unfold cellV; rw [if_neg h0, hsz]] at hcell
 refine dStoreG2 L hL s { s with arrs := s.arrs.set n ((s.arr (n : Int)).set k x) } (s.seta (n : Int) (k : Int) x) ev n t (k : Int) x g _ W h ad had hnl hcell (fun f w => meth_rs (g := g) f w) ?_ rfl (by simp [Ms.seta]) rfl rfl rfl hf
 refine (rowSet_ok g _ _ k x _ W (by omega) (by simp [ints]) hrow).mono ?_
 rintro e w1 ⟨rfl, o1, r1⟩
 refine ⟨rfl, h.setB hL hg ht o1 ?_ (fun i hi => ⟨rfl, by simp [Ne.symm hi]⟩) rfl rfl rfl, RChg.onlyB o1 (List.mem_of_getElem? hg)⟩
 unfold Ms.cont
 rw [if_neg h0]
 simp only [List.getElem?_set_self hnl2, Option.getD_some]
 have : (ints ((s.arr (n : Int)).set k x)).toArray = (ints (s.arr (n : Int))).toArray.setIfInBounds k (.int .i64 x) := by simp [ints, List.map_set]
 rw [this]; exact r1
end Go.Proofs.Ytlglilmgklipdaa
