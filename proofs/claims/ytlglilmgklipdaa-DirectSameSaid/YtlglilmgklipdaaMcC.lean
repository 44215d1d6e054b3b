/- The machine in memory: the top of its stack; the walk over tell. Conditions: stated in each law. -/
import Derived.Test.YtlglilmgklipdaaMcB
namespace Go.Proofs.Ytlglilmgklipdaa
set_option linter.unusedVariables false
open Go.RowKit Go.Deep

/-- The top of the stack, where it lies. -/
structure Top (L : Lay) (W : World) (x : FrV) (r : List FrV) (sv : Value) (SB cap : Nat) (cur : Array Value) : Prop where
  sve : sv = .slice (some ⟨SB, 0, none⟩) (r.length + 1) cap
  row : Row W SB 63 cur
  size : cur.size = cap * 3
  le : r.length + 1 ≤ cap
  max : cap ≤ maxLen
  lo : L.b1 ≤ SB
  low : cur.toList.take (r.length * 3) = r.reverse.flatMap FrV.cells
  top : (cur.toList.drop (r.length * 3)).take 3 = x.cells
section
variable {L : Lay} {W W' : World} {x x' : FrV} {r fs : List FrV} {sv ev : Value} {SB cap : Nat} {cur : Array Value} {s s' : Ms}
theorem top_of (h : W.ownsRow L.b1 63 3 sv (x :: r).length ((x :: r).reverse.flatMap FrV.cells)) : ∃ SB cap cur, Top L W x r sv SB cap cur := by
  rcases h.2 with ⟨_, h0⟩ | ⟨g, cap, cur, rfl, hb, hh, hc, hm, hsz, ht⟩
  · simp at h0
  · rw [List.reverse_cons, List.flatMap_append, List.length_cons] at ht
    have hl : (r.reverse.flatMap FrV.cells).length = r.length * 3 := by rw [frcells_len, List.length_reverse]
    have hlow : cur.toList.take (r.length * 3) = r.reverse.flatMap FrV.cells := by
      have := congrArg (List.take (r.length * 3)) ht
      rw [List.take_take, Nat.min_eq_left (by omega), List.take_append_of_le_length (by omega), List.take_of_length_le (l := r.reverse.flatMap FrV.cells) (by omega)] at this
      exact this
    refine ⟨g, cap, cur, rfl, hh, hsz, hc, hm, hb, hlow, ?_⟩
    have := congrArg (List.drop (r.length * 3)) ht
    rw [List.drop_take, List.drop_append_of_le_length (by omega), List.drop_eq_nil_of_le (show (r.reverse.flatMap FrV.cells).length ≤ r.length * 3 by omega), List.nil_append] at this
    rw [show (r.length + 1) * 3 - r.length * 3 = 3 by omega] at this
    simpa using this
theorem Top.own (h : Top L W x r sv SB cap cur) : W.ownsRow L.b1 63 3 sv (r.length + 1) ((x :: r).reverse.flatMap FrV.cells) := by
  have hl : (r.reverse.flatMap FrV.cells).length = r.length * 3 := by rw [frcells_len, List.length_reverse]
  refine ⟨by rw [frcells_len, List.length_reverse, List.length_cons], .inr ⟨SB, cap, cur, h.sve, h.lo, h.row, h.le, h.max, h.size, ?_⟩⟩
  rw [List.reverse_cons, List.flatMap_append, show (r.length + 1) * 3 = r.length * 3 + 3 by omega, List.take_add, h.low, h.top]
  simp
theorem Top.cell (h : Top L W x r sv SB cap cur) (j : Nat) (u : Value) (hu : x.cells[j]? = some u) : W.cell? ⟨SB, r.length * 3 + j, none⟩ = some u := by
  refine h.row.cellv ?_
  have hj : j < 3 := by have := (List.getElem?_eq_some_iff.1 hu).1; simpa [FrV.cells] using this
  rw [← h.top, List.getElem?_take_of_lt hj, List.getElem?_drop] at hu
  rw [← Array.getElem?_toList]; exact hu
/-- The last frame is taken off. -/
theorem Top.pop (h : Top L W x r sv SB cap cur) : W.ownsRow L.b1 63 3 (.slice (some ⟨SB, 0, none⟩) r.length cap) r.length (r.reverse.flatMap FrV.cells) :=
  ⟨by rw [frcells_len, List.length_reverse], .inr ⟨SB, cap, cur, rfl, h.lo, h.row, by have := h.le; omega, h.max, h.size, h.low⟩⟩
theorem Top.hi (h : Top L W x r sv SB cap cur) : r.length * 3 + 3 ≤ cur.size := by have := h.size; have := h.le; omega
/-- One cell of the last frame is another. -/
theorem Top.put (h : Top L W x r sv SB cap cur) {j : Nat} {u : Value} (hj : j < 3) (hx : x'.cells = x.cells.set j u) (hr : Row W' SB 63 (putL cur (r.length * 3 + j) [u])) : Top L W' x' r sv SB cap (putL cur (r.length * 3 + j) [u]) := by
  have hh := h.hi
  have e : (putL cur (r.length * 3 + j) [u]).toList = cur.toList.set (r.length * 3 + j) u := by
    unfold putL
    simp only [List.length_singleton]
    rw [List.set_eq_take_append_cons_drop, if_pos (by simp; omega)]; simp
  refine ⟨h.sve, hr, ?_, h.le, h.max, h.lo, ?_, ?_⟩
  · rw [← h.size, ← Array.length_toList, e]; simp
  · rw [e, List.take_set_of_le (by omega)]; exact h.low
  · rw [e, List.drop_set, if_neg (by omega), show r.length * 3 + j - r.length * 3 = j by omega, List.take_set, h.top, hx]
theorem Top.below (h : Top L W x r sv SB cap cur) (b : Below W.heap.size W W') : Top L W' x r sv SB cap cur := ⟨h.sve, h.row.below b h.row.lt, h.size, h.le, h.max, h.lo, h.low, h.top⟩
theorem vv_ne {n : Nat} {v : Value} {xs : List Value} {e : TypeId} {size : Nat} (hL : LOk L) (h : W.ownsRow L.b1 e size v n xs) : v.ownBlock = none ∨ L.vv.ownBlock ≠ v.ownBlock := by
  cases hv : v.ownBlock with
  | none => exact .inl rfl
  | some g => exact .inr (fun e => by have := (hL.vlt g e).1; have := own_lo h hv; omega)
/-- The last frame's values have grown. -/
theorem MC.grownTop (h : MC L s (x :: r) ev W) (hL : LOk L) (hg : W.grownBy W' x.v.ownBlock) (hx : W'.ownsRow L.b1 3 1 x'.v x'.f.vals.length (ints x'.f.vals)) (hat : x'.v.ownBlock = x.v.ownBlock ∨ x'.v.ownBlock = some W.heap.size) : MC L s (x' :: r) ev W' := by
  have hxo := h.fr x (by simp)
  have hd := List.pairwise_cons.1 h.dist
  refine ⟨own_grown h.evs hg (own_apart h.evs hxo (by decide)), own_grown h.vals hg (vv_ne hL hxo), fun i g a hi ha => (h.arrs i g a hi ha).grown hg (fun e => ?_), fun y hy => ?_, List.pairwise_cons.2 ⟨fun y hy => ?_, hd.2⟩,
    hL.im _ _ h.im (.grown hg h.size (fun k e => own_lo hxo e)), Nat.le_trans h.size hg.size, h.sum, by have := h.few; simpa using this⟩
  · have h1 := (hL.alt g (List.mem_of_getElem? hi)).1
    have := own_lo hxo e
    omega
  · rcases List.mem_cons.1 hy with rfl | hy
    · exact hx
    · exact own_grown (h.fr y (by simp [hy])) hg (by
        rcases hd.1 y hy with h1 | h1
        · exact .inl h1
        · exact .inr (fun e => h1 e.symm))
  · rcases hat with h1 | h1
    · rw [h1]; exact hd.1 y hy
    · rw [h1]
      right
      intro e
      have := (h.fr y (by simp [hy])).lt _ e.symm
      omega
end
theorem MC.onlyStack {L : Lay} {s : Ms} {fs : List FrV} {ev : Value} {W W' : World} {SB : Nat} {cur : Array Value} (h : MC L s fs ev W) (hL : LOk L) (o : Only SB W W') (hr : Row W SB 63 cur) (hlo : L.b1 ≤ SB) : MC L s fs ev W' :=
  ⟨own_only h.evs o (own_ne h.evs hr (by decide)), own_only h.vals o (own_ne h.vals hr (by decide)), fun i g a hi ha => (h.arrs i g a hi ha).only o (fun e => by have := (hL.alt g (List.mem_of_getElem? hi)).1; omega),
    fun x hx => own_only (h.fr x hx) o (own_ne (h.fr x hx) hr (by decide)), h.dist, hL.im _ _ h.im (.only o (.inl hlo)), by rw [o.size]; exact h.size, h.sum, h.few⟩
theorem info_int' : (Try.prog.info? 3).map (fun i => (i.zero, i.size, i.bytes)) = some (some (.int .i64 0), 1, 8) := by kernel_rfl
set_option maxRecDepth 100000 in
set_option maxHeartbeats 4000000 in
theorem mTell_any (L : Lay) (hL : LOk L) (s : Ms) (f : Fr) (r : List Fr) (v : Int) (W : World) (h : MRx L ⟨s, f :: r⟩ W) (hv : f.vals.length ≤ 1000) : Calls Try.prog 50 #[.pointer (some ⟨L.M, 0, none⟩), .int .i64 v] W fun e W' => (∃ u, e = .returned u) ∧ MRx L ⟨s, f.told v :: r⟩ W' ∧ Chg L W W' := by
  obtain ⟨fs, sv, ev, hfs, hm⟩ := h
  obtain ⟨x, rs, rfl⟩ : ∃ x rs, fs = x :: rs := by cases fs with
    | nil => simp at hfs
    | cons x rs => exact ⟨x, rs, rfl⟩
  simp only [List.map_cons, List.cons.injEq] at hfs
  obtain ⟨rfl, rfl⟩ := hfs
  obtain ⟨SB, cap, cur, ht⟩ := top_of hm.stack
  obtain ⟨i0, hi0, hz0, hz1, hz2⟩ := info_parts info_int'
  have Hm := Lib.hid hm
  have HL := Lib.hid hL
  have Ht := Lib.hid ht
  have c7 := hm.row.cellv (i := 7) (v := sv) rfl
  rw [ht.sve] at c7
  have hfew := hm.core.few
  have hsum := hm.core.sum
  have hF := hL.F
  have hrl : rs.length ≤ 20001 := by simp at hfew; dsimp only at hsum; omega
  clear hm hL ht hfew hsum hF
  go_enter Try.func50, Try.ntmps50
  go_wp2_with fail
  go_quiet (fail)
  have hd : Below W.heap.size W (W.drewN nq) := ⟨rfl, rfl, rfl, Nat.le_refl _, fun _ _ => rfl⟩
  have gd : Chg L W (W.drewN nq) := ⟨rfl, rfl, rfl, Nat.le_refl _, fun _ _ _ _ _ => rfl⟩
  have hm0 := Hm.out.below HL.out hd
  have ht0 := Ht.out.below hd
  have Gd := Lib.hid gd
  clear Hm Ht c7 hd gd
  generalize W.drewN nq = W0 at hm0 ht0 Gd ⊢
  have cv := ht0.cell 2 x.v rfl
  have hxo := hm0.core.fr x (by simp)
  have hb1 := hm0.core.size
  have ha := hxo.alloc (.cells #[.int .i64 v] 3)
  have HA := Lib.hid ha
  have Hm0 := Lib.hid hm0
  have Ht0 := Lib.hid ht0
  clear ha hxo hm0 ht0
  go_wp2_with (at_builtin; refine wpList_append_own_at _ rfl (.tmp 20) (.tmp 22) 22 rfl L.b1 3 i0 (.int .i64 0) 1 8 Try.underlying22 hi0 hz0 hz1 hz2 rfl (by decide) x.v x.f.vals.length (ints x.f.vals) rfl HA.out ⟨W0.heap.size, 0, none⟩ 1 1 (ints [v]) rfl rfl (cells_new _ _ _) (ints_one _) (by unfold maxLen; omega) (by omega) (by simp; omega) ?_)
  intro fv W1 hown hg _ hat
  have b1 : Below W0.heap.size W0 (W0.alloc (.cells #[.int .i64 v] 3)) := (Below.refl _ _).alloc (Nat.le_refl _) _
  have hm1 := Hm0.out.below HL.out b1
  have ht1 := Ht0.out.below b1
  have k2 := hm1.core.grownTop (x' := ⟨x.f.told v, fv⟩) HL.out hg (by rw [← ints_append] at hown; simpa [Fr.told] using hown) (by simpa using hat)
  have r2 := hm1.row.grown hg (own_ne HA.out hm1.row (by decide))
  have t2 : Row W1 SB 63 cur := ht1.row.grown hg (own_ne HA.out ht1.row (by decide))
  have ht2 : Top L W1 x rs sv SB cap cur := ⟨ht1.sve, t2, ht1.size, ht1.le, ht1.max, ht1.lo, ht1.low, ht1.top⟩
  have g2 := (Gd.out.trans (Chg.below (L := L) (b1.mono hb1))).trans (.grown hg (by simp; omega) (fun k e => own_lo HA.out e))
  have hov := own_ov hown
  have K2 := Lib.hid k2
  have R2 := Lib.hid r2
  have T2 := Lib.hid ht2
  have G2 := Lib.hid g2
  clear hown hg hat b1 hm1 ht1 k2 r2 t2 ht2 g2 HA Hm0 Ht0 Gd cv
  go_wp2_with (refine at_store _ _ _ rfl ?_)
  refine Stop.to ?_
  refine wpList_store_part rfl 22 _ _ rfl SB (rs.length * 3 + 2) rfl _ rfl [fv] (by cases fv <;> first | rfl | cases hov) 63 _ _ T2.out.row (by kernel_rfl) (by have := T2.out.hi; simp; omega) (by simpa using hov) rfl ?_
  intro W3 r3 o3
  have hSB := T2.out.lo
  have t3 := T2.out.put (x' := ⟨x.f.told v, fv⟩) (j := 2) (u := fv) (by decide) rfl r3
  have hne : SB ≠ L.M := by have := HL.out.lt; omega
  have m3 : MR L s (⟨x.f.told v, fv⟩ :: rs) sv ev W3 := by
    refine ⟨R2.out.only o3 (fun e => hne e.symm), t3.own, ?_⟩
    exact K2.out.onlyStack HL.out o3 T2.out.row hSB
  have M3 := Lib.hid m3
  have G3 := Lib.hid (G2.out.trans (.only o3 (.inl hSB)))
  clear m3 t3 o3 r3 R2 T2 K2 G2
  go_wp2
  go_end0
  exact ⟨⟨_, rfl⟩, ⟨_, sv, ev, rfl, M3.out⟩, G3.out⟩
end Go.Proofs.Ytlglilmgklipdaa
