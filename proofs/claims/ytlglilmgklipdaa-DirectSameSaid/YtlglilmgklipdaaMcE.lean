/- The walks over the machine's spot and note. Conditions: stated in each theorem. -/
import Derived.Test.YtlglilmgklipdaaMcC
import Derived.Test.YtlglilmgklipdaaPlA
namespace Go.Proofs.Ytlglilmgklipdaa
set_option linter.unusedVariables false
open Go.RowKit Go.Deep

set_option maxRecDepth 100000 in
set_option maxHeartbeats 4000000 in
theorem mSpotNo_any (L : Lay) (hL : LOk L) (m : Mm) (n : Nat) (i : Int) (W : World) (h : MRx L m W) (hs : LenS L.p.V m.s) (hn : n < m.s.arrs.length) (hb : i < 0 ∨ ((m.s.arr (n : Int)).length : Int) ≤ i) : Calls Try.prog 51 #[.pointer (some ⟨L.M, 0, none⟩), .int .i64 (n : Int), .int .i64 i] W fun e W' => e = .returned (.pointer none) ∧ MRx L ⟨m.s.stop 2 0, m.stack⟩ W' ∧ Only L.M W W' := by
  obtain ⟨fs, sv, ev, hfs, hm⟩ := h
  have hst := mStopO_any L hL m 2 0 W ⟨fs, sv, ev, hfs, hm⟩
  obtain ⟨g, hg⟩ : ∃ g, L.ab[n]? = some g := ⟨_, List.getElem?_eq_getElem (by rw [hL.alen, ← hs.alen]; exact hn)⟩
  obtain ⟨ad, t, had, ht, hc⟩ := hL.arrs W hm.core.im n g hg
  have hal := hs.arr_len (n := (n : Int)) (t := t) (by rw [Int.toNat_natCast]; exact ht)
  have hlen : (m.s.arr (n : Int)).length = (sizeZ t).toNat := by omega
  rw [hlen] at hb
  have hnl : (n : Int) < (L.ab.length : Int) := by have := (List.getElem?_eq_some_iff.1 hg).1; omega
  have c5 := hm.row.cellv (i := 5) (v := .slice L.aa L.ab.length L.acap) rfl
  rw [had] at c5
  have Hst := Lib.hid hst
  clear hst hm hL hs hg ht hal hlen hn hfs had
  by_cases h0 : i < 0
  · clear hb
    go_enter Try.func51, Try.ntmps51
    go_wp2_with fail
    refine Hst.out.mono ?_
    rintro e W2 ⟨⟨u, rfl⟩, h2, g2⟩
    have G2 := Lib.hid g2
    have H2 := Lib.hid h2
    clear h2 g2
    go_wp2
    go_ret
    exact ⟨rfl, H2.out, G2.out⟩
  · have h0' : 0 ≤ i := by omega
    have hb' : ((sizeZ t).toNat : Int) ≤ i := by omega
    clear hb h0
    generalize (sizeZ t).toNat = sz at *
    go_enter Try.func51, Try.ntmps51
    go_wp2_with fail
    refine Hst.out.mono ?_
    rintro e W2 ⟨⟨u, rfl⟩, h2, g2⟩
    have G2 := Lib.hid g2
    have H2 := Lib.hid h2
    clear h2 g2
    go_wp2
    go_ret
    exact ⟨rfl, H2.out, G2.out⟩
set_option maxRecDepth 100000 in
set_option maxHeartbeats 4000000 in
theorem mSpot_any (L : Lay) (hL : LOk L) (m : Mm) (n i : Nat) (g : Nat) (W : World) (h : MRx L m W) (hs : LenS L.p.V m.s) (hg : L.ab[n]? = some g) (hb : i < (m.s.arr (n : Int)).length) : Calls Try.prog 51 #[.pointer (some ⟨L.M, 0, none⟩), .int .i64 (n : Int), .int .i64 (i : Int)] W fun e W' => e = .returned (.pointer (some ⟨g, i, none⟩)) ∧ W = W' := by
  obtain ⟨fs, sv, ev, hfs, hm⟩ := h
  obtain ⟨ad, t, had, ht, hc⟩ := hL.arrs W hm.core.im n g hg
  have hal := hs.arr_len (n := (n : Int)) (t := t) (by rw [Int.toNat_natCast]; exact ht)
  have hlen : (m.s.arr (n : Int)).length = (sizeZ t).toNat := by omega
  rw [hlen] at hb
  have hnl : (n : Int) < (L.ab.length : Int) := by have := (List.getElem?_eq_some_iff.1 hg).1; omega
  have c5 := hm.row.cellv (i := 5) (v := .slice L.aa L.ab.length L.acap) rfl
  rw [had] at c5
  clear hm hL hs hg ht hal hlen hfs had
  generalize (sizeZ t).toNat = sz at *
  have hb' : (i : Int) < (sz : Int) := by omega
  clear hb
  go_enter Try.func51, Try.ntmps51
  go_wp2
  go_ret
  exact ⟨rfl, rfl⟩
/-- Nothing is noted. -/
theorem mNoteNo_any (M : Nat) (v at_ x : Int) (W : World) : Calls Try.prog 52 #[.pointer (some ⟨M, 0, none⟩), .pointer none, .int .i64 v, .int .i64 at_, .int .i64 x] W fun e W' => (∃ u, e = .returned u) ∧ W = W' := by
  go_enter Try.func52, Try.ntmps52
  go_wp2
  go_end0
  exact ⟨⟨_, rfl⟩, rfl⟩
theorem info_ev : (Try.prog.info? 41).map (fun i => (i.zero, i.size, i.bytes)) = some (some (.agg #[.int .i64 0, .int .i64 0, .int .i64 0]), 3, 24) := by kernel_rfl
theorem evcells_one1 (e : EvV) : ∀ u ∈ e.cells, u.oneCell' = true := by
  intro u hu
  simp only [EvV.cells, List.mem_cons, List.not_mem_nil, or_false] at hu
  rcases hu with rfl | rfl | rfl <;> rfl
theorem putL_one (cur : Array Value) (k : Nat) (u : Value) (hk : k < cur.size) : putL cur k [u] = cur.setIfInBounds k u := by
  unfold putL
  apply Array.toList_inj.1
  simp only [List.length_singleton, Array.toList_setIfInBounds]
  rw [List.set_eq_take_append_cons_drop, if_pos (by simpa using hk)]; simp
set_option maxRecDepth 100000 in
set_option maxHeartbeats 4000000 in
/-- A value is stored, and noted: given what the store does. -/
theorem mNote_any (L : Lay) (hL : LOk L) (s1 s2 : Ms) (fs : List FrV) (sv ev : Value) (g k : Nat) (cur : Array Value) (v at_ x : Int) (W : World) (hg : Row W g 3 cur) (hk : k < cur.size)
    (hst : ∀ W1, Only g W W1 → Row W1 g 3 (cur.setIfInBounds k (.int .i64 x)) → MR L s1 fs sv ev W1 ∧ Chg L W W1)
    (h1 : s2.vals = s1.vals) (h2 : s2.arrs = s1.arrs) (h3 : s2.steps = s1.steps) (h4 : s2.fuel = s1.fuel) (h5 : s2.evs = s1.evs ++ [⟨v, at_, x⟩]) (h6 : s1.evs.length + fs.length < s1.steps) (h7 : s2.out = s1.out) :
    Calls Try.prog 52 #[.pointer (some ⟨L.M, 0, none⟩), .pointer (some ⟨g, k, none⟩), .int .i64 v, .int .i64 at_, .int .i64 x] W fun e W' => (∃ u, e = .returned u) ∧ (∃ sv ev, MR L s2 fs sv ev W') ∧ Chg L W W' := by
  obtain ⟨i0, hi0, hz0, hz1, hz2⟩ := info_parts info_ev
  have Hst := Lib.hid hst
  have HL := Lib.hid hL
  have Hg := Lib.hid hg
  have Hput := Lib.hid (putL_one cur k (.int .i64 x) hk)
  have H1 := Lib.hid h1
  have H2 := Lib.hid h2
  have H3 := Lib.hid h3
  have H4 := Lib.hid h4
  have H5 := Lib.hid h5
  have H7 := Lib.hid h7
  have hF := hL.F
  clear hst hL hg h1 h2 h3 h4 h5 h7
  go_enter Try.func52, Try.ntmps52
  go_wp2_with (refine at_store _ _ _ rfl ?_)
  refine Stop.to ?_
  refine wpList_store_part rfl 3 _ _ rfl g k rfl _ rfl [.int .i64 x] rfl 3 _ _ Hg.out (by kernel_rfl) (by simp; omega) (by simp [Value.oneCell']) Hput.out ?_
  intro W1 r1 o1
  obtain ⟨hm1, g1⟩ := Hst.out W1 o1 r1
  have Hm1 := Lib.hid hm1
  have G1 := Lib.hid g1
  have c11 := hm1.row.cellv (i := 11) (v := ev) rfl
  have hsum := hm1.core.sum
  have hb1 := hm1.core.size
  have hel : s1.evs.length ≤ 20001 := by omega
  have ha := hm1.core.evs.alloc (.cells (EvV.cells ⟨v, at_, x⟩).toArray 41)
  have HA := Lib.hid ha
  clear hm1 g1 r1 o1 ha hsum Hst Hg Hput hk
  go_wp2_with (at_builtin; refine wpList_append_own_at _ rfl (.tmp 20) (.tmp 25) 30 rfl L.b1 41 i0 _ 3 24 Try.underlying30 hi0 hz0 hz1 hz2 rfl (by decide) ev s1.evs.length (s1.evs.flatMap EvV.cells) rfl HA.out ⟨W1.heap.size, 0, none⟩ 1 1 (EvV.cells ⟨v, at_, x⟩) rfl rfl (cells_new _ _ _) (evcells_one1 _) (by unfold maxLen; omega) (by omega) (by simp; omega) ?_)
  intro ev' W3 hown hg _ hat
  have b2 : Below W1.heap.size W1 (W1.alloc (.cells (EvV.cells ⟨v, at_, x⟩).toArray 41)) := (Below.refl _ _).alloc (Nat.le_refl _) _
  have hm2 := Hm1.out.below HL.out b2
  have k3 := hm2.core.grownEvs (s' := s2) HL.out hg (by rw [H5.out]; simpa using hown) H1.out H2.out H3.out H4.out (by rw [H5.out, H3.out]; simp; omega)
  have r3 := hm2.row.grown hg (own_ne hm2.core.evs hm2.row (by decide))
  have s3 := own_grown hm2.stack hg (own_apart hm2.stack hm2.core.evs (by decide))
  have g3 := (G1.out.trans (Chg.below (L := L) (b2.mono hb1))).trans (.grown hg (by simp; omega) (fun k e => own_lo HA.out e))
  have hov := own_ov hown
  have K3 := Lib.hid k3
  have R3 := Lib.hid r3
  have S3 := Lib.hid s3
  have G3 := Lib.hid g3
  clear hown hg hat b2 hm2 k3 r3 s3 g3 HA Hm1 G1 c11
  go_wp2_with (refine at_store _ _ _ rfl ?_)
  refine Stop.to ?_
  refine wpList_store_part rfl 30 _ _ rfl L.M 11 rfl _ rfl [ev'] (by cases ev' <;> first | rfl | cases hov) 60 _ (L.cells s2 sv ev') R3.out (by kernel_rfl) (by show 11 + 1 ≤ 14; omega) (by simpa using hov) (by unfold Lay.cells; rw [H3.out, H7.out]; rfl) ?_
  intro W4 r4 o4
  have m4 : MR L s2 fs sv ev' W4 := ⟨r4, own_only S3.out o4 (fun e => by have := own_lo S3.out e; have := HL.out.lt; omega), K3.out.only HL.out o4⟩
  have M4 := Lib.hid m4
  have G4 := Lib.hid (G3.out.trans (.only o4 (.inr (.inl rfl))))
  clear m4 r4 o4 K3 R3 S3 G3
  go_wp2
  go_end0
  exact ⟨⟨_, rfl⟩, ⟨sv, ev', M4.out⟩, G4.out⟩
end Go.Proofs.Ytlglilmgklipdaa
