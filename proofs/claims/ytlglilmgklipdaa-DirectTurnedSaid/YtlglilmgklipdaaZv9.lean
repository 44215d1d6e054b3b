/- Lemmas for DirectTurnedP. -/
import Derived.Test.YtlglilmgklipdaaZv8
namespace Go.Proofs.Ytlglilmgklipdaa
set_option linter.unusedVariables false
open Go.RowKit Go.Deep
theorem rowHas_any (A : Option Addr) (n c : Nat) (i : Int) (w : World) : Calls Try.prog 141 #[.slice A n c, .int .i64 i] w fun e w' => e = .returned (.bool (decide (0 ≤ i ∧ i < (n : Int)))) ∧ w = w' := by
 by_cases h0 : 0 ≤ i
 · by_cases h1 : i < (n : Int)
   · go_enter Try.func141, Try.ntmps141
     go_wp2
     go_ret
     exact ⟨ret_b (by simp; omega), rfl⟩
   · go_enter Try.func141, Try.ntmps141
     go_wp2
     go_ret
     exact ⟨ret_b (by simp; omega), rfl⟩
 · go_enter Try.func141, Try.ntmps141
   go_wp2
   go_ret
   exact ⟨ret_b (by simp; omega), rfl⟩
theorem rowGet_ok (A : Addr) (n c i : Nat) (v : Int) (w : World) (hi : i < n) (hc : w.cell? (A.add i) = some (.int .i64 v)) : Calls Try.prog 140 #[.slice (some A) n c, .int .i64 (i : Int)] w fun e w' => e = .returned (.tuple #[.int .i64 v, .bool true]) ∧ w = w' := by
 have hd : decide (0 ≤ (i : Int) ∧ (i : Int) < (n : Int)) = true := by simp; omega
 have hi' : (i : Int) < (n : Int) := by omega
 go_enter Try.func140, Try.ntmps140
 go_wp2_with fail
 refine (rowHas_any (some A) n c (i : Int) w).mono ?_
 rintro e w' ⟨rfl, rfl⟩
 rw [hd]
 clear hd hi
 go_wp2
 go_ret2
 exact ⟨rfl, rfl⟩
theorem rowGet_no (A : Option Addr) (n c : Nat) (i : Int) (w : World) (hi : i < 0 ∨ (n : Int) ≤ i) : Calls Try.prog 140 #[.slice A n c, .int .i64 i] w fun e w' => e = .returned (.tuple #[.int .i64 0, .bool false]) ∧ w = w' := by
 have hd : decide (0 ≤ i ∧ i < (n : Int)) = false := by simp; omega
 go_enter Try.func140, Try.ntmps140
 go_wp2_with fail
 refine (rowHas_any A n c i w).mono ?_
 rintro e w' ⟨rfl, rfl⟩
 rw [hd]
 clear hd hi
 go_wp2
 go_ret2
 exact ⟨rfl, rfl⟩
theorem rowSet_no (A : Option Addr) (n c : Nat) (i v : Int) (w : World) (hi : i < 0 ∨ (n : Int) ≤ i) : Calls Try.prog 142 #[.slice A n c, .int .i64 i, .int .i64 v] w fun e w' => e = .returned (.bool false) ∧ w = w' := by
 have hd : decide (0 ≤ i ∧ i < (n : Int)) = false := by simp; omega
 go_enter Try.func142, Try.ntmps142
 go_wp2_with fail
 refine (rowHas_any A n c i w).mono ?_
 rintro e w' ⟨rfl, rfl⟩
 rw [hd]
 clear hd hi
 go_wp2
 go_ret
 exact ⟨rfl, rfl⟩
theorem rowSet_ok (g n c i : Nat) (v : Int) (cur : Array Value) (w : World) (hi : i < n) (hn : n ≤ cur.size) (hr : Row w g 3 cur) : Calls Try.prog 142 #[.slice (some ⟨g, 0, none⟩) n c, .int .i64 (i : Int), .int .i64 v] w fun e w' => e = .returned (.bool true) ∧ Only g w w' ∧ Row w' g 3 (cur.setIfInBounds i (.int .i64 v)) := by
 have hd : decide (0 ≤ (i : Int) ∧ (i : Int) < (n : Int)) = true := by simp; omega
 have hi' : (i : Int) < (n : Int) := by omega
 have hput := putL_one cur i (.int .i64 v) (by omega)
 have Hr := Lib.hid hr
 clear hr
 go_enter Try.func142, Try.ntmps142
 go_wp2_with fail
 refine (rowHas_any (some ⟨g, 0, none⟩) n c (i : Int) w).mono ?_
 rintro e w' ⟨rfl, rfl⟩
 rw [hd]
 have Hi := Lib.hid hi
 clear hd hi
 go_wp2_with (refine at_store _ _ _ rfl ?_)
 refine Stop.to ?_
 refine wpList_store_part rfl 3 _ _ rfl g i rfl _ rfl [.int .i64 v] rfl 3 _ _ Hr.out (by kernel_rfl) (by have := Hi.out; simp; omega) (by simp [Value.oneCell']) hput ?_
 intro w1 r1 o1
 go_wp2
 go_ret
 exact ⟨rfl, o1, r1⟩
theorem scalarGet_any (g : Nat) (i v : Int) (w : World) (hc : w.cell? ⟨g, 0, none⟩ = some (.int .i64 v)) : Calls Try.prog 143 #[.agg #[.pointer (some ⟨g, 0, none⟩)], .int .i64 i] w fun e w' => e = .returned (.tuple #[.int .i64 v, .bool true]) ∧ Below w.heap.size w w' := by
 go_enter Try.func143, Try.ntmps143
 go_wp2_with (refine at_box _ _ rfl ?_)
 refine Stop.to ?_
 refine wpList_box_gen rfl 82 _ rfl #[.pointer (some ⟨g, 0, none⟩)] rfl ?_
 intro G w1 hG r1 b1
 have hb := b1.mono hG
 have c0 := r1.cellv (i := 0) (v := .pointer (some ⟨g, 0, none⟩)) rfl
 have hlt := World.block_lt_of_cell? _ _ hc
 have cg : w1.cell? ⟨g, 0, none⟩ = some (.int .i64 v) := (hb.cell hlt).trans hc
 have Hb := Lib.hid hb
 clear r1 b1 hG hc hlt hb
 go_wp2
 go_ret2
 exact ⟨rfl, Hb.out⟩
theorem scalarSet_any (g : Nat) (i v u : Int) (w : World) (hr : Row w g 3 #[.int .i64 u]) : Calls Try.prog 144 #[.agg #[.pointer (some ⟨g, 0, none⟩)], .int .i64 i, .int .i64 v] w fun e w' => e = .returned (.bool true) ∧ ∃ w1, Below w.heap.size w w1 ∧ Only g w1 w' ∧ Row w' g 3 #[.int .i64 v] := by
 have Hr := Lib.hid hr
 clear hr
 go_enter Try.func144, Try.ntmps144
 go_wp2_with (refine at_box _ _ rfl ?_)
 refine Stop.to ?_
 refine wpList_box_gen rfl 82 _ rfl #[.pointer (some ⟨g, 0, none⟩)] rfl ?_
 intro G w1 hG r1 b1
 have hb := b1.mono hG
 have c0 := r1.cellv (i := 0) (v := .pointer (some ⟨g, 0, none⟩)) rfl
 have Hg := Lib.hid (Hr.out.below hb Hr.out.lt)
 have Hb := Lib.hid hb
 clear r1 b1 hG hb
 go_wp2_with (refine at_store _ _ _ rfl ?_)
 refine Stop.to ?_
 refine wpList_store_part rfl 3 _ _ rfl g 0 rfl _ rfl [.int .i64 v] rfl 3 _ #[.int .i64 v] Hg.out (by kernel_rfl) (by simp) (by simp [Value.oneCell']) rfl ?_
 intro w2 r2 o2
 clear c0
 go_wp2
 go_ret
 exact ⟨rfl, w1, Hb.out, o2, r2⟩
section
variable {g n c : Nat}
theorem meth_rg (f : Nat) (w : World) : (method (f + 1) 77 (.slice (some ⟨g, 0, none⟩) n c) "offshoot/direct.get").run Try.prog w = .ok (140, .slice (some ⟨g, 0, none⟩) n c) w := by kernel_rfl
theorem meth_rs (f : Nat) (w : World) : (method (f + 1) 77 (.slice (some ⟨g, 0, none⟩) n c) "offshoot/direct.set").run Try.prog w = .ok (142, .slice (some ⟨g, 0, none⟩) n c) w := by kernel_rfl
theorem meth_sg (f : Nat) (w : World) : (method (f + 1) 82 (.agg #[.pointer (some ⟨g, 0, none⟩)]) "offshoot/direct.get").run Try.prog w = .ok (143, .agg #[.pointer (some ⟨g, 0, none⟩)]) w := by kernel_rfl
theorem meth_ss (f : Nat) (w : World) : (method (f + 1) 82 (.agg #[.pointer (some ⟨g, 0, none⟩)]) "offshoot/direct.set").run Try.prog w = .ok (144, .agg #[.pointer (some ⟨g, 0, none⟩)]) w := by kernel_rfl
end
set_option maxRecDepth 100000 in
set_option maxHeartbeats 4000000 in
theorem dLoadS (L : Lay) (hL : DOk L) (s : Ms) (ev : Value) (n : Nat) (t at_ v : Int) (W : World) (h : DR L s ev W) (ht : L.p.V[n]? = some t) (h0 : sizeZ t = 0) (hv : s.vals[n]? = some v) : Calls Try.prog 98 #[.pointer (some ⟨L.M, 0, none⟩), .int .i64 (n : Int), .int .i64 at_] W fun e W' => e = .returned (.int .i64 v) ∧ Below W.heap.size W W' := by
 obtain ⟨g, hg⟩ : ∃ g, L.ab[n]? = some g := ⟨_, List.getElem?_eq_getElem (by rw [hL.alen]; exact (List.getElem?_eq_some_iff.1 ht).1)⟩
 obtain ⟨ad, had, hcell⟩ := hL.cells W h.im n g t hg ht
 have hrow := h.rows n g t hg ht
 have c1 := h.row.cellv (i := 1) (v := .slice L.aa L.ab.length L.acap) rfl
 rw [had] at c1
 have hnl : (n : Int) < (L.ab.length : Int) := by have := (List.getElem?_eq_some_iff.1 hg).1; omega
 rw [show s.cont n t = [v] by unfold Ms.cont; rw [if_pos h0, hv]; rfl] at hrow
 rw [show cellV t g = .iface 82 (.agg #[.pointer (some ⟨g, 0, none⟩)]) by unfold cellV; rw [if_pos h0]] at hcell
 have cg := hrow.cellv (i := 0) (v := .int .i64 v) rfl
 have gm := meth_sg (g := g)
 clear h hL hg ht had hrow h0 hv
 go_enter Try.func98, Try.ntmps98
 go_wp2_with fail
 refine (scalarGet_any g at_ v W cg).mono ?_
 rintro e w1 ⟨rfl, b1⟩
 clear c1 hcell cg gm
 go_wp2
 go_ret
 exact ⟨rfl, b1⟩
set_option maxRecDepth 100000 in
set_option maxHeartbeats 4000000 in
theorem dLoadR (L : Lay) (hL : DOk L) (s : Ms) (ev : Value) (n : Nat) (t i v : Int) (W : World) (h : DR L s ev W) (ht : L.p.V[n]? = some t) (h0 : sizeZ t ≠ 0) (hs : LenS L.p.V s) (hi : ¬ (i < 0 ∨ ((s.arr (n : Int)).length : Int) ≤ i)) (hv : (s.arr (n : Int))[i.toNat]? = some v) : Calls Try.prog 98 #[.pointer (some ⟨L.M, 0, none⟩), .int .i64 (n : Int), .int .i64 i] W fun e W' => e = .returned (.int .i64 v) ∧ Below W.heap.size W W' := by
 obtain ⟨k, rfl⟩ : ∃ k : Nat, i = (k : Int) := ⟨i.toNat, by omega⟩
 obtain ⟨g, hg⟩ : ∃ g, L.ab[n]? = some g := ⟨_, List.getElem?_eq_getElem (by rw [hL.alen]; exact (List.getElem?_eq_some_iff.1 ht).1)⟩
 obtain ⟨ad, had, hcell⟩ := hL.cells W h.im n g t hg ht
 have hrow := h.rows n g t hg ht
 have c1 := h.row.cellv (i := 1) (v := .slice L.aa L.ab.length L.acap) rfl
 rw [had] at c1
 have hnl : (n : Int) < (L.ab.length : Int) := by have := (List.getElem?_eq_some_iff.1 hg).1; omega
 have hal := hs.arr_len (n := (n : Int)) (t := t) (by rw [Int.toNat_natCast]; exact ht)
 have hsz : (sizeZ t).toNat = (s.arr (n : Int)).length := by omega
 rw [show s.cont n t = s.arr (n : Int) by unfold Ms.cont Ms.arr; rw [if_neg h0, Int.toNat_natCast]] at hrow
 rw [show cellV t g = .iface 77 (.slice (some ⟨g, 0, none⟩) (s.arr (n : Int)).length (s.arr (n : Int)).length) by unfold cellV; rw [if_neg h0, hsz]] at hcell
 rw [Int.toNat_natCast] at hv
 have hkl : k < (s.arr (n : Int)).length := (List.getElem?_eq_some_iff.1 hv).1
 have cg : W.cell? ((⟨g, 0, none⟩ : Addr).add k) = some (.int .i64 v) := by
  have := hrow.cellv (i := k) (v := .int .i64 v) (by simp [ints, hv])
  unfold Addr.add
  by_cases h0 : k = 0
  · subst h0; exact this
  · rw [if_neg h0]; simpa using this
 have gm := meth_rg (g := g) (n := (s.arr (n : Int)).length) (c := (s.arr (n : Int)).length)
 generalize (s.arr (n : Int)).length = m at *
 clear h hL hg ht had hrow h0 hv hs hal hsz hi
 go_enter Try.func98, Try.ntmps98
 go_wp2_with fail
 refine (rowGet_ok ⟨g, 0, none⟩ m m k v W hkl cg).mono ?_
 rintro e w1 ⟨rfl, rfl⟩
 clear c1 hcell cg gm hkl
 go_wp2
 go_ret
 exact ⟨rfl, Below.refl _ _⟩
set_option maxRecDepth 100000 in
set_option maxHeartbeats 4000000 in
theorem dLoadNo (L : Lay) (hL : DOk L) (s : Ms) (ev : Value) (n : Nat) (t i : Int) (W : World) (h : DR L s ev W) (ht : L.p.V[n]? = some t) (h0 : sizeZ t ≠ 0) (hs : LenS L.p.V s) (hi : i < 0 ∨ ((s.arr (n : Int)).length : Int) ≤ i) : Calls Try.prog 98 #[.pointer (some ⟨L.M, 0, none⟩), .int .i64 (n : Int), .int .i64 i] W fun e W' => e = thrown 2 0 ∧ Below W.heap.size W W' := by
 obtain ⟨g, hg⟩ : ∃ g, L.ab[n]? = some g := ⟨_, List.getElem?_eq_getElem (by rw [hL.alen]; exact (List.getElem?_eq_some_iff.1 ht).1)⟩
 obtain ⟨ad, had, hcell⟩ := hL.cells W h.im n g t hg ht
 have hrow := h.rows n g t hg ht
 have c1 := h.row.cellv (i := 1) (v := .slice L.aa L.ab.length L.acap) rfl
 rw [had] at c1
 have hnl : (n : Int) < (L.ab.length : Int) := by have := (List.getElem?_eq_some_iff.1 hg).1; omega
 have hal := hs.arr_len (n := (n : Int)) (t := t) (by rw [Int.toNat_natCast]; exact ht)
 have hsz : (sizeZ t).toNat = (s.arr (n : Int)).length := by omega
 rw [show cellV t g = .iface 77 (.slice (some ⟨g, 0, none⟩) (s.arr (n : Int)).length (s.arr (n : Int)).length) by unfold cellV; rw [if_neg h0, hsz]] at hcell
 have gm := meth_rg (g := g) (n := (s.arr (n : Int)).length) (c := (s.arr (n : Int)).length)
 generalize (s.arr (n : Int)).length = m at *
 clear h hL hg ht had hrow h0 hs hal hsz
 have Hi := Lib.hid hi
 clear hi
 go_enter Try.func98, Try.ntmps98
 go_wp2_with fail
 refine (rowGet_no (some ⟨g, 0, none⟩) m m i W Hi.out).mono ?_
 rintro e w1 ⟨rfl, rfl⟩
 clear c1 hcell gm
 go_wp2_with fail
 refine (end_dir _ _ _).mono ?_
 rintro e w' ⟨rfl, rfl⟩
 simp only [thrown]
 go_wp2
 exact ⟨rfl, rfl, Below.refl _ _⟩
set_option maxRecDepth 100000 in
set_option maxHeartbeats 4000000 in
theorem dStoreNo (L : Lay) (hL : DOk L) (s : Ms) (ev : Value) (n : Nat) (t i v : Int) (W : World) (h : DR L s ev W) (ht : L.p.V[n]? = some t) (h0 : sizeZ t ≠ 0) (hs : LenS L.p.V s) (hi : i < 0 ∨ ((s.arr (n : Int)).length : Int) ≤ i) : Calls Try.prog 114 #[.pointer (some ⟨L.M, 0, none⟩), .int .i64 (n : Int), .int .i64 i, .int .i64 v] W fun e W' => e = thrown 2 0 ∧ Below W.heap.size W W' := by
 obtain ⟨g, hg⟩ : ∃ g, L.ab[n]? = some g := ⟨_, List.getElem?_eq_getElem (by rw [hL.alen]; exact (List.getElem?_eq_some_iff.1 ht).1)⟩
 obtain ⟨ad, had, hcell⟩ := hL.cells W h.im n g t hg ht
 have hrow := h.rows n g t hg ht
 have c1 := h.row.cellv (i := 1) (v := .slice L.aa L.ab.length L.acap) rfl
 rw [had] at c1
 have hnl : (n : Int) < (L.ab.length : Int) := by have := (List.getElem?_eq_some_iff.1 hg).1; omega
 have hal := hs.arr_len (n := (n : Int)) (t := t) (by rw [Int.toNat_natCast]; exact ht)
 have hsz : (sizeZ t).toNat = (s.arr (n : Int)).length := by omega
 rw [show cellV t g = .iface 77 (.slice (some ⟨g, 0, none⟩) (s.arr (n : Int)).length (s.arr (n : Int)).length) by unfold cellV; rw [if_neg h0, hsz]] at hcell
 have gm := meth_rs (g := g) (n := (s.arr (n : Int)).length) (c := (s.arr (n : Int)).length)
 generalize (s.arr (n : Int)).length = m at *
 clear h hL hg ht had hrow h0 hs hal hsz
 have Hi := Lib.hid hi
 clear hi
 go_enter Try.func114, Try.ntmps114
 go_wp2_with fail
 refine (rowSet_no (some ⟨g, 0, none⟩) m m i v W Hi.out).mono ?_
 rintro e w1 ⟨rfl, rfl⟩
 clear c1 hcell gm
 go_wp2_with fail
 refine (end_dir _ _ _).mono ?_
 rintro e w' ⟨rfl, rfl⟩
 simp only [thrown]
 go_wp2
 exact ⟨rfl, rfl, Below.refl _ _⟩
set_option maxRecDepth 100000 in
set_option maxHeartbeats 8000000 in
theorem dStoreG1 (L : Lay) (hL : DOk L) (s s2 s3 : Ms) (ev : Value) (n : Nat) (t at_ x : Int) (g : Nat) (W : World) (h : DR L s ev W) (ad : Addr) (had : L.aa = some ad) (hnl : (n : Int) < (L.ab.length : Int)) (hcell : W.cell? (ad.add n) = some (.iface 82 (.agg #[.pointer (some ⟨g, 0, none⟩)])))
 (gm : ∀ (f : Nat) (w : World), (method (f + 1) 82 (.agg #[.pointer (some ⟨g, 0, none⟩)]) "offshoot/direct.set").run Try.prog w = .ok (144, .agg #[.pointer (some ⟨g, 0, none⟩)]) w)
 (hset : Calls Try.prog 144 #[.agg #[.pointer (some ⟨g, 0, none⟩)], .int .i64 at_, .int .i64 x] W fun e w1 => e = .returned (.bool true) ∧ DR L s2 ev w1 ∧ RChg L ev W ev w1)
 (h1 : s3.vals = s2.vals) (h2 : s3.arrs = s2.arrs) (h3 : s3.steps = s2.steps) (h4 : s3.fuel = s2.fuel) (h5 : s3.evs = s2.evs ++ [⟨(n : Int), at_, x⟩]) (h6 : s2.evs.length < s2.steps) :
 Calls Try.prog 114 #[.pointer (some ⟨L.M, 0, none⟩), .int .i64 (n : Int), .int .i64 at_, .int .i64 x] W fun e W' => (∃ u, e = .returned u) ∧ ∃ ev', DR L s3 ev' W' ∧ RChg L ev W ev' W' := by
 have c1 := h.row.cellv (i := 1) (v := .slice L.aa L.ab.length L.acap) rfl
 rw [had] at c1
 obtain ⟨i0, hi0, hz0, hz1, hz2⟩ := info_parts info_ev
 have HL := Lib.hid hL
 have Hset := Lib.hid hset
 have H1 := Lib.hid h1
 have H2 := Lib.hid h2
 have H3 := Lib.hid h3
 have H4 := Lib.hid h4
 have H5 := Lib.hid h5
 have hF := hL.F
 clear h hL had hset h1 h2 h3 h4 h5
 go_enter Try.func114, Try.ntmps114
 go_wp2_with fail
 refine Hset.out.mono ?_
 rintro e w1 ⟨rfl, hm1, hg1⟩
 clear c1 hcell gm
 have c6 := hm1.row.cellv (i := 6) (v := ev) rfl
 have hsum := hm1.sum
 have hb1 := hm1.size
 have hel : s2.evs.length ≤ 20001 := by omega
 have ha := hm1.evs.alloc (.cells (EvV.cells ⟨(n : Int), at_, x⟩).toArray 41)
 have HA := Lib.hid ha
 have Hm1 := Lib.hid hm1
 have Hg1 := Lib.hid hg1
 clear hm1 hg1 ha hsum
 go_wp2_with (at_builtin; refine wpList_append_own_at _ rfl (.tmp 25) (.tmp 30) 30 rfl L.b1 41 i0 _ 3 24 Try.underlying30 hi0 hz0 hz1 hz2 rfl (by decide) ev s2.evs.length (s2.evs.flatMap EvV.cells) rfl HA.out ⟨w1.heap.size, 0, none⟩ 1 1 (EvV.cells ⟨(n : Int), at_, x⟩) rfl rfl (cells_new _ _ _) (evcells_one1 _) (by unfold maxLen; omega) (by omega) (by simp; omega) ?_)
 intro ev' W3 hown hgr _ hat
 have b2 : Below w1.heap.size w1 (w1.alloc (.cells (EvV.cells ⟨(n : Int), at_, x⟩).toArray 41)) := (Below.refl _ _).alloc (Nat.le_refl _) _
 have hm2 := Hm1.out.below HL.out b2
 have r3 := hm2.row.grown hgr (own_ne hm2.evs hm2.row (by decide))
 have g3 : RChg L ev w1 ev' W3 := (RChg.below b2).trans (.grown hgr (fun k e => by
  rcases hat with h | h
  · exact .inl (h ▸ e)
  · rw [h] at e; injection e with e; exact .inr (by simp only [World.alloc, Array.size_push] at *; omega)))
 have rows3 : ∀ (i g : Nat) (t : Int), L.ab[i]? = some g → L.p.V[i]? = some t → Row W3 g 3 (ints (s3.cont i t)).toArray := fun i g t h1 h2 => by
  have := (hm2.rows i g t h1 h2).grown hgr (own_ne hm2.evs (hm2.rows i g t h1 h2) (by decide))
  unfold Ms.cont at this ⊢
  rw [H1.out, H2.out]; exact this
 have im3 := HL.out.im _ _ hm2.im (.grown hgr hm2.size (fun k e => own_lo hm2.evs e))
 have sz3 : L.b1 ≤ W3.heap.size := Nat.le_trans hm2.size hgr.size
 have hov := own_ov hown
 have R3 := Lib.hid r3
 have G3 := Lib.hid g3
 have Rows3 := Lib.hid rows3
 have Own3 := Lib.hid hown
 have Im3 := Lib.hid im3
 have Sz3 := Lib.hid sz3
 have Hsum := Lib.hid Hm1.out.sum
 clear hown hgr hat b2 hm2 r3 g3 HA Hm1 c6 rows3 im3 sz3
 go_wp2_with (refine at_store _ _ _ rfl ?_)
 refine Stop.to ?_
 refine wpList_store_part rfl 30 _ _ rfl L.M 6 rfl _ rfl [ev'] (by cases ev' <;> first | rfl | cases hov) 76 _ (L.dcells s3 ev') R3.out (by kernel_rfl) (by show 6 + 1 ≤ 7; omega) (by simpa using hov) (by unfold Lay.dcells; rw [H3.out]; rfl) ?_
 intro W4 r4 o4
 have m4 : DR L s3 ev' W4 := ⟨r4, by have := own_only Own3.out o4 (fun e => by have := own_lo Own3.out e; have := HL.out.lt; omega); rw [H5.out]; simpa using this,
  fun i g t h1 h2 => (Rows3.out i g t h1 h2).only o4 (HL.out.alt g (List.mem_of_getElem? h1)).2,
  HL.out.im _ _ Im3.out (.only o4 (.inr (.inl rfl))), by rw [o4.size]; exact Sz3.out, by rw [H3.out, H4.out]; exact Hsum.out, by rw [H5.out, H3.out]; simp; omega⟩
 have M4 := Lib.hid m4
 have G4 := Lib.hid (Hg1.out.trans (G3.out.trans (RChg.only o4 (.inl rfl))))
 clear m4 r4 o4 R3 G3 Rows3 Own3 Im3 Hsum Sz3
 go_wp2
 go_end0
 exact ⟨⟨_, rfl⟩, ev', M4.out, G4.out⟩
set_option maxRecDepth 100000 in
set_option maxHeartbeats 8000000 in
theorem dStoreG2 (L : Lay) (hL : DOk L) (s s2 s3 : Ms) (ev : Value) (n : Nat) (t at_ x : Int) (g m : Nat) (W : World) (h : DR L s ev W) (ad : Addr) (had : L.aa = some ad) (hnl : (n : Int) < (L.ab.length : Int)) (hcell : W.cell? (ad.add n) = some (.iface 77 (.slice (some ⟨g, 0, none⟩) m m)))
 (gm : ∀ (f : Nat) (w : World), (method (f + 1) 77 (.slice (some ⟨g, 0, none⟩) m m) "offshoot/direct.set").run Try.prog w = .ok (142, .slice (some ⟨g, 0, none⟩) m m) w)
 (hset : Calls Try.prog 142 #[.slice (some ⟨g, 0, none⟩) m m, .int .i64 at_, .int .i64 x] W fun e w1 => e = .returned (.bool true) ∧ DR L s2 ev w1 ∧ RChg L ev W ev w1)
 (h1 : s3.vals = s2.vals) (h2 : s3.arrs = s2.arrs) (h3 : s3.steps = s2.steps) (h4 : s3.fuel = s2.fuel) (h5 : s3.evs = s2.evs ++ [⟨(n : Int), at_, x⟩]) (h6 : s2.evs.length < s2.steps) :
 Calls Try.prog 114 #[.pointer (some ⟨L.M, 0, none⟩), .int .i64 (n : Int), .int .i64 at_, .int .i64 x] W fun e W' => (∃ u, e = .returned u) ∧ ∃ ev', DR L s3 ev' W' ∧ RChg L ev W ev' W' := by
 have c1 := h.row.cellv (i := 1) (v := .slice L.aa L.ab.length L.acap) rfl
 rw [had] at c1
 obtain ⟨i0, hi0, hz0, hz1, hz2⟩ := info_parts info_ev
 have HL := Lib.hid hL
 have Hset := Lib.hid hset
 have H1 := Lib.hid h1
 have H2 := Lib.hid h2
 have H3 := Lib.hid h3
 have H4 := Lib.hid h4
 have H5 := Lib.hid h5
 have hF := hL.F
 clear h hL had hset h1 h2 h3 h4 h5
 go_enter Try.func114, Try.ntmps114
 go_wp2_with fail
 refine Hset.out.mono ?_
 rintro e w1 ⟨rfl, hm1, hg1⟩
 clear c1 hcell gm
 have c6 := hm1.row.cellv (i := 6) (v := ev) rfl
 have hsum := hm1.sum
 have hb1 := hm1.size
 have hel : s2.evs.length ≤ 20001 := by omega
 have ha := hm1.evs.alloc (.cells (EvV.cells ⟨(n : Int), at_, x⟩).toArray 41)
 have HA := Lib.hid ha
 have Hm1 := Lib.hid hm1
 have Hg1 := Lib.hid hg1
 clear hm1 hg1 ha hsum
 go_wp2_with (at_builtin; refine wpList_append_own_at _ rfl (.tmp 25) (.tmp 30) 30 rfl L.b1 41 i0 _ 3 24 Try.underlying30 hi0 hz0 hz1 hz2 rfl (by decide) ev s2.evs.length (s2.evs.flatMap EvV.cells) rfl HA.out ⟨w1.heap.size, 0, none⟩ 1 1 (EvV.cells ⟨(n : Int), at_, x⟩) rfl rfl (cells_new _ _ _) (evcells_one1 _) (by unfold maxLen; omega) (by omega) (by simp; omega) ?_)
 intro ev' W3 hown hgr _ hat
 have b2 : Below w1.heap.size w1 (w1.alloc (.cells (EvV.cells ⟨(n : Int), at_, x⟩).toArray 41)) := (Below.refl _ _).alloc (Nat.le_refl _) _
 have hm2 := Hm1.out.below HL.out b2
 have r3 := hm2.row.grown hgr (own_ne hm2.evs hm2.row (by decide))
 have g3 : RChg L ev w1 ev' W3 := (RChg.below b2).trans (.grown hgr (fun k e => by
  rcases hat with h | h
  · exact .inl (h ▸ e)
  · rw [h] at e; injection e with e; exact .inr (by simp only [World.alloc, Array.size_push] at *; omega)))
 have rows3 : ∀ (i g : Nat) (t : Int), L.ab[i]? = some g → L.p.V[i]? = some t → Row W3 g 3 (ints (s3.cont i t)).toArray := fun i g t h1 h2 => by
  have := (hm2.rows i g t h1 h2).grown hgr (own_ne hm2.evs (hm2.rows i g t h1 h2) (by decide))
  unfold Ms.cont at this ⊢
  rw [H1.out, H2.out]; exact this
 have im3 := HL.out.im _ _ hm2.im (.grown hgr hm2.size (fun k e => own_lo hm2.evs e))
 have sz3 : L.b1 ≤ W3.heap.size := Nat.le_trans hm2.size hgr.size
 have hov := own_ov hown
 have R3 := Lib.hid r3
 have G3 := Lib.hid g3
 have Rows3 := Lib.hid rows3
 have Own3 := Lib.hid hown
 have Im3 := Lib.hid im3
 have Sz3 := Lib.hid sz3
 have Hsum := Lib.hid Hm1.out.sum
 clear hown hgr hat b2 hm2 r3 g3 HA Hm1 c6 rows3 im3 sz3
 go_wp2_with (refine at_store _ _ _ rfl ?_)
 refine Stop.to ?_
 refine wpList_store_part rfl 30 _ _ rfl L.M 6 rfl _ rfl [ev'] (by cases ev' <;> first | rfl | cases hov) 76 _ (L.dcells s3 ev') R3.out (by kernel_rfl) (by show 6 + 1 ≤ 7; omega) (by simpa using hov) (by unfold Lay.dcells; rw [H3.out]; rfl) ?_
 intro W4 r4 o4
 have m4 : DR L s3 ev' W4 := ⟨r4, by have := own_only Own3.out o4 (fun e => by have := own_lo Own3.out e; have := HL.out.lt; omega); rw [H5.out]; simpa using this,
  fun i g t h1 h2 => (Rows3.out i g t h1 h2).only o4 (HL.out.alt g (List.mem_of_getElem? h1)).2,
  HL.out.im _ _ Im3.out (.only o4 (.inr (.inl rfl))), by rw [o4.size]; exact Sz3.out, by rw [H3.out, H4.out]; exact Hsum.out, by rw [H5.out, H3.out]; simp; omega⟩
 have M4 := Lib.hid m4
 have G4 := Lib.hid (Hg1.out.trans (G3.out.trans (RChg.only o4 (.inl rfl))))
 clear m4 r4 o4 R3 G3 Rows3 Own3 Im3 Hsum Sz3
 go_wp2
 go_end0
 exact ⟨⟨_, rfl⟩, ev', M4.out, G4.out⟩
theorem dStoreS (L : Lay) (hL : DOk L) (s : Ms) (ev : Value) (n : Nat) (t x u : Int) (W : World) (h : DR L s ev W) (ht : L.p.V[n]? = some t) (h0 : sizeZ t = 0) (hv : s.vals[n]? = some u) (hf : s.evs.length < s.steps) : Calls Try.prog 114 #[.pointer (some ⟨L.M, 0, none⟩), .int .i64 (n : Int), .int .i64 (-1), .int .i64 x] W fun e W' => (∃ u, e = .returned u) ∧ ∃ ev', DR L (s.setv (n : Int) x) ev' W' ∧ RChg L ev W ev' W' := by
 obtain ⟨g, hg⟩ : ∃ g, L.ab[n]? = some g := ⟨_, List.getElem?_eq_getElem (by rw [hL.alen]; exact (List.getElem?_eq_some_iff.1 ht).1)⟩
 obtain ⟨ad, had, hcell⟩ := hL.cells W h.im n g t hg ht
 have hrow := h.rows n g t hg ht
 have c1 := h.row.cellv (i := 1) (v := .slice L.aa L.ab.length L.acap) rfl
 rw [had] at c1
 have hnl : (n : Int) < (L.ab.length : Int) := by have := (List.getElem?_eq_some_iff.1 hg).1; omega
 rw [show s.cont n t = [u] by unfold Ms.cont; rw [if_pos h0, hv]; rfl] at hrow
 rw [show cellV t g = .iface 82 (.agg #[.pointer (some ⟨g, 0, none⟩)]) by unfold cellV; rw [if_pos h0]] at hcell
 have hnl2 : n < s.vals.length := (List.getElem?_eq_some_iff.1 hv).1
 refine dStoreG1 L hL s { s with vals := s.vals.set n x } (s.setv (n : Int) x) ev n t (-1) x g W h ad had hnl hcell (fun f w => meth_ss (g := g) f w) ?_ (by simp [Ms.setv]) rfl rfl rfl rfl hf
 refine (scalarSet_any g (-1) x u W hrow).mono ?_
 rintro e w1 ⟨rfl, w0, b0, o1, r1⟩
 exact ⟨rfl, (h.below hL b0).setB hL hg ht o1 (by unfold Ms.cont; rw [if_pos h0]; simp only [List.getElem?_set_self hnl2]; exact r1) (fun i hi => ⟨by simp [Ne.symm hi], rfl⟩) rfl rfl rfl, (RChg.below b0 : RChg L ev W ev w0).trans (RChg.onlyB o1 (List.mem_of_getElem? hg))⟩
theorem dStoreR (L : Lay) (hL : DOk L) (s : Ms) (ev : Value) (n : Nat) (t i x : Int) (W : World) (h : DR L s ev W) (ht : L.p.V[n]? = some t) (h0 : sizeZ t ≠ 0) (hs : LenS L.p.V s) (hi : ¬ (i < 0 ∨ ((s.arr (n : Int)).length : Int) ≤ i)) (hf : s.evs.length < s.steps) : Calls Try.prog 114 #[.pointer (some ⟨L.M, 0, none⟩), .int .i64 (n : Int), .int .i64 i, .int .i64 x] W fun e W' => (∃ u, e = .returned u) ∧ ∃ ev', DR L (s.seta (n : Int) i x) ev' W' ∧ RChg L ev W ev' W' := by
 obtain ⟨k, rfl⟩ : ∃ k : Nat, i = (k : Int) := ⟨i.toNat, by omega⟩
 obtain ⟨g, hg⟩ : ∃ g, L.ab[n]? = some g := ⟨_, List.getElem?_eq_getElem (by rw [hL.alen]; exact (List.getElem?_eq_some_iff.1 ht).1)⟩
 obtain ⟨ad, had, hcell⟩ := hL.cells W h.im n g t hg ht
 have hrow := h.rows n g t hg ht
 have c1 := h.row.cellv (i := 1) (v := .slice L.aa L.ab.length L.acap) rfl
 rw [had] at c1
 have hnl : (n : Int) < (L.ab.length : Int) := by have := (List.getElem?_eq_some_iff.1 hg).1; omega
 have hal := hs.arr_len (n := (n : Int)) (t := t) (by rw [Int.toNat_natCast]; exact ht)
 have hsz : (sizeZ t).toNat = (s.arr (n : Int)).length := by omega
 have hnl2 : n < s.arrs.length := by rw [hs.alen]; exact (List.getElem?_eq_some_iff.1 ht).1
 rw [show s.cont n t = s.arr (n : Int) by unfold Ms.cont Ms.arr; rw [if_neg h0, Int.toNat_natCast]] at hrow
 rw [show cellV t g = .iface 77 (.slice (some ⟨g, 0, none⟩) (s.arr (n : Int)).length (s.arr (n : Int)).length) by unfold cellV; rw [if_neg h0, hsz]] at hcell
 refine dStoreG2 L hL s { s with arrs := s.arrs.set n ((s.arr (n : Int)).set k x) } (s.seta (n : Int) (k : Int) x) ev n t (k : Int) x g _ W h ad had hnl hcell (fun f w => meth_rs (g := g) f w) ?_ rfl (by simp [Ms.seta]) rfl rfl rfl hf
 refine (rowSet_ok g _ _ k x _ W (by omega) (by simp [ints]) hrow).mono ?_
 rintro e w1 ⟨rfl, o1, r1⟩
 refine ⟨rfl, h.setB hL hg ht o1 ?_ (fun i hi => ⟨rfl, by simp [Ne.symm hi]⟩) rfl rfl rfl, RChg.onlyB o1 (List.mem_of_getElem? hg)⟩
 unfold Ms.cont
 rw [if_neg h0]
 simp only [List.getElem?_set_self hnl2, Option.getD_some]
 have : (ints ((s.arr (n : Int)).set k x)).toArray = (ints (s.arr (n : Int))).toArray.setIfInBounds k (.int .i64 x) := by simp [ints, List.map_set]
 rw [this]; exact r1
end Go.Proofs.Ytlglilmgklipdaa
namespace Go.Proofs.Ytlglilmgklipdaa
set_option linter.unusedVariables false
open Go.RowKit Go.Deep
def endD (v : Int) (s : Ms) : Ending := match s.out with | none => .returned (.int .i64 v) | some o => thrown o.1 o.2
theorem endD_none {v : Int} {s : Ms} (h : s.out = none) : endD v s = .returned (.int .i64 v) := by unfold endD; rw [h]
theorem endD_some {v k x : Int} {s : Ms} (h : s.out = some (k, x)) : endD v s = thrown k x := by unfold endD; rw [h]
def EntD (L : Lay) (t : Tr) (s : Ms) (v : Int) (s' : Ms) : Prop := ∀ (q : Nat) (ev : Value) (W : World), At L.p.body q t → DR L s ev W →
 Calls Try.prog 64 #[.pointer (some ⟨L.M, 0, none⟩), .int .i64 (q : Int)] W fun e W' => e = endD v s' ∧ ∃ ev', DR L s' ev' W' ∧ RChg L ev W ev' W'
def ChainD (L : Lay) : List Tr → Ms → List Int → Ms → Prop
 | [], s, vs, s' => vs = [] ∧ s' = s
 | t :: ts, s, vs, s' => ∃ v s1, EntD L t s v s1 ∧ ((s1.out.isSome = true ∧ s' = s1) ∨ (s1.out = none ∧ ∃ vs', vs = v :: vs' ∧ ChainD L ts s1 vs' s'))
def FOwn (L : Lay) (ev : Value) (W : World) (b : Nat) (v : Value) (xs : List Int) : Prop := W.ownsRow b 3 1 v xs.length (ints xs) ∧ ∀ g, v.ownBlock = some g → Far L ev W g
section
variable {L : Lay} {s : Ms} {ev ev' : Value} {W W' : World}
theorem FOwn.go {b : Nat} {v : Value} {xs : List Int} (h : FOwn L ev W b v xs) (hL : LOk0 L) (c : RChg L ev W ev' W') : FOwn L ev' W' b v xs := by
 refine ⟨⟨h.1.1, ?_⟩, fun g e => (h.2 g e).go c⟩
 rcases h.1.2 with h0 | ⟨g, cap, cur, h1, h2, h3, h4⟩
 · exact .inl h0
 · exact .inr ⟨g, cap, cur, h1, h2, ((h.2 g (by rw [h1]; rfl)).same hL c).trans h3, h4⟩
theorem FOwn.frd {b : Nat} {v : Value} {xs : List Int} (h : FOwn L ev W b v xs) : ∃ A cap, v = .slice A xs.length cap ∧ FRd L ev W A (ints xs) := by
 rcases h.1.2 with ⟨rfl, h0⟩ | ⟨g, cap, cur, hv, _⟩
 · have hx : xs = [] := List.eq_nil_of_length_eq_zero h0
   subst hx
   exact ⟨none, 0, rfl, Rd.nil _ _, fun ad e => by cases e⟩
 · obtain ⟨A, cap', hv2, hr, _⟩ := own_rd h.1
   refine ⟨A, cap', hv2, hr, fun ad e => h.2 ad.block ?_⟩
   rw [hv] at hv2
   injection hv2 with e1
   rw [← e1] at e
   injection e with e
   rw [hv, ← e]; rfl
theorem DR.grown {row : Option Nat} (h : DR L s ev W) (hL : LOk0 L) (hg : W.grownBy W' row) (hr : ∀ g, row = some g → L.b1 ≤ g ∧ ev.ownBlock ≠ some g) : DR L s ev W' := by
 have ne : ∀ k, k < L.b1 → row ≠ some k := fun k hk e => by have := (hr k e).1; omega
 refine ⟨h.row.grown hg (ne _ hL.lt), own_grown h.evs hg ?_, fun i g t h1 h2 => (h.rows i g t h1 h2).grown hg (ne _ (hL.alt g (List.mem_of_getElem? h1)).1), hL.im _ _ h.im (.grown hg h.size (fun k e => (hr k e).1)), Nat.le_trans h.size hg.size, h.sum, h.few⟩
 cases hrow : row with
 | none => exact .inl rfl
 | some g => exact .inr (hr g hrow).2
theorem RChg.more {row : Option Nat} {W0 : World} (h : RChg L ev W0 ev' W) (hg : W.grownBy W' row) (hr : ∀ g, row = some g → W0.heap.size ≤ g) : RChg L ev W0 ev' W' :=
 ⟨hg.os.trans h.os, hg.tape.trans h.tape, hg.output.trans h.output, Nat.le_trans h.size hg.size, fun k h0 h1 h2 h3 h4 => (hg.block k (Nat.lt_of_lt_of_le h0 h.size) (fun e => by have := hr k e.symm; omega)).trans (h.block k h0 h1 h2 h3 h4), h.evb⟩
end
theorem kid_atD {p : PgV} {q : Nat} {x : Nd} {ks : List Tr} (h : At p.body q (.node x ks)) {i : Nat} {k : Tr} (hk : ks[i]? = some k) : ∃ qi, (spots (q + 1) ks)[i]? = some qi ∧ At p.body qi k := by
 have hi : i < (spots (q + 1) ks).length := by rw [spots_len]; exact (List.getElem?_eq_some_iff.1 hk).1
 exact ⟨_, List.getElem?_eq_getElem hi, (h.kids.spot i _ k (List.getElem?_eq_getElem hi) hk).1⟩
theorem ats_drop : ∀ {l : List Nd} {q : Nat} {ts : List Tr} (k : Nat) (t : Tr), Ats l q ts → ts[k]? = some t → ∃ qk, (spots q ts)[k]? = some qk ∧ Ats l qk (ts.drop k) ∧ At l qk t
 | l, q, u :: ts, 0, t, h, hk => by
  injection hk with hk
  subst hk
  exact ⟨q, by simp [spots], h, h.head⟩
 | l, q, u :: ts, k + 1, t, h, hk => by
  obtain ⟨qk, h1, h2, h3⟩ := ats_drop k t h.tail (by simpa using hk)
  exact ⟨qk, by rw [spots]; simpa using h1, by simpa using h2, h3⟩
theorem spots_next : ∀ {ts : List Tr} {p k q : Nat} {t : Tr}, (spots p ts)[k]? = some q → ts[k]? = some t → k + 1 < ts.length → (spots p ts)[k + 1]? = some (q + t.size)
 | [], _, _, _, _, _, h, _ => by simp at h
 | [u], _, _, _, _, _, _, h => by simp at h
 | u :: u' :: ts, p, 0, q, t, h1, h2, _ => by
  simp only [spots, List.getElem?_cons_zero, Option.some.injEq] at h1 h2
  subst h1; subst h2
  simp [spots]
 | u :: u' :: ts, p, k + 1, q, t, h1, h2, h3 => by
  have := spots_next (ts := u' :: ts) (p := p + u.size) (k := k) (q := q) (t := t) (by simpa [spots] using h1) (by simpa using h2) (by simpa using h3)
  rw [spots]; simpa using this
set_option maxRecDepth 100000 in
set_option maxHeartbeats 8000000 in
theorem dKid_any (L : Lay) (hL : DOk L) (s : Ms) (ev : Value) (q : Nat) (x : Nd) (ks : List Tr) (n : Nat) (qn : Nat) (W : World) (h : DR L s ev W) (hat : At L.p.body q (.node x ks)) (hn : (spots (q + 1) ks)[n]? = some qn) :
 Calls Try.prog 100 #[.pointer (some ⟨L.M, 0, none⟩), .int .i64 (q : Int), .int .i64 (n : Int)] W fun e W' => e = .returned (.int .i64 (qn : Int)) ∧ Below W.heap.size W W' := by
 have hnl : n < ks.length := by have := (List.getElem?_eq_some_iff.1 hn).1; rwa [spots_len] at this
 have hql : q < L.p.body.length := hat.lt
 have hbl := hL.blen
 have hkl : ks.length ≤ 200 := by have h1 := hat.fits.arity; have h2 := arityZ_bd x; simp only [Tr.root, Tr.kids] at h1; omega
 have HL := Lib.hid hL
 have Hm := Lib.hid h
 have Hat := Lib.hid hat
 have Hn := Lib.hid hn
 have ew : IntKind.i64.wrap ((q : Int) + 1) = (q : Int) + 1 := IntWalk.i64_in _ (by omega)
 clear hL h hat hn
 go_enter Try.func100, Try.ntmps100
 go_wp2
 go_loopw [1, 10] (fun a i wr => ∃ (k qk : Nat), a = .int .i64 (qk : Int) ∧ i = .int .i64 (k : Int) ∧ k ≤ n ∧ Hid ((spots (q + 1) ks)[k]? = some qk) ∧ Hid (Below W.heap.size W wr)) (fun _ i _ => n - (intOf i).toNat)
 case atStart => exact ⟨0, q + 1, rfl, rfl, Nat.zero_le _, Lib.hid (by cases ks with | nil => simp at hnl | cons t ts => simp [spots]), Lib.hid (Below.refl _ _)⟩
 case round =>
  obtain ⟨k, qk, rfl, rfl, hk, Hk, Hb⟩ := hrel
  by_cases hlt : k < n
  · have hm := Hm.out.below HL.out Hb.out
    have c0 := hm.row.cellv (i := 0) (v := .slice L.p.ba L.p.body.length L.p.bcap) rfl
    have hkk : ks[k]? = some ks[k] := List.getElem?_eq_getElem (by omega)
    obtain ⟨q', h1, h2, h3⟩ := ats_drop k ks[k] Hat.out.kids hkk
    have e1 : q' = qk := by have := Hk.out; simp only [Tr.kids] at h1; rw [h1] at this; injection this
    subst e1
    have hz := h3.endZ
    have hnx : (spots (q + 1) ks)[k + 1]? = some (q' + ks[k].size) := by
     have := spots_next (p := q + 1) (ts := ks) (k := k) (q := q') (t := ks[k]) Hk.out hkk (by omega)
     exact this
    have Hnx := Lib.hid hnx
    have hdlt : decide ((k : Int) < (n : Int)) = true := by simp; omega
    have Hz := Lib.hid hz
    have hend := end_any L.p.ba L.p.bcap L.p.body (q' : Int) wr (HL.out.pok _ hm.im).brd HL.out.blen
    have Hend := Lib.hid hend
    clear hm hkk h1 h2 h3 hz hnx hend
    have ewk : IntKind.i64.wrap ((k : Int) + 1) = (k : Int) + 1 := IntWalk.i64_in _ (by omega)
    go_wp2_with fail
    refine Hend.out.mono ?_
    rintro e w2 ⟨rfl, b2⟩
    rw [Hz.out]
    have Hb2 := Lib.hid (Hb.out.trans (b2.mono Hb.out.size))
    clear b2 Hb c0 Hk
    go_wp2
    go_roundw
    case rel => exact ⟨k + 1, q' + ks[k].size, rfl, rfl, by omega, Hnx, Hb2⟩
    case measure => simp [intOf]; omega
  · obtain rfl : k = n := by omega
    have e1 : qk = qn := by have h1 := Hk.out; have h2 := Hn.out; rw [h2] at h1; injection h1 with h1; exact h1.symm
    subst e1
    clear hlt hk
    go_wp2
    go_ret
    exact ⟨rfl, Hb.out⟩
set_option maxRecDepth 100000 in
set_option maxHeartbeats 8000000 in
theorem dKids_any (L : Lay) (hL : DOk L) (ts : List Tr) (q : Nat) (s s' : Ms) (vs : List Int) (ev : Value) (W : World) (h : DR L s ev W) (hats : Ats L.p.body q ts) (hch : ChainD L ts s vs s') (ho : s.out = none) (hl : ts.length ≤ 1000) :
 Calls Try.prog 101 #[.pointer (some ⟨L.M, 0, none⟩), .int .i64 (q : Int), .int .i64 (ts.length : Int)] W fun e W' => ∃ ev', DR L s' ev' W' ∧ RChg L ev W ev' W' ∧ ((∃ k x, s'.out = some (k, x) ∧ e = thrown k x) ∨ (s'.out = none ∧ ∃ v, e = .returned v ∧ FOwn L ev' W' W.heap.size v vs)) := by
 have HL := Lib.hid hL
 have Hm := Lib.hid h
 have Hats := Lib.hid hats
 have Hch := Lib.hid hch
 have Ho := Lib.hid ho
 have hbl := hL.blen
 obtain ⟨i0, hi0, hz0, hz1, hz2⟩ := info_parts info_int
 clear hL h hats hch ho
 go_enter Try.func101, Try.ntmps101
 go_wp2
 go_loopw [1, 7, 9] (fun a v i wr => ∃ (k qk : Nat) (vv : Value) (sk : Ms) (evk : Value) (pre vs' : List Int), vv = v ∧ a = .int .i64 (qk : Int) ∧ i = .int .i64 (k : Int) ∧ k ≤ ts.length ∧ Hid (Ats L.p.body qk (ts.drop k)) ∧ Hid (ChainD L (ts.drop k) sk vs' s') ∧ Hid (sk.out = none) ∧ Hid (s'.out = none → pre ++ vs' = vs) ∧ Hid (DR L sk evk wr) ∧ Hid (FOwn L evk wr W.heap.size v pre) ∧ Hid (RChg L ev W evk wr) ∧ Hid (pre.length = k)) (fun _ _ i _ => ts.length - (intOf i).toNat)
 case atStart => exact ⟨0, q, _, s, ev, [], vs, rfl, rfl, rfl, Nat.zero_le _, Hats, Hch, Ho, Lib.hid (fun _ => rfl), Hm, Lib.hid ⟨by simpa [ints] using World.ownsRow_nil W W.heap.size 3 1, fun g e => by cases e⟩, Lib.hid (RChg.refl _ _ _), Lib.hid rfl⟩
 case round =>
  clear Hats Hch Ho Hm
  obtain ⟨k, qk, v, sk, evk, pre, vs', rfl, rfl, rfl, hk, Hats, Hch, Ho, Hvs, Hm, Hown, HC, Hpl⟩ := hrel
  by_cases hlt : k < ts.length
  · have hch := Hch.out
    have hats := Hats.out
    rw [List.drop_eq_getElem_cons hlt] at hch hats
    obtain ⟨x, s1, he, halt⟩ := hch
    have hat1 := hats.head
    have htail := hats.tail
    have Hcall := Lib.hid (he qk evk wr hat1 Hm.out)
    have Hz := Lib.hid hat1.endZ
    have Htail := Lib.hid htail
    have hdlt : decide ((k : Int) < (ts.length : Int)) = true := by simp; omega
    have hpl := Hpl.out
    have Halt := Lib.hid halt
    clear hats he hat1 htail halt Hch Hats
    go_wp2_with fail
    refine Hcall.out.mono ?_
    rintro e wa ⟨rfl, eva, hma, hca⟩
    have Hown1 := Lib.hid (Hown.out.go HL.out hca)
    have HC1 := Lib.hid (HC.out.trans hca)
    have Hma := Lib.hid hma
    clear Hcall Hown HC Hm hma hca
    rcases Halt.out with ⟨ho1, hs1⟩ | ⟨ho1, vs2, hvs2, hch2⟩
    · obtain ⟨o, hoo⟩ := Option.isSome_iff_exists.1 ho1
      obtain ⟨k1, x1⟩ := o
      rw [endD_some hoo]
      simp only [thrown]
      have Hoo := Lib.hid hoo
      have Hs1 := Lib.hid hs1
      clear ho1 hoo hs1
      go_wp2
      rw [Hs1.out]
      exact ⟨rfl, eva, Hma.out, HC1.out, .inl ⟨k1, x1, Hoo.out, rfl⟩⟩
    · rw [endD_none ho1]
      have Ho1 := Lib.hid ho1
      have Hch2 := Lib.hid hch2
      have Hvs2 := Lib.hid hvs2
      have ha := Hown1.out.1.alloc (.cells #[.int .i64 x] 3)
      have HA := Lib.hid ha
      have hWa := HC1.out.size
      clear ho1 hch2 hvs2 ha Halt
      go_wp2_with (at_builtin; refine wpList_append_own_at _ rfl (.tmp 11) (.tmp 15) 22 rfl W.heap.size 3 i0 (.int .i64 0) 1 8 Try.underlying22 hi0 hz0 hz1 hz2 rfl (by decide) v pre.length (ints pre) rfl HA.out ⟨wa.heap.size, 0, none⟩ 1 1 (ints [x]) rfl rfl (cells_new _ _ _) (ints_one _) (by unfold maxLen; omega) (by omega) (by simp; omega) ?_)
      intro v' W3 hown hg _ hat
      have b1 : Below wa.heap.size wa (wa.alloc (.cells #[.int .i64 x] 3)) := (Below.refl _ _).alloc (Nat.le_refl _) _
      have hfar : ∀ g, v.ownBlock = some g → Far L eva (wa.alloc (.cells #[.int .i64 x] 3)) g := fun g e => (Hown1.out.2 g e).go (.below b1)
      have hm3 := (Hma.out.below HL.out b1).grown HL.out hg (fun g e => ⟨(hfar g e).lo, (hfar g e).ev⟩)
      have hc3 := (HC1.out.trans (.below b1)).more hg (fun g e => own_lo HA.out e)
      have hown3 : FOwn L eva W3 W.heap.size v' (pre ++ [x]) := by
       refine ⟨by rw [ints_append]; have hpl2 := Hpl.out; simpa [hpl2] using hown, fun g e => ?_⟩
       rcases hat with h1 | h1
       · have := hfar g (h1 ▸ e)
         exact ⟨this.lo, this.ev, Nat.lt_of_lt_of_le this.lt hg.size⟩
       · rw [h1] at e
         injection e with e
         have hsz : (wa.alloc (.cells #[.int .i64 x] 3)).heap.size = wa.heap.size + 1 := by simp only [World.alloc, Array.size_push]
         have h3 := hown.lt g (by rw [h1, e])
         refine ⟨by have := Hma.out.size; omega, fun e2 => ?_, h3.2⟩
         have := Hma.out.evs.lt _ e2
         omega
      have Hm3 := Lib.hid hm3
      have HC3 := Lib.hid hc3
      have Hown3 := Lib.hid hown3
      clear hown hg hat b1 hfar hm3 hc3 hown3 HA Hma Hown1 HC1
      have c0 := Hm3.out.row.cellv (i := 0) (v := .slice L.p.ba L.p.body.length L.p.bcap) rfl
      have Hend := Lib.hid (end_any L.p.ba L.p.bcap L.p.body (qk : Int) W3 (HL.out.pok _ Hm3.out.im).brd HL.out.blen)
      have ewk : IntKind.i64.wrap ((k : Int) + 1) = (k : Int) + 1 := IntWalk.i64_in _ (by omega)
      go_wp2_with fail
      refine Hend.out.mono ?_
      rintro e w4 ⟨rfl, b4⟩
      rw [Hz.out]
      have Hm4 := Lib.hid (Hm3.out.below HL.out b4)
      have hcb : RChg L eva W3 eva w4 := .below b4
      have HC4 := Lib.hid (HC3.out.trans hcb)
      have Hown4 := Lib.hid (Hown3.out.go HL.out hcb)
      clear b4 hcb Hm3 HC3 Hown3 c0 Hend
      go_wp2
      go_roundw
      case rel => exact ⟨k + 1, qk + ts[k].size, _, s1, eva, pre ++ [x], vs2, rfl, rfl, rfl, by omega, Htail, Hch2, Ho1, Lib.hid (fun hz => by rw [← Hvs.out hz, Hvs2.out]; simp), Hm4, Hown4, HC4, Lib.hid (by simp [Hpl.out])⟩
      case measure => simp [intOf]; omega
  · obtain rfl : k = ts.length := by omega
    have hch := Hch.out
    rw [List.drop_length] at hch
    obtain ⟨rfl, rfl⟩ := hch
    obtain ⟨A, m, c, rfl⟩ := own_slice Hown.out.1
    have Hvs3 : Hid (pre = vs) := by have := Hvs.out Ho.out; rw [List.append_nil] at this; exact this
    clear hlt hk Hch Hats
    go_wp2
    go_ret
    exact ⟨evk, Hm.out, HC.out, .inr ⟨Ho.out, _, rfl, by rw [← Hvs3.out]; exact Hown.out⟩⟩
end Go.Proofs.Ytlglilmgklipdaa
