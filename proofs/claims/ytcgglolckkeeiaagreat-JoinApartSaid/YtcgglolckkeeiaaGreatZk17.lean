/- Lemmas for JnBll. -/
import Derived.Test.YtcgglolckkeeiaaGreatZk16
import Derived.Test.YtcgglolckkeeiaaGreatZk3
import Derived.Test.YtcgglolckkeeiaaGreatZk13
import Derived.Test.YtcgglolckkeeiaaGreatZk10
import Derived.Test.YtcgglolckkeeiaaGreatZk2
import Derived.Lib.SlicesCompact
import Derived.Shelf.Small.Bits
import Derived.Shelf.Strconv.Itoa0
import Derived.Shelf.Sort.Plain
import Derived.Shelf.Bits.Mul64
import Derived.Shelf.Slices.Clone
import Derived.Shelf.Slices.CompactI
import Derived.Shelf.Slices.SearchI
import Derived.Shelf.Slices.Cells
import Derived.Shelf.Slices.In.SortNone
import Derived.Shelf.SlicesE.Clone
import Derived.Test.YtcgglolckkeeiaaGreatRows
import Derived.WalkKit
namespace Go.Proofs.YtcgglolckkeeiaaGreat
set_option linter.unusedVariables false
open Go.RowKit Go.Deep
theorem isC_1 (x y : Nd) (n : Int) : isC x y 1 n = decide (7 ≤ x.tag ∧ x.tag ≤ 11 ∧ 7 ≤ n ∧ n ≤ 11 ∧ n ≠ x.tag) := rfl
theorem isC_2 (x y : Nd) (n : Int) : isC x y 2 n = decide (12 ≤ x.tag ∧ x.tag ≤ 17 ∧ 12 ≤ n ∧ n ≤ 17 ∧ n ≠ x.tag) := rfl
theorem isC_3 (x y : Nd) (n : Int) : isC x y 3 n = decide (18 ≤ x.tag ∧ x.tag ≤ 19 ∧ 18 ≤ n ∧ n ≤ 19 ∧ n ≠ x.tag) := rfl
theorem isC_4 (x y : Nd) (n : Int) : isC x y 4 n = decide ((x.tag = 1 ∧ (n = 0 ∨ n = 1 ∨ n = -1 ∨ n = wrap64 (x.n + 1) ∨ n = wrap64 (x.n - 1)) ∧ n ≠ x.n) ∨ (x.tag = 2 ∧ n = wrap64 (1 - x.n))) := rfl
theorem isC_5 (x y : Nd) (n : Int) : isC x y 5 n = decide ((x.tag = 21 ∨ x.tag = 22 ∨ x.tag = 23 ∨ x.tag = 24 ∨ x.tag = 25) ∧ n = 0) := rfl
theorem isC_6 (x y : Nd) (n : Int) : isC x y 6 n = decide ((x.tag = 23 ∨ x.tag = 24) ∧ n = 0) := rfl
theorem isC_7 (x y : Nd) (n : Int) : isC x y 7 n = decide (x.tag = 25 ∧ (n = 0 ∨ n = 1) ∧ ¬ (y.tag = 1 ∧ y.n = n)) := rfl
theorem zero_nd (w : World) : (zeroValue 74).run Tryz.prog w = .ok (.agg #[.int .i64 0, .int .i64 0]) w := by kernel_rfl
set_option maxRecDepth 100000 in
set_option maxHeartbeats 4000000 in
theorem refIs1_any (A : Option Addr) (cap : Nat) (l : List Nd) (q : Nat) (x : Nd) (n : Int) (w : World) (hr : Rd w A (l.flatMap Nd.cells)) (hl : l.length ≤ 1000) (hx : l[q]? = some x) (he : 0 ≤ endZ l (q : Int)) (y : Nd) :
 Calls Tryz.prog 128 #[.slice A l.length cap, .int .i64 (q : Int), .int .i64 1, .int .i64 n] w fun e w' => e = .returned (.bool (isC x y 1 n)) ∧ Below w.heap.size w w' := by
 obtain ⟨tag, nn⟩ := x
 have He := Lib.hid (refEnd_any A cap l (q : Int) w hr hl)
 have hqI : (q : Int) < (l.length : Int) := by have := (List.getElem?_eq_some_iff.1 hx).1; omega
 have hl1 : (l.length : Int) ≤ 1000 := by omega
 have Hr := Lib.hid hr
 have Hx := Lib.hid hx
 have hE0 : ¬ (endZ l (q : Int) < 0) := by omega
 clear hr hl hx he
 go_enter Tryz.func128, Tryz.ntmps128
 go_wp2_with fail
 refine He.out.mono ?_
 rintro e w1 ⟨rfl, b1⟩
 clear He
 obtain ⟨ad, had, hc⟩ := nd_at (Hr.out.go b1) Hx.out
 subst had
 have Hc := Lib.hid hc
 clear hc
 go_wp2_with (first | (refine wpList_load_at rfl 74 _ rfl (ad.add (q * 2)) rfl [.int .i64 tag, .int .i64 nn] _ Hc.out Tryz.underlying74 rfl (by kernel_rfl) ?_) | (refine at_alloc _ rfl ?_))
 refine Stop.to ?_
 refine wpList_alloc_gen rfl 74 rfl _ _ (zero_nd _) rfl ?_
 intro D Dw Dh Dr Db
 go_wp2_with (refine at_store _ _ _ rfl ?_)
 refine Stop.to ?_
 refine wpList_store_gen rfl 74 _ _ rfl D #[.int .i64 tag, .int .i64 nn] rfl rfl 74 _ Dr (by kernel_rfl) rfl (by simp [Value.oneCell']) ?_
 intro Dx Ds Do
 have Dc := (Db.mono Dh).trans (Do.below Dh)
 clear Db Dr Do
 have b2 := b1.trans (Dc.mono b1.size)
 have d0 := Ds.cellv (i := 0) (v := .int .i64 tag) rfl
 have d1 := Ds.cellv (i := 1) (v := .int .i64 nn) rfl
 clear Ds Dc Hr b1 hE0 Hc
 go_wp2_with fail
 all_goals
  go_ret
  refine ⟨ret_b ?_, b2⟩
  rw [isC_1, Bool.eq_iff_iff]
  simp
  try omega
set_option maxRecDepth 100000 in
set_option maxHeartbeats 4000000 in
theorem refIs2_any (A : Option Addr) (cap : Nat) (l : List Nd) (q : Nat) (x : Nd) (n : Int) (w : World) (hr : Rd w A (l.flatMap Nd.cells)) (hl : l.length ≤ 1000) (hx : l[q]? = some x) (he : 0 ≤ endZ l (q : Int)) (y : Nd) :
 Calls Tryz.prog 128 #[.slice A l.length cap, .int .i64 (q : Int), .int .i64 2, .int .i64 n] w fun e w' => e = .returned (.bool (isC x y 2 n)) ∧ Below w.heap.size w w' := by
 obtain ⟨tag, nn⟩ := x
 have He := Lib.hid (refEnd_any A cap l (q : Int) w hr hl)
 have hqI : (q : Int) < (l.length : Int) := by have := (List.getElem?_eq_some_iff.1 hx).1; omega
 have hl1 : (l.length : Int) ≤ 1000 := by omega
 have Hr := Lib.hid hr
 have Hx := Lib.hid hx
 have hE0 : ¬ (endZ l (q : Int) < 0) := by omega
 clear hr hl hx he
 go_enter Tryz.func128, Tryz.ntmps128
 go_wp2_with fail
 refine He.out.mono ?_
 rintro e w1 ⟨rfl, b1⟩
 clear He
 obtain ⟨ad, had, hc⟩ := nd_at (Hr.out.go b1) Hx.out
 subst had
 have Hc := Lib.hid hc
 clear hc
 go_wp2_with (first | (refine wpList_load_at rfl 74 _ rfl (ad.add (q * 2)) rfl [.int .i64 tag, .int .i64 nn] _ Hc.out Tryz.underlying74 rfl (by kernel_rfl) ?_) | (refine at_alloc _ rfl ?_))
 refine Stop.to ?_
 refine wpList_alloc_gen rfl 74 rfl _ _ (zero_nd _) rfl ?_
 intro D Dw Dh Dr Db
 go_wp2_with (refine at_store _ _ _ rfl ?_)
 refine Stop.to ?_
 refine wpList_store_gen rfl 74 _ _ rfl D #[.int .i64 tag, .int .i64 nn] rfl rfl 74 _ Dr (by kernel_rfl) rfl (by simp [Value.oneCell']) ?_
 intro Dx Ds Do
 have Dc := (Db.mono Dh).trans (Do.below Dh)
 clear Db Dr Do
 have b2 := b1.trans (Dc.mono b1.size)
 have d0 := Ds.cellv (i := 0) (v := .int .i64 tag) rfl
 have d1 := Ds.cellv (i := 1) (v := .int .i64 nn) rfl
 clear Ds Dc Hr b1 hE0 Hc
 go_wp2_with fail
 all_goals
  go_ret
  refine ⟨ret_b ?_, b2⟩
  rw [isC_2, Bool.eq_iff_iff]
  simp
  try omega
set_option maxRecDepth 100000 in
set_option maxHeartbeats 4000000 in
theorem refIs3_any (A : Option Addr) (cap : Nat) (l : List Nd) (q : Nat) (x : Nd) (n : Int) (w : World) (hr : Rd w A (l.flatMap Nd.cells)) (hl : l.length ≤ 1000) (hx : l[q]? = some x) (he : 0 ≤ endZ l (q : Int)) (y : Nd) :
 Calls Tryz.prog 128 #[.slice A l.length cap, .int .i64 (q : Int), .int .i64 3, .int .i64 n] w fun e w' => e = .returned (.bool (isC x y 3 n)) ∧ Below w.heap.size w w' := by
 obtain ⟨tag, nn⟩ := x
 have He := Lib.hid (refEnd_any A cap l (q : Int) w hr hl)
 have hqI : (q : Int) < (l.length : Int) := by have := (List.getElem?_eq_some_iff.1 hx).1; omega
 have hl1 : (l.length : Int) ≤ 1000 := by omega
 have Hr := Lib.hid hr
 have Hx := Lib.hid hx
 have hE0 : ¬ (endZ l (q : Int) < 0) := by omega
 clear hr hl hx he
 go_enter Tryz.func128, Tryz.ntmps128
 go_wp2_with fail
 refine He.out.mono ?_
 rintro e w1 ⟨rfl, b1⟩
 clear He
 obtain ⟨ad, had, hc⟩ := nd_at (Hr.out.go b1) Hx.out
 subst had
 have Hc := Lib.hid hc
 clear hc
 go_wp2_with (first | (refine wpList_load_at rfl 74 _ rfl (ad.add (q * 2)) rfl [.int .i64 tag, .int .i64 nn] _ Hc.out Tryz.underlying74 rfl (by kernel_rfl) ?_) | (refine at_alloc _ rfl ?_))
 refine Stop.to ?_
 refine wpList_alloc_gen rfl 74 rfl _ _ (zero_nd _) rfl ?_
 intro D Dw Dh Dr Db
 go_wp2_with (refine at_store _ _ _ rfl ?_)
 refine Stop.to ?_
 refine wpList_store_gen rfl 74 _ _ rfl D #[.int .i64 tag, .int .i64 nn] rfl rfl 74 _ Dr (by kernel_rfl) rfl (by simp [Value.oneCell']) ?_
 intro Dx Ds Do
 have Dc := (Db.mono Dh).trans (Do.below Dh)
 clear Db Dr Do
 have b2 := b1.trans (Dc.mono b1.size)
 have d0 := Ds.cellv (i := 0) (v := .int .i64 tag) rfl
 have d1 := Ds.cellv (i := 1) (v := .int .i64 nn) rfl
 clear Ds Dc Hr b1 hE0 Hc
 go_wp2_with fail
 all_goals
  go_ret
  refine ⟨ret_b ?_, b2⟩
  rw [isC_3, Bool.eq_iff_iff]
  simp
  try omega
set_option maxRecDepth 100000 in
set_option maxHeartbeats 4000000 in
theorem refIs4_any (A : Option Addr) (cap : Nat) (l : List Nd) (q : Nat) (x : Nd) (n : Int) (w : World) (hr : Rd w A (l.flatMap Nd.cells)) (hl : l.length ≤ 1000) (hx : l[q]? = some x) (he : 0 ≤ endZ l (q : Int)) (y : Nd) :
 Calls Tryz.prog 128 #[.slice A l.length cap, .int .i64 (q : Int), .int .i64 4, .int .i64 n] w fun e w' => e = .returned (.bool (isC x y 4 n)) ∧ Below w.heap.size w w' := by
 obtain ⟨tag, nn⟩ := x
 have He := Lib.hid (refEnd_any A cap l (q : Int) w hr hl)
 have hqI : (q : Int) < (l.length : Int) := by have := (List.getElem?_eq_some_iff.1 hx).1; omega
 have hl1 : (l.length : Int) ≤ 1000 := by omega
 have Hr := Lib.hid hr
 have Hx := Lib.hid hx
 have hE0 : ¬ (endZ l (q : Int) < 0) := by omega
 clear hr hl hx he
 go_enter Tryz.func128, Tryz.ntmps128
 go_wp2_with fail
 refine He.out.mono ?_
 rintro e w1 ⟨rfl, b1⟩
 clear He
 obtain ⟨ad, had, hc⟩ := nd_at (Hr.out.go b1) Hx.out
 subst had
 have Hc := Lib.hid hc
 clear hc
 go_wp2_with (first | (refine wpList_load_at rfl 74 _ rfl (ad.add (q * 2)) rfl [.int .i64 tag, .int .i64 nn] _ Hc.out Tryz.underlying74 rfl (by kernel_rfl) ?_) | (refine at_alloc _ rfl ?_))
 refine Stop.to ?_
 refine wpList_alloc_gen rfl 74 rfl _ _ (zero_nd _) rfl ?_
 intro D Dw Dh Dr Db
 go_wp2_with (refine at_store _ _ _ rfl ?_)
 refine Stop.to ?_
 refine wpList_store_gen rfl 74 _ _ rfl D #[.int .i64 tag, .int .i64 nn] rfl rfl 74 _ Dr (by kernel_rfl) rfl (by simp [Value.oneCell']) ?_
 intro Dx Ds Do
 have Dc := (Db.mono Dh).trans (Do.below Dh)
 clear Db Dr Do
 have b2 := b1.trans (Dc.mono b1.size)
 have d0 := Ds.cellv (i := 0) (v := .int .i64 tag) rfl
 have d1 := Ds.cellv (i := 1) (v := .int .i64 nn) rfl
 clear Ds Dc Hr b1 hE0 Hc
 go_wp2_with fail
 all_goals
  go_ret
  refine ⟨ret_b ?_, b2⟩
  rw [isC_4, Bool.eq_iff_iff]
  simp
  try omega
set_option maxRecDepth 100000 in
set_option maxHeartbeats 4000000 in
theorem refIs5_any (A : Option Addr) (cap : Nat) (l : List Nd) (q : Nat) (x : Nd) (n : Int) (w : World) (hr : Rd w A (l.flatMap Nd.cells)) (hl : l.length ≤ 1000) (hx : l[q]? = some x) (he : 0 ≤ endZ l (q : Int)) (y : Nd) :
 Calls Tryz.prog 128 #[.slice A l.length cap, .int .i64 (q : Int), .int .i64 5, .int .i64 n] w fun e w' => e = .returned (.bool (isC x y 5 n)) ∧ Below w.heap.size w w' := by
 obtain ⟨tag, nn⟩ := x
 have He := Lib.hid (refEnd_any A cap l (q : Int) w hr hl)
 have hqI : (q : Int) < (l.length : Int) := by have := (List.getElem?_eq_some_iff.1 hx).1; omega
 have hl1 : (l.length : Int) ≤ 1000 := by omega
 have Hr := Lib.hid hr
 have Hx := Lib.hid hx
 have hE0 : ¬ (endZ l (q : Int) < 0) := by omega
 clear hr hl hx he
 go_enter Tryz.func128, Tryz.ntmps128
 go_wp2_with fail
 refine He.out.mono ?_
 rintro e w1 ⟨rfl, b1⟩
 clear He
 obtain ⟨ad, had, hc⟩ := nd_at (Hr.out.go b1) Hx.out
 subst had
 have Hc := Lib.hid hc
 clear hc
 go_wp2_with (first | (refine wpList_load_at rfl 74 _ rfl (ad.add (q * 2)) rfl [.int .i64 tag, .int .i64 nn] _ Hc.out Tryz.underlying74 rfl (by kernel_rfl) ?_) | (refine at_alloc _ rfl ?_))
 refine Stop.to ?_
 refine wpList_alloc_gen rfl 74 rfl _ _ (zero_nd _) rfl ?_
 intro D Dw Dh Dr Db
 go_wp2_with (refine at_store _ _ _ rfl ?_)
 refine Stop.to ?_
 refine wpList_store_gen rfl 74 _ _ rfl D #[.int .i64 tag, .int .i64 nn] rfl rfl 74 _ Dr (by kernel_rfl) rfl (by simp [Value.oneCell']) ?_
 intro Dx Ds Do
 have Dc := (Db.mono Dh).trans (Do.below Dh)
 clear Db Dr Do
 have b2 := b1.trans (Dc.mono b1.size)
 have d0 := Ds.cellv (i := 0) (v := .int .i64 tag) rfl
 have d1 := Ds.cellv (i := 1) (v := .int .i64 nn) rfl
 clear Ds Dc Hr b1 hE0 Hc
 go_wp2_with fail
 all_goals
  go_ret
  refine ⟨ret_b ?_, b2⟩
  rw [isC_5, Bool.eq_iff_iff]
  simp
  try omega
set_option maxRecDepth 100000 in
set_option maxHeartbeats 4000000 in
theorem refIs6_any (A : Option Addr) (cap : Nat) (l : List Nd) (q : Nat) (x : Nd) (n : Int) (w : World) (hr : Rd w A (l.flatMap Nd.cells)) (hl : l.length ≤ 1000) (hx : l[q]? = some x) (he : 0 ≤ endZ l (q : Int)) (y : Nd) :
 Calls Tryz.prog 128 #[.slice A l.length cap, .int .i64 (q : Int), .int .i64 6, .int .i64 n] w fun e w' => e = .returned (.bool (isC x y 6 n)) ∧ Below w.heap.size w w' := by
 obtain ⟨tag, nn⟩ := x
 have He := Lib.hid (refEnd_any A cap l (q : Int) w hr hl)
 have hqI : (q : Int) < (l.length : Int) := by have := (List.getElem?_eq_some_iff.1 hx).1; omega
 have hl1 : (l.length : Int) ≤ 1000 := by omega
 have Hr := Lib.hid hr
 have Hx := Lib.hid hx
 have hE0 : ¬ (endZ l (q : Int) < 0) := by omega
 clear hr hl hx he
 go_enter Tryz.func128, Tryz.ntmps128
 go_wp2_with fail
 refine He.out.mono ?_
 rintro e w1 ⟨rfl, b1⟩
 clear He
 obtain ⟨ad, had, hc⟩ := nd_at (Hr.out.go b1) Hx.out
 subst had
 have Hc := Lib.hid hc
 clear hc
 go_wp2_with (first | (refine wpList_load_at rfl 74 _ rfl (ad.add (q * 2)) rfl [.int .i64 tag, .int .i64 nn] _ Hc.out Tryz.underlying74 rfl (by kernel_rfl) ?_) | (refine at_alloc _ rfl ?_))
 refine Stop.to ?_
 refine wpList_alloc_gen rfl 74 rfl _ _ (zero_nd _) rfl ?_
 intro D Dw Dh Dr Db
 go_wp2_with (refine at_store _ _ _ rfl ?_)
 refine Stop.to ?_
 refine wpList_store_gen rfl 74 _ _ rfl D #[.int .i64 tag, .int .i64 nn] rfl rfl 74 _ Dr (by kernel_rfl) rfl (by simp [Value.oneCell']) ?_
 intro Dx Ds Do
 have Dc := (Db.mono Dh).trans (Do.below Dh)
 clear Db Dr Do
 have b2 := b1.trans (Dc.mono b1.size)
 have d0 := Ds.cellv (i := 0) (v := .int .i64 tag) rfl
 have d1 := Ds.cellv (i := 1) (v := .int .i64 nn) rfl
 clear Ds Dc Hr b1 hE0 Hc
 go_wp2_with fail
 all_goals
  go_ret
  refine ⟨ret_b ?_, b2⟩
  rw [isC_6, Bool.eq_iff_iff]
  simp
  try omega
end Go.Proofs.YtcgglolckkeeiaaGreat
namespace Go.Proofs.YtcgglolckkeeiaaGreat
set_option linter.unusedVariables false
open Go.RowKit Go.Deep
def walkP (l : List Nd) : Int → List Int → Int
 | a, [] => a
 | a, i :: π => if i < 0 ∨ ((kidsZ l a).length : Int) ≤ i then -1 else walkP l (((kidsZ l a)[i.toNat]?).getD 0) π
def find11 (l : List Nd) (π : List Int) : Int := if endZ l 0 = (l.length : Int) then walkP l 0 π else -1
theorem walkP_out {l : List Nd} {a i : Int} {π : List Int} {k : Nat} (hi : π[k]? = some i) (h : i < 0 ∨ ((kidsZ l a).length : Int) ≤ i) : walkP l a (π.drop k) = -1 := by
 have hk := (List.getElem?_eq_some_iff.1 hi).1
 have he := (List.getElem?_eq_some_iff.1 hi).2
 rw [List.drop_eq_getElem_cons hk, he, walkP, if_pos h]
theorem walkP_on {l : List Nd} {a b : Int} {π : List Int} {k j : Nat} (hi : π[k]? = some (j : Int)) (h : (kidsZ l a)[j]? = some b) : walkP l a (π.drop k) = walkP l b (π.drop (k + 1)) := by
 have hk := (List.getElem?_eq_some_iff.1 hi).1
 have he := (List.getElem?_eq_some_iff.1 hi).2
 have hj := (List.getElem?_eq_some_iff.1 h).1
 rw [List.drop_eq_getElem_cons hk, he, walkP, if_neg (by omega), Int.toNat_natCast, h]
 rfl
theorem walkP_find {l : List Nd} : ∀ (π : List Int) (q : Nat) (t : Tr), At l q t → walkP l (q : Int) π = match findP π q t with | some (r, _) => (r : Int) | none => -1
 | [], q, t, _ => by rw [walkP, findP]
 | i :: π, q, .node x ks, h => by
  have hk := h.kidsZ
  have hkl : (kidsZ l (q : Int)).length = ks.length := by rw [hk, List.length_map, spots_len]; rfl
  rw [walkP, findP]
  by_cases h0 : i < 0
  · rw [if_pos (Or.inl h0), if_pos h0]
  rw [if_neg h0]
  by_cases h1 : ((kidsZ l (q : Int)).length : Int) ≤ i
  · rw [if_pos (Or.inr h1)]
    have h2 : ks[i.toNat]? = none := List.getElem?_eq_none (by omega)
    rw [h2]
    split
    · rename_i h3; split at h3 <;> simp_all
    · rfl
  rw [if_neg (by omega)]
  obtain ⟨k, hk2⟩ : ∃ k, ks[i.toNat]? = some k := ⟨_, List.getElem?_eq_getElem (by omega)⟩
  obtain ⟨r, hr⟩ := spot_ex (p := q + 1) hk2
  have hr2 : (kidsZ l (q : Int))[i.toNat]? = some (r : Int) := by rw [hk, List.getElem?_map, show (Tr.node x ks).kids = ks from rfl, hr]; rfl
  rw [hr2, Option.getD_some, hr, hk2]
  exact walkP_find π r k (h.kids.spot i.toNat r k hr hk2).1
set_option maxRecDepth 100000 in
set_option maxHeartbeats 4000000 in
theorem refFind_any (A B : Option Addr) (c d : Nat) (l : List Nd) (π : List Int) (w : World) (hr : Rd w A (l.flatMap Nd.cells)) (hl : l.length ≤ 1000) (hp : Rd w B (ints π)) (hlp : π.length ≤ 1000000) :
 Calls Tryz.prog 127 #[.slice A l.length c, .slice B π.length d] w fun e w' => e = .returned (.int .i64 (find11 l π)) ∧ Below w.heap.size w w' := by
 obtain ⟨S, hSd⟩ : ∃ S, S = (fun W => Rd W A (l.flatMap Nd.cells) ∧ Rd W B (ints π) ∧ Below w.heap.size w W) := ⟨_, rfl⟩
 have stS : St S := by rw [hSd]; infer_instance
 have T0 : Hid (∀ W, S W → Rd W A (l.flatMap Nd.cells)) := by show ∀ W, _; rw [hSd]; exact fun W h => h.1
 have T1 : Hid (∀ W, S W → Rd W B (ints π)) := by show ∀ W, _; rw [hSd]; exact fun W h => h.2.1
 have T2 : Hid (∀ W, S W → Below w.heap.size w W) := by show ∀ W, _; rw [hSd]; exact fun W h => h.2.2
 have hS : S w := by rw [hSd]; exact ⟨hr, hp, Below.refl _ _⟩
 have He := Lib.hid (refEnd_any A c l (0 : Int) w hr hl)
 have Hl := Lib.hid hl
 have hlI : (l.length : Int) ≤ 1000 := by omega
 have hpI : (π.length : Int) ≤ 1000000 := by omega
 clear hSd hr hp hl hlp
 go_enter Tryz.func127, Tryz.ntmps127
 go_wp2_with fail
 refine He.out.mono ?_
 rintro e w1 ⟨rfl, b1⟩
 replace hS := stS.go hS b1
 clear He b1
 by_cases hez : endZ l 0 = (l.length : Int)
 rotate_left
 · have hne : (endZ l 0 != (l.length : Int)) = true := by simpa using hez
   have hf : find11 l π = -1 := if_neg hez
   have Hf := Lib.hid hf.symm
   clear hez hf
   go_wp2_with fail
   go_ret
   exact ⟨ret_i' Hf.out, T2.out _ hS⟩
 have hne : (endZ l 0 != (l.length : Int)) = false := by simpa using hez
 have hf : find11 l π = walkP l 0 π := if_pos hez
 have Hf := Lib.hid hf
 clear hez hf
 go_wp2_with fail
 go_loopw [5, 6] (fun at_ i wr => ∃ (a : Int) (k : Nat), at_ = .int .i64 a ∧ i = .int .i64 (k : Int) ∧ k ≤ π.length ∧ Hid (find11 l π = walkP l a (π.drop k)) ∧ S wr) (fun _ i _ => π.length - (intOf i).toNat)
 case atStart => exact ⟨0, 0, rfl, by simp, Nat.zero_le _, Hf.out, hS⟩
 case round =>
  clear hS Hf
  obtain ⟨a, k, rfl, rfl, hk1, Hk, hS⟩ := hrel
  by_cases hkn : k < π.length
  rotate_left
  · have hge : ¬ ((k : Int) < (π.length : Int)) := by omega
    obtain rfl : k = π.length := by omega
    have Hf : Hid (find11 l π = a) := by have := Hk.out; rw [List.drop_length] at this; exact this
    clear hkn Hk
    go_wp2_with fail
    go_ret
    exact ⟨ret_i' Hf.out.symm, T2.out _ hS⟩
  obtain ⟨i, hi⟩ : ∃ i, π[k]? = some i := ⟨_, List.getElem?_eq_getElem (by omega)⟩
  obtain ⟨bd, hbd, _⟩ := int_at (T1.out _ hS) hi
  subst hbd
  have Hc : Hid (∀ W, S W → W.cell? (bd.add k) = some (.int .i64 i)) := fun W h => by
   obtain ⟨ad', h1, h2⟩ := int_at (T1.out _ h) hi
   injection h1 with h1; subst h1; exact h2
  have hka : (k : Int) < (π.length : Int) := by omega
  have Hi := Lib.hid hi
  have Hcall := Lib.hid (refKids_any A c l a wr (T0.out _ hS) Hl.out)
  clear hi hkn
  go_wp2_with fail
  refine Hcall.out.mono ?_
  rintro e w2 ⟨v, rfl, hown, b2⟩
  obtain ⟨C, cc, rfl, hrC, -, -, -⟩ := own_rdB hown
  replace hS := stS.go hS b2
  have c1 := Hc.out _ hS
  have HrC := Lib.hid hrC
  clear Hcall b2 hown hrC
  obtain ⟨n, hn⟩ : ∃ n, n = (kidsZ l a).length := ⟨_, rfl⟩
  have Hn := Lib.hid hn
  rw [← hn]
  clear hn
  by_cases h0 : i < 0
  · have Hf : Hid (find11 l π = -1) := by rw [Hid, Hk.out]; exact walkP_out Hi.out (Or.inl h0)
    clear Hk
    go_wp2_with fail
    go_ret
    exact ⟨ret_i' Hf.out.symm, T2.out _ hS⟩
  by_cases h1 : (n : Int) ≤ i
  · have Hf : Hid (find11 l π = -1) := by rw [Hid, Hk.out]; exact walkP_out Hi.out (Or.inr (by rw [← Hn.out]; exact h1))
    clear Hk
    go_wp2_with fail
    go_ret
    exact ⟨ret_i' Hf.out.symm, T2.out _ hS⟩
  obtain ⟨j, rfl⟩ : ∃ j : Nat, i = (j : Int) := ⟨i.toNat, by omega⟩
  obtain ⟨b, hb⟩ : ∃ b, (kidsZ l a)[j]? = some b := ⟨_, List.getElem?_eq_getElem (by have := Hn.out; omega)⟩
  obtain ⟨cd, hcd, c2⟩ := int_at HrC.out hb
  subst hcd
  have Hst : Hid (find11 l π = walkP l b (π.drop (k + 1))) := by rw [Hid, Hk.out]; exact walkP_on Hi.out hb
  have hjn : (j : Int) < (n : Int) := by omega
  clear Hk hb
  go_wp2_with fail
  refine ⟨⟨b, k + 1, rfl, by simp, by omega, Hst, hS⟩, ?_⟩
  simp only [intOf]; omega
end Go.Proofs.YtcgglolckkeeiaaGreat
namespace Go.Proofs.YtcgglolckkeeiaaGreat
set_option linter.unusedVariables false
open Go.RowKit
theorem insU_le (a : Int) : ∀ l : List Int, (insU a l).length ≤ l.length + 1
 | [] => by simp [insU]
 | b :: l => by
  rw [insU]
  split
  · simp
  · split
    · simp
    · have := insU_le a l; simp; omega
theorem sortU_le : ∀ l : List Int, (sortU l).length ≤ l.length
 | [] => by simp [sortU]
 | a :: l => by have := insU_le a (sortU l); have := sortU_le l; rw [sortU]; simp; omega
theorem riseI_of : ∀ {l : List Int}, l.Pairwise (· < ·) → riseI l
 | [], _ => trivial
 | [_], _ => trivial
 | a :: b :: l, h => by
  rw [List.pairwise_cons] at h
  exact ⟨h.1 b (by simp), riseI_of h.2⟩
theorem compact_rise {s : List Int} (hs : s.Pairwise (· ≤ ·)) : riseI (Lib.compact s) ∧ ∀ x, x ∈ Lib.compact s ↔ x ∈ s := by
 have hget : ∀ j, j < s.length → ∃ x, s[j]? = some x ∧ s.toArray[j]! = x := fun j hj => ⟨s[j], List.getElem?_eq_getElem hj, by simp [hj]⟩
 have hmono : ∀ i j x y, i ≤ j → s[i]? = some x → s[j]? = some y → x ≤ y := fun i j x y hij hx hy => by
  rcases Nat.lt_or_eq_of_le hij with h | h
  · obtain ⟨h1, rfl⟩ := List.getElem?_eq_some_iff.1 hx
    obtain ⟨h2, rfl⟩ := List.getElem?_eq_some_iff.1 hy
    exact List.pairwise_iff_getElem.1 hs i j h1 h2 h
  · subst h; rw [hx] at hy; injection hy with hy; omega
 constructor
 · refine riseI_of ?_
   unfold Lib.compact Lib.compactUpTo
   rw [List.pairwise_map, List.pairwise_filter]
   rw [List.pairwise_iff_getElem]
   intro i j hi hj hij hki hkj
   simp only [List.getElem_range] at *
   rw [List.length_range] at hi hj
   unfold Lib.keeps at hkj
   rw [decide_eq_true_eq] at hkj
   obtain ⟨x, hx, hx'⟩ := hget i hi
   obtain ⟨y, hy, hy'⟩ := hget j hj
   obtain ⟨z, hz, hz'⟩ := hget (j - 1) (by omega)
   rw [hx', hy']
   rw [hy', hz'] at hkj
   have h1 := hmono i (j - 1) x z (by omega) hx hz
   have h2 := hmono (j - 1) j z y (by omega) hz hy
   rcases hkj with h | h <;> omega
 · intro x
   unfold Lib.compact Lib.compactUpTo
   rw [List.mem_map]
   constructor
   · rintro ⟨j, hj, rfl⟩
     have hj2 := List.mem_range.1 (List.mem_filter.1 hj).1
     obtain ⟨y, hy, hy'⟩ := hget j hj2
     rw [hy']; exact List.mem_of_getElem? hy
   · intro hx
     obtain ⟨j, hj, hjx⟩ := List.getElem_of_mem hx
     have : ∀ (n j : Nat), j ≤ n → s[j]? = some x → ∃ a : Nat, a ∈ (List.range s.length).filter (Lib.keeps s.toArray) ∧ s.toArray[a]! = x := by
      intro n
      induction n with
      | zero =>
       intro j hj0 hjx
       obtain rfl : j = 0 := by omega
       have hlt := (List.getElem?_eq_some_iff.1 hjx).1
       obtain ⟨y, hy, hy'⟩ := hget 0 hlt
       rw [hy] at hjx; injection hjx with hjx
       exact ⟨0, List.mem_filter.2 ⟨List.mem_range.2 hlt, by simp [Lib.keeps]⟩, by rw [hy', hjx]⟩
      | succ n ih =>
       intro j hjn hjx
       have hlt := (List.getElem?_eq_some_iff.1 hjx).1
       obtain ⟨y, hy, hy'⟩ := hget j hlt
       rw [hy] at hjx; injection hjx with hjx
       subst hjx
       by_cases hk : Lib.keeps s.toArray j = true
       · exact ⟨j, List.mem_filter.2 ⟨List.mem_range.2 hlt, hk⟩, hy'⟩
       · unfold Lib.keeps at hk
         rw [decide_eq_true_eq] at hk
         have hj0 : j ≠ 0 := fun e => hk (.inl e)
         obtain ⟨z, hz, hz'⟩ := hget (j - 1) (by omega)
         have hzy : z = y := by
          rcases Decidable.em (s.toArray[j]! = s.toArray[j - 1]!) with e | e
          · rw [hy', hz'] at e; exact e.symm
          · exact absurd (.inr e) hk
         exact ih (j - 1) (by omega) (by rw [hz, hzy])
     exact this j j (Nat.le_refl _) (by rw [List.getElem?_eq_getElem hj, hjx])
theorem sort_once (l : List Int) : Lib.compact (l.mergeSort fun x y => decide (x ≤ y)) = sortU l := by
 have hs : (l.mergeSort fun x y => decide (x ≤ y)).Pairwise (· ≤ ·) := by
  have := List.pairwise_mergeSort (le := fun x y : Int => decide (x ≤ y)) (fun a b c => by simp; omega) (fun a b => by simp; omega) l
  exact this.imp (by simp)
 obtain ⟨h1, h2⟩ := compact_rise hs
 refine riseI_ext h1 (sortU_rise l) fun x => ?_
 rw [h2, sortU_mem]
 exact (List.mergeSort_perm l _).mem_iff
end Go.Proofs.YtcgglolckkeeiaaGreat
namespace Go.Proofs.YtcgglolckkeeiaaGreat
set_option linter.unusedVariables false
open Go.Shelf
def lays189_ren : Go.Shelf.Ren := ⟨fun | 189 => 241 | 125 => 247 | 257 => 246 | 128 => 257 | 129 => 258 | 294 => 248 | 295 => 249 | 296 => 250 | 297 => 251 | 298 => 252 | 299 => 253 | 216 => 254 | 300 => 255 | 301 => 256 | 328 => 259 | 329 => 260 | 330 => 261 | 331 => 262 | 332 => 263 | 215 => 111 | 343 => 264 | n => n, fun | 28 => 22 | 3 => 3 | 46 => 247 | 0 => 0 | 51 => 150 | 53 => 55 | 4 => 4 | 183 => 299 | 182 => 298 | 131 => 304 | 5 => 5 | 9 => 9 | 218 => 307 | 222 => 136 | 228 => 312 | 229 => 231 | n => n, fun | n => n⟩
theorem lays189 : Go.Proofs.Lays.n189 Tryz.prog lays189_ren := {
 mixed := by kernel_rfl
 f125 := Tryz.func247.trans (congrArg some (by kernel_rfl))
 f128 := Tryz.func257.trans (congrArg some (by kernel_rfl))
 f129 := Tryz.func258.trans (congrArg some (by kernel_rfl))
 f189 := Tryz.func241.trans (congrArg some (by kernel_rfl))
 f215 := Tryz.func111.trans (congrArg some (by kernel_rfl))
 f216 := Tryz.func254.trans (congrArg some (by kernel_rfl))
 f257 := Tryz.func246.trans (congrArg some (by kernel_rfl))
 f294 := Tryz.func248.trans (congrArg some (by kernel_rfl))
 f295 := Tryz.func249.trans (congrArg some (by kernel_rfl))
 f296 := Tryz.func250.trans (congrArg some (by kernel_rfl))
 f297 := Tryz.func251.trans (congrArg some (by kernel_rfl))
 f298 := Tryz.func252.trans (congrArg some (by kernel_rfl))
 f299 := Tryz.func253.trans (congrArg some (by kernel_rfl))
 f300 := Tryz.func255.trans (congrArg some (by kernel_rfl))
 f301 := Tryz.func256.trans (congrArg some (by kernel_rfl))
 f328 := Tryz.func259.trans (congrArg some (by kernel_rfl))
 f329 := Tryz.func260.trans (congrArg some (by kernel_rfl))
 f330 := Tryz.func261.trans (congrArg some (by kernel_rfl))
 f331 := Tryz.func262.trans (congrArg some (by kernel_rfl))
 f332 := Tryz.func263.trans (congrArg some (by kernel_rfl))
 f343 := Tryz.func264.trans (congrArg some (by kernel_rfl))
 t0 := Tryz.underlying0
 a0 := Tryz.isAgg0
 z0 := Tryz.sizeOf0
 v0 := Tryz.zeroValue0
 t3 := Tryz.underlying3
 a3 := Tryz.isAgg3
 z3 := Tryz.sizeOf3
 v3 := Tryz.zeroValue3
 t4 := Tryz.underlying4
 a4 := Tryz.isAgg4
 z4 := Tryz.sizeOf4
 v4 := Tryz.zeroValue4
 t5 := Tryz.underlying5
 a5 := Tryz.isAgg5
 z5 := Tryz.sizeOf5
 v5 := Tryz.zeroValue5
 t9 := Tryz.underlying9
 a9 := Tryz.isAgg9
 z9 := Tryz.sizeOf9
 v9 := Tryz.zeroValue9
 t28 := Tryz.underlying22
 a28 := Tryz.isAgg22
 z28 := Tryz.sizeOf22
 v28 := Tryz.zeroValue22
 t46 := Tryz.underlying247
 a46 := Tryz.isAgg247
 z46 := Tryz.sizeOf247
 v46 := Tryz.zeroValue247
 t51 := Tryz.underlying150
 a51 := Tryz.isAgg150
 z51 := Tryz.sizeOf150
 v51 := Tryz.zeroValue150
 t53 := Tryz.underlying55
 a53 := Tryz.isAgg55
 z53 := Tryz.sizeOf55
 v53 := Tryz.zeroValue55
 t131 := Tryz.underlying304
 a131 := Tryz.isAgg304
 z131 := Tryz.sizeOf304
 v131 := Tryz.zeroValue304
 t182 := Tryz.underlying298
 a182 := Tryz.isAgg298
 z182 := Tryz.sizeOf298
 v182 := Tryz.zeroValue298
 t183 := Tryz.underlying299
 a183 := Tryz.isAgg299
 z183 := Tryz.sizeOf299
 v183 := Tryz.zeroValue299
 t218 := Tryz.underlying307
 a218 := Tryz.isAgg307
 z218 := Tryz.sizeOf307
 v218 := Tryz.zeroValue307
 t222 := Tryz.underlying136
 a222 := Tryz.isAgg136
 z222 := Tryz.sizeOf136
 v222 := Tryz.zeroValue136
 t228 := Tryz.underlying312
 a228 := Tryz.isAgg312
 z228 := Tryz.sizeOf312
 v228 := Tryz.zeroValue312
 t229 := Tryz.underlying231
 a229 := Tryz.isAgg231
 z229 := Tryz.sizeOf231
 v229 := Tryz.zeroValue231 }
open Go.Sort Go.RowKit in
theorem slices_Sort_int (blk off cap : Nat) (zs : List Int) (w : World) (hH : Holds (Value.int .i64) w blk off zs.toArray) (hblk : blk < w.heap.size) (hsz : zs.length < 4611686018427387904) :
 Calls Tryz.prog 241 #[.slice (some ⟨blk, off, none⟩) zs.length cap] w fun e w' =>
  e = .returned (.tuple #[]) ∧ ∃ n os, w' = grow (putRow (Value.int .i64) (Sort.ahead w n) blk off (zs.mergeSort fun x y => decide (x ≤ y)).toArray) os := Any.slices_Sort_int lays189 blk off cap zs w hH hblk hsz
def laysNm220_ren : Go.Shelf.Ren := ⟨fun | 20 => 242 | n => n, fun | 22 => 22 | 3 => 3 | 4 => 4 | 0 => 0 | n => n, fun | n => n⟩
theorem laysNm220 : Go.Proofs.Lays2.n20 Tryz.prog laysNm220_ren := {
 mixed := by kernel_rfl
 f20 := Tryz.func242.trans (congrArg some (by kernel_rfl))
 t0 := Tryz.underlying0
 a0 := Tryz.isAgg0
 z0 := Tryz.sizeOf0
 v0 := Tryz.zeroValue0
 t3 := Tryz.underlying3
 a3 := Tryz.isAgg3
 z3 := Tryz.sizeOf3
 v3 := Tryz.zeroValue3
 t4 := Tryz.underlying4
 a4 := Tryz.isAgg4
 z4 := Tryz.sizeOf4
 v4 := Tryz.zeroValue4
 t22 := Tryz.underlying22
 a22 := Tryz.isAgg22
 z22 := Tryz.sizeOf22
 v22 := Tryz.zeroValue22
 i3 := by kernel_rfl }
open Go.RowKit Go.Lib Go.Sort in
theorem slices_Compact_int (blk off cap : Nat) (zs : List Int) (w : World) (hH : Holds (Value.int .i64) w blk off zs.toArray) (hsz : zs.length ≤ 9223372036854775807) (hcap : zs.length ≤ cap) :
 Calls Tryz.prog 242 #[.slice (some ⟨blk, off, none⟩) zs.length cap] w fun e w' => e = .returned (.slice (some ⟨blk, off, none⟩) (Lib.compact zs).length cap) ∧ ∃ q, w' = putRow (Value.int .i64) (Sort.ahead w q) blk off (Lib.compact zs ++ List.replicate (zs.length - (Lib.compact zs).length) 0).toArray := Any.slices_Compact_int laysNm220 blk off cap zs w hH hsz hcap
end Go.Proofs.YtcgglolckkeeiaaGreat
