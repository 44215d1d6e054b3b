/- The walks over the methods of rules: kind. Conditions: stated in each theorem. -/
import Derived.Test.YtlglilmgklipdaaKdR
namespace Go.Proofs.Ytlglilmgklipdaa
set_option linter.unusedVariables false
open Go.RowKit Go.Deep

set_option maxHeartbeats 1000000 in
theorem plainKind_any (A : Option Addr) (n cap : Nat) (is : Int) (p : PgV) (x : Nd) (w : World) : Calls Try.prog 145 #[.agg #[.slice A n cap, .int .i64 is], .agg p.cells, .agg x.cells.toArray] w fun e w' => e = .returned (.int .i64 is) ∧ Below w.heap.size w w' := by
  go_enter Try.func145, Try.ntmps145
  go_wp2_with (refine at_box _ _ rfl ?_)
  refine Stop.to ?_
  refine wpList_box_gen rfl 129 _ rfl #[.slice A n cap, .int .i64 is] rfl ?_
  intro R Rw Rh Rr Rb
  go_wp2_with (refine at_box _ _ rfl ?_)
  refine Stop.to ?_
  refine wpList_box_gen rfl 25 _ rfl p.cells rfl ?_
  intro G Gw Gh Gr Gb
  go_wp2_with (refine at_box _ _ rfl ?_)
  refine Stop.to ?_
  refine wpList_box_gen rfl 44 _ rfl x.cells.toArray rfl ?_
  intro X Xw Xh Xr Xb
  have rR := (Rr.below Gb (Nat.lt_of_lt_of_le Rr.lt Gh)).below Xb (Nat.lt_of_lt_of_le (Rr.below Gb (Nat.lt_of_lt_of_le Rr.lt Gh)).lt Xh)
  have b1 := (Below.refl w.heap.size w).trans (Rb.mono Rh)
  have b2 := b1.trans ((Gb.mono Gh).mono b1.size)
  have b3 := b2.trans ((Xb.mono Xh).mono b2.size)
  have c1 := rR.cellv (i := 1) (v := .int .i64 is) rfl
  clear rR Rr Gr Xr Rb Gb Xb b1 b2 Rh Gh Xh
  go_wp2
  go_ret
  exact ⟨rfl, b3⟩

def scalarZ (V : List Int) (n : Int) (b : Bool) : Int := if plainV V n then (if b then 2 else (V[n.toNat]?).getD 0) else -1
set_option maxHeartbeats 2000000 in
theorem scalarKind_any (b : Bool) (p : PgV) (t n : Int) (w : World) (hok : p.ok w) (hn : 0 ≤ n) : Calls Try.prog 146 #[.agg #[.bool b], .agg p.cells, .agg (Nd.cells ⟨t, n⟩).toArray] w fun e w' => e = .returned (.int .i64 (scalarZ p.V n b)) ∧ Below w.heap.size w w' := by
  have Hok := Lib.hid hok
  clear hok
  obtain ⟨k, rfl⟩ : ∃ k : Nat, n = (k : Int) := ⟨n.toNat, by omega⟩
  obtain ⟨params, va, vcap, V, ba, bcap, body⟩ := p
  dsimp only
  rw [show (PgV.mk params va vcap V ba bcap body).cells = #[.int .i64 params, .slice va V.length vcap, .slice ba body.length bcap] from rfl, show (Nd.cells ⟨t, (k : Int)⟩).toArray = #[.int .i64 t, .int .i64 (k : Int)] from rfl]
  go_enter Try.func146, Try.ntmps146
  go_wp2_with (refine at_box _ _ rfl ?_)
  refine Stop.to ?_
  refine wpList_box_gen rfl 131 _ rfl #[.bool b] rfl ?_
  intro R Rw Rh Rr Rb
  go_wp2_with (refine at_box _ _ rfl ?_)
  refine Stop.to ?_
  refine wpList_box_gen rfl 25 _ rfl #[.int .i64 params, .slice va V.length vcap, .slice ba body.length bcap] rfl ?_
  intro G Gw Gh Gr Gb
  go_wp2_with (refine at_box _ _ rfl ?_)
  refine Stop.to ?_
  refine wpList_box_gen rfl 44 _ rfl #[.int .i64 t, .int .i64 (k : Int)] rfl ?_
  intro X Xw Xh Xr Xb
  have rG := Gr.below Xb (Nat.lt_of_lt_of_le Gr.lt Xh)
  have rR := (Rr.below Gb (Nat.lt_of_lt_of_le Rr.lt Gh)).below Xb (Nat.lt_of_lt_of_le (Rr.below Gb (Nat.lt_of_lt_of_le Rr.lt Gh)).lt Xh)
  have b1 := (Below.refl w.heap.size w).trans (Rb.mono Rh)
  have b2 := b1.trans ((Gb.mono Gh).mono b1.size)
  have b3 := b2.trans ((Xb.mono Xh).mono b2.size)
  have c0 := rR.cellv (i := 0) (v := .bool b) rfl
  have c1 := rG.cellv (i := 1) (v := .slice va V.length vcap) rfl
  have c2 := Xr.cellv (i := 1) (v := .int .i64 (k : Int)) rfl
  have Hvr := Lib.hid (Hok.out.go b3).vrd
  dsimp only at Hvr
  clear rR rG Rr Gr Xr Rb Gb Xb b1 b2 Rh Gh Xh Hok
  by_cases hk : k < V.length
  rotate_left
  · have hz : Hid (scalarZ V (k : Int) b = -1) := by show _ = _; unfold scalarZ plainV; rw [Int.toNat_natCast, List.getElem?_eq_none (by omega)]; rfl
    have hk' : (V.length : Int) ≤ (k : Int) := by omega
    clear hk
    go_wp2
    go_ret
    exact ⟨ret_i hz.out, b3⟩
  obtain ⟨v, hv⟩ : ∃ v, V[k]? = some v := ⟨_, List.getElem?_eq_getElem hk⟩
  obtain ⟨ad, had, hc⟩ := int_at Hvr.out hv
  have hk' : (k : Int) < (V.length : Int) := by omega
  subst had
  by_cases h01 : v = 0 ∨ v = 1
  · have hz : Hid (scalarZ V (k : Int) b = if b then 2 else v) := by
      show _ = _
      unfold scalarZ plainV
      rw [Int.toNat_natCast, hv]
      simp only
      rw [if_pos (by simpa using h01)]; rfl
    clear hv hk
    rcases h01 with rfl | rfl
    all_goals
      cases b
      all_goals
        go_wp2
        go_ret
        exact ⟨ret_i hz.out, b3⟩
  · have hz : Hid (scalarZ V (k : Int) b = -1) := by
      show _ = _
      unfold scalarZ plainV
      rw [Int.toNat_natCast, hv]
      simp only
      rw [if_neg (by simpa using h01)]
    have e0 : (v != 0) = true := by simp; omega
    have e1 : (v != 1) = true := by simp; omega
    clear hv hk h01
    go_wp2
    go_ret
    exact ⟨ret_i hz.out, b3⟩
def arrayZ (V : List Int) (n is : Int) : Int := if arrayV V n then is else -1
set_option maxHeartbeats 2000000 in
theorem arrayKind_any (A : Option Addr) (m cap : Nat) (is : Int) (p : PgV) (t n : Int) (w : World) (hok : p.ok w) (hn : 0 ≤ n) : Calls Try.prog 147 #[.agg #[.slice A m cap, .int .i64 is], .agg p.cells, .agg (Nd.cells ⟨t, n⟩).toArray] w fun e w' => e = .returned (.int .i64 (arrayZ p.V n is)) ∧ Below w.heap.size w w' := by
  have Hok := Lib.hid hok
  clear hok
  obtain ⟨k, rfl⟩ : ∃ k : Nat, n = (k : Int) := ⟨n.toNat, by omega⟩
  obtain ⟨params, va, vcap, V, ba, bcap, body⟩ := p
  dsimp only
  rw [show (PgV.mk params va vcap V ba bcap body).cells = #[.int .i64 params, .slice va V.length vcap, .slice ba body.length bcap] from rfl, show (Nd.cells ⟨t, (k : Int)⟩).toArray = #[.int .i64 t, .int .i64 (k : Int)] from rfl]
  go_enter Try.func147, Try.ntmps147
  go_wp2_with (refine at_box _ _ rfl ?_)
  refine Stop.to ?_
  refine wpList_box_gen rfl 133 _ rfl #[.slice A m cap, .int .i64 is] rfl ?_
  intro R Rw Rh Rr Rb
  go_wp2_with (refine at_box _ _ rfl ?_)
  refine Stop.to ?_
  refine wpList_box_gen rfl 25 _ rfl #[.int .i64 params, .slice va V.length vcap, .slice ba body.length bcap] rfl ?_
  intro G Gw Gh Gr Gb
  go_wp2_with (refine at_box _ _ rfl ?_)
  refine Stop.to ?_
  refine wpList_box_gen rfl 44 _ rfl #[.int .i64 t, .int .i64 (k : Int)] rfl ?_
  intro X Xw Xh Xr Xb
  have rG := Gr.below Xb (Nat.lt_of_lt_of_le Gr.lt Xh)
  have rR := (Rr.below Gb (Nat.lt_of_lt_of_le Rr.lt Gh)).below Xb (Nat.lt_of_lt_of_le (Rr.below Gb (Nat.lt_of_lt_of_le Rr.lt Gh)).lt Xh)
  have b1 := (Below.refl w.heap.size w).trans (Rb.mono Rh)
  have b2 := b1.trans ((Gb.mono Gh).mono b1.size)
  have b3 := b2.trans ((Xb.mono Xh).mono b2.size)
  have c0 := rR.cellv (i := 1) (v := .int .i64 is) rfl
  have c1 := rG.cellv (i := 1) (v := .slice va V.length vcap) rfl
  have c2 := Xr.cellv (i := 1) (v := .int .i64 (k : Int)) rfl
  have Hvr := Lib.hid (Hok.out.go b3).vrd
  have Hin := Lib.hid Hok.out.vin
  dsimp only at Hvr Hin
  clear rR rG Rr Gr Xr Rb Gb Xb b1 b2 Rh Gh Xh Hok
  by_cases hk : k < V.length
  rotate_left
  · have hz : Hid (arrayZ V (k : Int) is = -1) := by show _ = _; unfold arrayZ arrayV; rw [Int.toNat_natCast, List.getElem?_eq_none (by omega)]; rfl
    have hk' : (V.length : Int) ≤ (k : Int) := by omega
    clear hk
    go_wp2
    go_ret
    exact ⟨ret_i hz.out, b3⟩
  obtain ⟨v, hv⟩ : ∃ v, V[k]? = some v := ⟨_, List.getElem?_eq_getElem hk⟩
  obtain ⟨ad, had, hc⟩ := int_at Hvr.out hv
  have Hi := Lib.hid (Hin.out v (List.mem_of_getElem? hv))
  have hk' : (k : Int) < (V.length : Int) := by omega
  subst had
  by_cases h01 : sizeZ v = 0
  · have hz : Hid (arrayZ V (k : Int) is = -1) := by
      show _ = _
      unfold arrayZ arrayV
      rw [Int.toNat_natCast, hv]
      simp only
      rw [if_neg (by simpa using h01)]
    have e0 : (sizeZ v == 0) = true := by simpa using h01
    clear hv hk h01
    go_wp2_with (go_at_call 20; refine (size_any v _ Hi.out).mono ?_; rintro e w' ⟨rfl, rfl⟩)
    go_ret
    exact ⟨ret_i hz.out, b3⟩
  · have hz : Hid (arrayZ V (k : Int) is = is) := by
      show _ = _
      unfold arrayZ arrayV
      rw [Int.toNat_natCast, hv]
      simp only
      rw [if_pos (by simpa using h01)]
    have e0 : (sizeZ v == 0) = false := by simpa using h01
    clear hv hk h01
    go_wp2_with (go_at_call 20; refine (size_any v _ Hi.out).mono ?_; rintro e w' ⟨rfl, rfl⟩)
    go_ret
    exact ⟨ret_i hz.out, b3⟩
end Go.Proofs.Ytlglilmgklipdaa
