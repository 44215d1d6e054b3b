/- Lemmas for JnCll. -/
import Derived.Test.YtcgglolckkeeiaaGreatZl4
namespace Go.Proofs.YtcgglolckkeeiaaGreat
set_option linter.unusedVariables false
open Go.RowKit Go.Deep
section
variable {A : Option Addr} {n cap : Nat} {is : Int} {b : Bool} {w : World}
theorem ta_pp : (Instr.typeAssert (.iface 237 (.agg #[.slice A n cap, .int .i64 is])) 243 237 true).run Tryz.prog w = .ok (.tuple #[.agg #[.slice A n cap, .int .i64 is], .bool true]) w := by kernel_rfl
theorem ta_ap : (Instr.typeAssert (.iface 241 (.agg #[.slice A n cap, .int .i64 is])) 243 237 true).run Tryz.prog w = .ok (.tuple #[.agg #[.slice none 0 0, .int .i64 0], .bool false]) w := by kernel_rfl
theorem ta_aa : (Instr.typeAssert (.iface 241 (.agg #[.slice A n cap, .int .i64 is])) 243 241 true).run Tryz.prog w = .ok (.tuple #[.agg #[.slice A n cap, .int .i64 is], .bool true]) w := by kernel_rfl
theorem ta_sp : (Instr.typeAssert (.iface 239 (.agg #[.bool b])) 243 237 true).run Tryz.prog w = .ok (.tuple #[.agg #[.slice none 0 0, .int .i64 0], .bool false]) w := by kernel_rfl
theorem ta_sa : (Instr.typeAssert (.iface 239 (.agg #[.bool b])) 243 241 true).run Tryz.prog w = .ok (.tuple #[.agg #[.slice none 0 0, .int .i64 0], .bool false]) w := by kernel_rfl
theorem ta_ss : (Instr.typeAssert (.iface 239 (.agg #[.bool b])) 243 239 true).run Tryz.prog w = .ok (.tuple #[.agg #[.bool b], .bool true]) w := by kernel_rfl
theorem ta_np : (Instr.typeAssert .nilIface 243 237 true).run Tryz.prog w = .ok (.tuple #[.agg #[.slice none 0 0, .int .i64 0], .bool false]) w := by kernel_rfl
theorem ta_na : (Instr.typeAssert .nilIface 243 241 true).run Tryz.prog w = .ok (.tuple #[.agg #[.slice none 0 0, .int .i64 0], .bool false]) w := by kernel_rfl
theorem ta_ns : (Instr.typeAssert .nilIface 243 239 true).run Tryz.prog w = .ok (.tuple #[.agg #[.bool false], .bool false]) w := by kernel_rfl
theorem zero_plain : (zeroValue 237).run Tryz.prog w = .ok (.agg #[.slice none 0 0, .int .i64 0]) w := by kernel_rfl
theorem zero_arrayK : (zeroValue 241).run Tryz.prog w = .ok (.agg #[.slice none 0 0, .int .i64 0]) w := by kernel_rfl
theorem zero_scalarK : (zeroValue 239).run Tryz.prog w = .ok (.agg #[.bool false]) w := by kernel_rfl
end
set_option maxHeartbeats 2000000 in
theorem asked_plain (A : Option Addr) (n cap : Nat) (is : Int) (p : PgV) (x : Nd) (m : Int) (w : World) : Calls Tryz.prog 189 #[.agg p.cells, .agg x.cells.toArray, .iface 237 (.agg #[.slice A n cap, .int .i64 is]), .int .i64 m] w fun e w' => e = .returned (.slice A n cap) ∧ Below w.heap.size w w' := by
 have t1 := fun w => ta_pp (A := A) (n := n) (cap := cap) (is := is) (w := w)
 go_enter Tryz.func189, Tryz.ntmps189
 go_wp2_with (refine at_box _ _ rfl ?_)
 refine Stop.to ?_
 refine wpList_box_gen rfl 25 _ rfl p.cells rfl ?_
 intro G Gw Gh Gr Gb
 go_wp2_with (refine at_box _ _ rfl ?_)
 refine Stop.to ?_
 refine wpList_box_gen rfl 74 _ rfl x.cells.toArray rfl ?_
 intro X Xw Xh Xr Xb
 have b1 := (Below.refl w.heap.size w).trans (Gb.mono Gh)
 have b2 := b1.trans ((Xb.mono Xh).mono b1.size)
 go_wp2_with (refine at_alloc _ rfl ?_)
 refine Stop.to ?_
 refine wpList_alloc_gen rfl 237 rfl _ _ zero_plain rfl ?_
 intro R Rw Rh Rr Rb
 go_wp2_with (refine at_store _ _ _ rfl ?_)
 refine Stop.to ?_
 refine wpList_store_gen rfl 237 _ _ rfl R #[.slice A n cap, .int .i64 is] rfl rfl 237 _ Rr (by kernel_rfl) rfl (by simp [Value.oneCell']) ?_
 intro RW RR RO
 have RB : Below Rw.heap.size Rw Rw := Below.refl _ _
 have b3 := (b2.trans ((Rb.mono Rh).mono b2.size)).trans (RO.below (by have := b2.size; omega))
 have c0 := RR.cellv (i := 0) (v := .slice A n cap) rfl
 clear RR RO Rr Rb Gr Gb Xr Xb b1 b2 Gh Xh Rh RB
 go_wp2
 go_ret
 exact ⟨rfl, b3⟩
set_option maxHeartbeats 2000000 in
theorem asked_array (A : Option Addr) (n cap : Nat) (is : Int) (p : PgV) (x : Nd) (m : Int) (w : World) : Calls Tryz.prog 189 #[.agg p.cells, .agg x.cells.toArray, .iface 241 (.agg #[.slice A n cap, .int .i64 is]), .int .i64 m] w fun e w' => e = .returned (.slice A n cap) ∧ Below w.heap.size w w' := by
 have t1 := fun w => ta_ap (A := A) (n := n) (cap := cap) (is := is) (w := w)
 have t2 := fun w => ta_aa (A := A) (n := n) (cap := cap) (is := is) (w := w)
 go_enter Tryz.func189, Tryz.ntmps189
 go_wp2_with (refine at_box _ _ rfl ?_)
 refine Stop.to ?_
 refine wpList_box_gen rfl 25 _ rfl p.cells rfl ?_
 intro G Gw Gh Gr Gb
 go_wp2_with (refine at_box _ _ rfl ?_)
 refine Stop.to ?_
 refine wpList_box_gen rfl 74 _ rfl x.cells.toArray rfl ?_
 intro X Xw Xh Xr Xb
 have b1 := (Below.refl w.heap.size w).trans (Gb.mono Gh)
 have b2 := b1.trans ((Xb.mono Xh).mono b1.size)
 go_wp2_with (refine at_alloc _ rfl ?_)
 refine Stop.to ?_
 refine wpList_alloc_gen rfl 241 rfl _ _ zero_arrayK rfl ?_
 intro R Rw Rh Rr Rb
 go_wp2_with (refine at_store _ _ _ rfl ?_)
 refine Stop.to ?_
 refine wpList_store_gen rfl 241 _ _ rfl R #[.slice A n cap, .int .i64 is] rfl rfl 241 _ Rr (by kernel_rfl) rfl (by simp [Value.oneCell']) ?_
 intro RW RR RO
 have RB : Below Rw.heap.size Rw Rw := Below.refl _ _
 have b3 := (b2.trans ((Rb.mono Rh).mono b2.size)).trans (RO.below (by have := b2.size; omega))
 have c0 := RR.cellv (i := 0) (v := .slice A n cap) rfl
 clear RR RO Rr Rb Gr Gb Xr Xb b1 b2 Gh Xh Rh RB
 go_wp2
 go_ret
 exact ⟨rfl, b3⟩
structure WantR (want : List Int) (w w' : World) (e : Ending) : Prop where
 ex : ∃ A cap, e = .returned (.slice A want.length cap) ∧ Rd w' A (ints want) ∧ Below w.heap.size w w'
def scalarW (V : List Int) (n : Int) (b : Bool) : List Int := if b ∧ n.toNat < V.length then [(V[n.toNat]?).getD 0] else []
set_option maxHeartbeats 2000000 in
theorem asked_scalar (b : Bool) (p : PgV) (t n : Int) (hn : 0 ≤ n) (m : Int) (w : World) (hok : p.ok w) : Calls Tryz.prog 189 #[.agg p.cells, .agg (Nd.cells ⟨t, n⟩).toArray, .iface 239 (.agg #[.bool b]), .int .i64 m] w fun e w' => WantR (scalarW p.V n b) w w' e := by
 have Hok := Lib.hid hok
 clear hok
 obtain ⟨k, rfl⟩ : ∃ k : Nat, n = (k : Int) := ⟨n.toNat, by omega⟩
 obtain ⟨params, va, vcap, V, ba, bcap, body⟩ := p
 dsimp only
 have Hcap := Lib.hid Hok.out.vlen
 have Hmax := Lib.hid Hok.out.vmax
 dsimp only at Hcap Hmax
 rw [show (PgV.mk params va vcap V ba bcap body).cells = #[.int .i64 params, .slice va V.length vcap, .slice ba body.length bcap] from rfl, show (Nd.cells ⟨t, (k : Int)⟩).toArray = #[.int .i64 t, .int .i64 (k : Int)] from rfl]
 have t1 := fun w => ta_sp (b := b) (w := w)
 have t2 := fun w => ta_sa (b := b) (w := w)
 have t3 := fun w => ta_ss (b := b) (w := w)
 go_enter Tryz.func189, Tryz.ntmps189
 go_wp2_with (refine at_box _ _ rfl ?_)
 refine Stop.to ?_
 refine wpList_box_gen rfl 25 _ rfl #[.int .i64 params, .slice va V.length vcap, .slice ba body.length bcap] rfl ?_
 intro G Gw Gh Gr Gb
 go_wp2_with (refine at_box _ _ rfl ?_)
 refine Stop.to ?_
 refine wpList_box_gen rfl 74 _ rfl #[.int .i64 t, .int .i64 (k : Int)] rfl ?_
 intro X Xw Xh Xr Xb
 have b1 := (Below.refl w.heap.size w).trans (Gb.mono Gh)
 have b2 := b1.trans ((Xb.mono Xh).mono b1.size)
 go_wp2_with (refine at_alloc _ rfl ?_)
 refine Stop.to ?_
 refine wpList_alloc_gen rfl 239 rfl _ _ zero_scalarK rfl ?_
 intro R Rw Rh Rr Rb
 go_wp2_with (refine at_store _ _ _ rfl ?_)
 refine Stop.to ?_
 refine wpList_store_gen rfl 239 _ _ rfl R #[.bool b] rfl rfl 239 _ Rr (by kernel_rfl) rfl (by simp [Value.oneCell']) ?_
 intro RW RR RO
 have RB : Below Rw.heap.size Rw Rw := Below.refl _ _
 have b23 : Below Xw.heap.size Xw RW := (Rb.mono Rh).trans (RO.below Rh)
 have rG := (Gr.below Xb (Nat.lt_of_lt_of_le Gr.lt Xh)).below b23 (by have := (Gr.below Xb (Nat.lt_of_lt_of_le Gr.lt Xh)).lt; omega)
 have rX := Xr.below b23 Xr.lt
 have b3 := b2.trans (b23.mono b2.size)
 have c0 := RR.cellv (i := 0) (v := .bool b) rfl
 have c1 := rG.cellv (i := 1) (v := .slice va V.length vcap) rfl
 have c2 := rX.cellv (i := 1) (v := .int .i64 (k : Int)) rfl
 have Hvr := Lib.hid (Hok.out.go b3).vrd
 dsimp only at Hvr
 clear RR RO Rr Rb Gr Gb Xr Xb b1 b2 Gh Xh Rh RB b23 rG rX Hok t1 t2 t3
 cases b with
 | false =>
  have hz : Hid (scalarW V (k : Int) false = []) := by show _ = _; unfold scalarW; rw [if_neg (by simp)]
  go_wp2
  go_ret
  exact ⟨none, 0, by rw [hz.out]; rfl, by rw [hz.out]; exact Rd.nil _ _, b3⟩
 | true =>
  by_cases hk : k < V.length
  · obtain ⟨v, hv⟩ : ∃ v, V[k]? = some v := ⟨_, List.getElem?_eq_getElem hk⟩
    obtain ⟨ad, had, hc⟩ := int_at Hvr.out hv
    have hz : Hid (scalarW V (k : Int) true = [v]) := by show _ = _; unfold scalarW; rw [Int.toNat_natCast, if_pos ⟨rfl, hk⟩, hv]; rfl
    have hk' : (k : Int) < (V.length : Int) := by omega
    have hcap := Hcap.out
    have hmax := Hmax.out
    unfold maxLen at hmax
    have hcne : ¬ vcap = k := by omega
    have Hc := Lib.hid hc
    subst had
    clear hv hk hc
    go_wp2
    go_ret
    refine ⟨some (ad.add k), vcap - k, by rw [hz.out]; rfl, ?_, b3⟩
    rw [hz.out]
    intro j u hj
    refine ⟨_, rfl, ?_⟩
    have hj0 : j = 0 := by
     have := (List.getElem?_eq_some_iff.1 hj).1
     simp [ints] at this; exact this
    subst hj0
    have hu : Value.int .i64 v = u := by simpa [ints] using hj
    rw [add_add', Nat.add_zero, ← hu]; exact Hc.out
  · have hz : Hid (scalarW V (k : Int) true = []) := by show _ = _; unfold scalarW; rw [if_neg (by simp; omega)]
    have hk' : (V.length : Int) ≤ (k : Int) := by omega
    clear hk
    go_wp2
    go_ret
    exact ⟨none, 0, by rw [hz.out]; rfl, by rw [hz.out]; exact Rd.nil _ _, b3⟩
set_option maxHeartbeats 2000000 in
theorem asked_nil (p : PgV) (x : Nd) (m : Nat) (hm : m ≤ 1000) (w : World) : Calls Tryz.prog 189 #[.agg p.cells, .agg x.cells.toArray, .nilIface, .int .i64 (m : Int)] w fun e w' => WantR (List.replicate m 2) w w' e := by
 have t1 := fun w => ta_np (w := w)
 have t2 := fun w => ta_na (w := w)
 have t3 := fun w => ta_ns (w := w)
 go_enter Tryz.func189, Tryz.ntmps189
 go_wp2_with (refine at_box _ _ rfl ?_)
 refine Stop.to ?_
 refine wpList_box_gen rfl 25 _ rfl p.cells rfl ?_
 intro G Gw Gh Gr Gb
 go_wp2_with (refine at_box _ _ rfl ?_)
 refine Stop.to ?_
 refine wpList_box_gen rfl 74 _ rfl x.cells.toArray rfl ?_
 intro X Xw Xh Xr Xb
 have b1 := (Below.refl w.heap.size w).trans (Gb.mono Gh)
 have b2 := b1.trans ((Xb.mono Xh).mono b1.size)
 go_wp2_with fail
 refine (repeat_any Xw.heap.size 1 m 2 _ (Row.new Xw 3 #[.int .i64 2]) hm).mono ?_
 rintro e w4 ⟨v, rfl, hown, b4⟩
 have b4 := b2.trans ((((Below.refl _ _).alloc (Nat.le_refl _) _).trans (b4.mono (by simp))).mono b2.size)
 obtain ⟨A, cap, rfl, hrd, _, _⟩ := own_rd hown
 have Hrd := Lib.hid hrd
 clear hown hrd
 go_wp2
 go_ret
 refine ⟨A, cap, ?_, Hrd.out, b4⟩
 rw [List.length_replicate]; rfl
end Go.Proofs.YtcgglolckkeeiaaGreat
