/- Lemmas for CoAll. -/
import Derived.Test.YtcgglolckkeeiaaGreatZo25
import Derived.Test.YtcgglolckkeeiaaGreatZo26
import Derived.Test.YtcgglolckkeeiaaGreatZo21
import Derived.Test.YtcgglolckkeeiaaGreatZo1
import Derived.Test.YtcgglolckkeeiaaGreatZo20
set_option linter.unusedVariables false
set_option linter.unusedSimpArgs false
namespace Go.Proofs.YtcgglolckkeeiaaGreat
open Go.RowKit Go.Deep
theorem RdEff.only {g D : Nat} {w W W' : World} (h : RdEff g w W) (o : Only D W W') (hD : w.heap.size ≤ D) : RdEff g w W' :=
 ⟨o.os.trans h.os, o.tape.trans h.tape, o.output.trans h.output, by rw [o.size]; exact h.size, fun k hk hne => (o.block k (by omega)).trans (h.block k hk hne)⟩
theorem MtT.eff {w w' : World} {x : MtV} {g : Nat} {s : List UInt8} {r : Rs} (h : MtT w x) (hg : RdO w g s r) (e : RdEff g w w') : MtT w' x :=
 h.same fun a cs _ k => e.row k (fun e2 => by
  rw [e2] at k
  have h1 : w.heap[g]? = _ := k
  rw [show w.heap[g]? = _ from hg] at h1
  injection h1 with h1
  injection h1 with _ h1
  exact absurd h1 (by decide))
theorem rText_pl {s : List UInt8} {r : Rs} {most : Int} (h : r.pl ≤ s.length) : (rText s r most).2.pl ≤ s.length := by
 unfold rText
 have hc := countP_pl (s := s) (pl := r.pl) most h
 split
 · refine step_pl h fun e => ?_
   unfold partP at e ⊢
   split
   · rename_i hc; rw [if_pos hc] at e; exact absurd (show (2 : Int) = 0 from e) (by decide)
   · dsimp only; omega
 · exact step_pl h fun _ => hc
theorem rText_len (s : List UInt8) (r : Rs) (most : Int) : (rText s r most).1.length ≤ s.length := by
 unfold rText partP Rs.step
 repeat' split
 all_goals (simp only [List.length_take, List.length_drop, List.length_nil]; omega)
theorem rRaw_len (s : List UInt8) (r : Rs) (n : Nat) : (rRaw s r n).1.length ≤ s.length := by
 unfold rRaw partP Rs.step
 repeat' split
 all_goals (simp only [List.length_take, List.length_drop, List.length_nil]; omega)
theorem rInt_pl {s : List UInt8} {r : Rs} (h : r.pl ≤ s.length) : (rInt s r).2.pl ≤ s.length := step_pl h fun _ => by
 have := getL_len (s.drop r.pl)
 simp only [List.length_drop] at this
 dsimp only
 omega
theorem rCount_pl {s : List UInt8} {r : Rs} {most : Int} (h : r.pl ≤ s.length) : (rCount s r most).2.pl ≤ s.length := rCountZ_pl (z := 0) h
structure MtGot (s : List UInt8) (r : Rs) (g : Nat) (w w' : World) (e : Ending) (y : MtV) : Prop where
 e : e = .returned (.agg y.cells.toArray)
 m : y.m = (mtRd s r).1
 t : MtT w' y
 rd : RdO w' g s (mtRd s r).2
 eff : RdEff g w w'
 n : InI y.m.d.n
 v : InI y.m.value
theorem dl_mt {W : World} {y : DlV} (h : DlT W y) (v t k u : Int) (g : List UInt8) (hg : g.length ≤ 1000000) : MtT W ⟨y.A, y.cap, ⟨y.d, v, t, k, u, g⟩⟩ :=
 ⟨⟨h.ok.rd, h.ok.len, h.nil, hg⟩, h.ib⟩
theorem mtRd_eq (s : List UInt8) (r : Rs) : mtRd s r = if (rByte s (rText s r 1048576).2).1 = 0 then (⟨(getDl (rText s r 1048576).1).1, 0, -1, 0, 0, []⟩, (rByte s (rText s r 1048576).2).2) else
 (⟨(getDl (rText s r 1048576).1).1, (rByte s (rText s r 1048576).2).1, (rCount s (rByte s (rText s r 1048576).2).2 20).1, (rByte s (rCount s (rByte s (rText s r 1048576).2).2 20).2).1, (rInt s (rByte s (rCount s (rByte s (rText s r 1048576).2).2 20).2).2).1, (rRaw s (rInt s (rByte s (rCount s (rByte s (rText s r 1048576).2).2 20).2).2).2 32).1⟩, (rRaw s (rInt s (rByte s (rCount s (rByte s (rText s r 1048576).2).2 20).2).2).2 32).2) := by rw [mtRd]
set_option maxRecDepth 100000 in
set_option maxHeartbeats 8000000 in
theorem mtGet_any (g : Nat) (s : List UInt8) (r : Rs) (w : World) (hp : r.pl ≤ s.length) (hs : s.length ≤ 1000000) (h : RdO w g s r) :
 Calls Tryz.prog 97 #[.pointer (some ⟨g, 0, none⟩)] w fun e w' => ∃ y, MtGot s r g w w' e y := by
 have Hs := Lib.hid hs
 have Hp := Lib.hid hp
 have Hres := Lib.hid (mtRd_eq s r)
 obtain ⟨res, hres⟩ : ∃ p, p = mtRd s r := ⟨_, rfl⟩
 have Hfin : Hid (∀ w' e y, (e = .returned (.agg y.cells.toArray) ∧ y.m = res.1 ∧ MtT w' y ∧ RdO w' g s res.2 ∧ RdEff g w w' ∧ InI y.m.d.n ∧ InI y.m.value) → ∃ y, MtGot s r g w w' e y) := Lib.hid (by
  rintro w' e y ⟨h1, h2, h3, h4, h5, h6, h7⟩
  rw [hres] at h2 h4
  exact ⟨y, h1, h2, h3, h4, h5, h6, h7⟩)
 rw [← hres] at Hres
 clear hs hp hres
 go_enter Tryz.func97, Tryz.ntmps97
 go_wp2_with (first | fail | (refine at_alloc _ rfl ?_))
 refine Stop.to ?_
 refine wpList_alloc_gen rfl 47 rfl _ _ (zero_mt _) rfl ?_
 intro R Rw Rh Rr Rb
 have hzb : (Instr.build 47 #[(2, .int .i64 (-1))]).run Tryz.prog Rw = .ok (.agg #[.slice none 0 0, .int .i64 0, .int .i64 0, .int .i64 0, .int .i64 (-1), .int .i64 0, .int .i64 0, .string ByteArray.empty]) Rw := by kernel_rfl
 go_wp2_with (first | fail | (refine at_alloc _ rfl ?_))
 refine Stop.to ?_
 refine wpList_alloc_gen rfl 47 rfl _ _ (zero_mt _) rfl ?_
 intro D Dw Dh Dr Db
 go_wp2_with (refine at_store _ _ _ rfl ?_)
 refine Stop.to ?_
 refine wpList_store_gen rfl 47 _ _ rfl D #[.slice none 0 0, .int .i64 0, .int .i64 0, .int .i64 0, .int .i64 (-1), .int .i64 0, .int .i64 0, .string ByteArray.empty] rfl rfl 47 _ Dr (by kernel_rfl) rfl (by simp [Value.oneCell']) ?_
 intro Dx Ds Do
 have Dc := (Db.mono Dh).trans (Do.below Dh)
 clear Db Dr Do
 have Rr' : Row Rw R 47 #[.slice none 0 0, .int .i64 0, .int .i64 0, .int .i64 0, .int .i64 0, .int .i64 0, .int .i64 0, .string ByteArray.empty] := Rr
 have lRD : R < D := Nat.lt_of_lt_of_le Rr'.lt Dh
 have lgR : g < R := Nat.lt_of_lt_of_le (Row.lt h) Rh
 have hwD : w.heap.size ≤ D := by omega
 have rr2 := Rr'.below Dc Rr'.lt
 have h2 := (h.go (Rb.mono Rh)).go Dc
 have ef2 : RdEff g w Dx := RdEff.of_below (((Below.refl w.heap.size w).trans (Rb.mono Rh)).trans (Dc.mono (by have := Rr'.lt; omega)))
 clear Rr Rr' Rb Dc Dh h hzb
 go_wp2_with fail
 refine (rtext_any g s r 1048576 Hp.out Hs.out (by omega) (by omega) Dx h2).mono ?_
 rintro e w3 ⟨rfl, h3, eN⟩
 have rr3 := eN.row rr2 (by omega)
 have rd3 := eN.row Ds (by omega)
 have ef3 := ef2.trans eN
 clear rr2 Ds ef2 h2 eN
 have Htp := Lib.hid (rText_pl (most := 1048576) Hp.out)
 have Htl := Lib.hid (Nat.le_trans (rText_len s r 1048576) Hs.out)
 obtain ⟨⟨t, r1⟩, hc⟩ : ∃ p, p = rText s r 1048576 := ⟨_, rfl⟩
 rw [← hc] at h3 Hres Htp Htl ⊢
 clear hc
 dsimp only at h3 Hres Htp Htl ⊢
 go_wp2_with fail
 refine (dlGet_any t w3 Htl.out).mono ?_
 rintro e w4 ⟨⟨A, cap, ⟨path, op, n⟩⟩, gd, rfl, gok, gb, gn⟩
 have rr4 := rr3.below gb rr3.lt
 have rd4 := rd3.below gb rd3.lt
 have h4 := h3.go gb
 have ef4 := ef3.trans (RdEff.of_below gb)
 have Gok := Lib.hid gok
 have Gn := Lib.hid gn
 clear rr3 rd3 h3 ef3 gb gok gn
 obtain ⟨⟨gl, ge⟩, hgl⟩ : ∃ p, p = getDl t := ⟨_, rfl⟩
 rw [← hgl] at gd Hres ⊢
 dsimp only at gd Hres ⊢
 subst gd
 clear hgl Htl
 go_wp2_with (refine at_store _ _ _ rfl ?_)
 refine Stop.to ?_
 refine wpList_store_part rfl 42 _ _ rfl D 0 rfl (.agg #[.slice A path.length cap, .int .i64 op, .int .i64 n]) rfl [.slice A path.length cap, .int .i64 op, .int .i64 n] rfl 47 _ #[.slice A path.length cap, .int .i64 op, .int .i64 n, .int .i64 0, .int .i64 (-1), .int .i64 0, .int .i64 0, .string ByteArray.empty] rd4 (by kernel_rfl) (by show 0 + 3 ≤ 8; omega) (by simp [Value.oneCell']) rfl ?_
 intro w5 rd5 o5
 have rr5 := rr4.only o5 (by omega)
 have ef5 := ef4.only o5 hwD
 have h5 := Row.only h4 o5 (by omega)
 have Ht5 := Lib.hid (Gok.out.only rd4 (by decide) o5)
 clear rd4 rr4 ef4 h4 Gok o5
 go_wp2_with fail
 refine (rbyte_any g s r1 Htp.out Hs.out w5 h5).mono ?_
 rintro e w6 ⟨rfl, h6, eN⟩
 have rr6 := eN.row rr5 (by omega)
 have rd6 := eN.row rd5 (by omega)
 have ef6 := ef5.trans eN
 have Ht6 := Lib.hid (Ht5.out.eff h5 eN)
 clear rr5 rd5 ef5 Ht5 h5 eN
 have Hbp := Lib.hid (rByte_pl (s := s) (r := r1) Htp.out)
 have hbl := rByte_lt s r1
 obtain ⟨⟨bn, r2⟩, hc⟩ : ∃ p, p = rByte s r1 := ⟨_, rfl⟩
 rw [← hc] at h6 Hres Hbp hbl ⊢
 clear hc
 dsimp only at h6 Hres Hbp hbl ⊢
 by_cases hb0 : bn = 0
 · subst hb0
   rw [if_pos rfl] at Hres
   have rd7 : Row ((w6).setCell ⟨D, 3, none⟩ (.int .i64 0)) D 47 #[.slice A path.length cap, .int .i64 op, .int .i64 n, .int .i64 0, .int .i64 (-1), .int .i64 0, .int .i64 0, .string ByteArray.empty] := rd6.set 3 _
   have o7 := only_set (w6) D 3 (.int .i64 0)
   have rr7 := rr6.only o7 (by omega)
   have ef7 := ef6.only o7 hwD
   have h7 := Row.only h6 o7 (by omega)
   have Ht7 := Lib.hid (Ht6.out.only rd6 (by decide) o7)
   have c7 := rd6.cellv (i := 3) (v := .int .i64 0) rfl
   have f7 := rd6.free 3
   clear rd6 o7 rr6 ef6 h6 Ht6
   go_wp2_with (first | (refine wpList_load_row rfl 47 _ rfl D rfl 47 #[.slice A path.length cap, .int .i64 op, .int .i64 n, .int .i64 0, .int .i64 (-1), .int .i64 0, .int .i64 0, .string ByteArray.empty] (0, 0) _ rd7 Tryz.underlying47 rfl (by kernel_rfl) ?_) | (refine at_store 47 _ _ rfl ?_))
   refine Stop.to ?_
   refine wpList_store_gen rfl 47 _ _ rfl R #[.slice A path.length cap, .int .i64 op, .int .i64 n, .int .i64 0, .int .i64 (-1), .int .i64 0, .int .i64 0, .string ByteArray.empty] rfl rfl 47 _ rr7 (by kernel_rfl) rfl (by simp [Value.oneCell']) ?_
   intro w8 r8 o8
   go_wp2_with fail
   refine bodyPost_ret (results_cell_row Tryz.results97 _ _ R 47 _ (0, 0) _ rfl r8 Tryz.underlying47 rfl (by kernel_rfl)) rfl ?_
   refine Hfin.out _ _ ⟨A, cap, ⟨⟨path, op, n⟩, 0, -1, 0, 0, []⟩⟩ ⟨rfl, by rw [Hres.out], dl_mt (Ht7.out.only rr7 (by decide) o8) _ _ _ _ _ (by simp), by rw [Hres.out]; exact Row.only h7 o8 (by omega), ef7.only o8 Rh, Gn.out, (show InI 0 from ⟨by decide, by decide⟩)⟩
 rw [if_neg hb0] at Hres
 have hb1 : ¬ (bn : Int) = 0 := by omega
 have rd7 : Row ((w6).setCell ⟨D, 3, none⟩ (.int .i64 (bn : Int))) D 47 #[.slice A path.length cap, .int .i64 op, .int .i64 n, .int .i64 (bn : Int), .int .i64 (-1), .int .i64 0, .int .i64 0, .string ByteArray.empty] := rd6.set 3 _
 have o7 := only_set (w6) D 3 (.int .i64 (bn : Int))
 have rr7 := rr6.only o7 (by omega)
 have ef7 := ef6.only o7 hwD
 have h7 := Row.only h6 o7 (by omega)
 have Ht7 := Lib.hid (Ht6.out.only rd6 (by decide) o7)
 have c7 := rd6.cellv (i := 3) (v := .int .i64 0) rfl
 have f7 := rd6.free 3
 clear rd6 o7 rr6 ef6 h6 Ht6
 clear hb0
 go_wp2_with fail
 refine (count2_any g s r2 20 Hbp.out Hs.out (by omega) (by omega) _ h7).mono ?_
 rintro e w8 ⟨rfl, h8, eN⟩
 have rr8 := eN.row rr7 (by omega)
 have rd8 := eN.row rd7 (by omega)
 have ef8 := ef7.trans eN
 have Ht8 := Lib.hid (Ht7.out.eff h7 eN)
 clear rr7 rd7 ef7 Ht7 h7 eN
 have Hcp := Lib.hid (rCount_pl (s := s) (r := r2) (most := 20) Hbp.out)
 obtain ⟨⟨ct, r3⟩, hc⟩ : ∃ p, p = rCount s r2 20 := ⟨_, rfl⟩
 rw [← hc] at h8 Hres Hcp ⊢
 clear hc
 dsimp only at h8 Hres Hcp ⊢
 have rd9 : Row ((w8).setCell ⟨D, 4, none⟩ (.int .i64 ct)) D 47 #[.slice A path.length cap, .int .i64 op, .int .i64 n, .int .i64 (bn : Int), .int .i64 ct, .int .i64 0, .int .i64 0, .string ByteArray.empty] := rd8.set 4 _
 have o9 := only_set (w8) D 4 (.int .i64 ct)
 have rr9 := rr8.only o9 (by omega)
 have ef9 := ef8.only o9 hwD
 have h9 := Row.only h8 o9 (by omega)
 have Ht9 := Lib.hid (Ht8.out.only rd8 (by decide) o9)
 have c9 := rd8.cellv (i := 4) (v := .int .i64 (-1)) rfl
 have f9 := rd8.free 4
 clear rd8 o9 rr8 ef8 h8 Ht8
 go_wp2_with fail
 refine (rbyte_any g s r3 Hcp.out Hs.out _ h9).mono ?_
 rintro e w10 ⟨rfl, h10, eN⟩
 have rr10 := eN.row rr9 (by omega)
 have rd10 := eN.row rd9 (by omega)
 have ef10 := ef9.trans eN
 have Ht10 := Lib.hid (Ht9.out.eff h9 eN)
 clear rr9 rd9 ef9 Ht9 h9 eN
 have Hkp := Lib.hid (rByte_pl (s := s) (r := r3) Hcp.out)
 have hkl := rByte_lt s r3
 obtain ⟨⟨kn, r4⟩, hc⟩ : ∃ p, p = rByte s r3 := ⟨_, rfl⟩
 rw [← hc] at h10 Hres Hkp hkl ⊢
 clear hc
 dsimp only at h10 Hres Hkp hkl ⊢
 have rd11 : Row ((w10).setCell ⟨D, 5, none⟩ (.int .i64 (kn : Int))) D 47 #[.slice A path.length cap, .int .i64 op, .int .i64 n, .int .i64 (bn : Int), .int .i64 ct, .int .i64 (kn : Int), .int .i64 0, .string ByteArray.empty] := rd10.set 5 _
 have o11 := only_set (w10) D 5 (.int .i64 (kn : Int))
 have rr11 := rr10.only o11 (by omega)
 have ef11 := ef10.only o11 hwD
 have h11 := Row.only h10 o11 (by omega)
 have Ht11 := Lib.hid (Ht10.out.only rd10 (by decide) o11)
 have c11 := rd10.cellv (i := 5) (v := .int .i64 0) rfl
 have f11 := rd10.free 5
 clear rd10 o11 rr10 ef10 h10 Ht10
 go_wp2_with fail
 refine (rint_any g s r4 Hkp.out Hs.out _ h11).mono ?_
 rintro e w12 ⟨rfl, h12, eN⟩
 have rr12 := eN.row rr11 (by omega)
 have rd12 := eN.row rd11 (by omega)
 have ef12 := ef11.trans eN
 have Ht12 := Lib.hid (Ht11.out.eff h11 eN)
 clear rr11 rd11 ef11 Ht11 h11 eN
 have Hvp := Lib.hid (rInt_pl (s := s) (r := r4) Hkp.out)
 have Hvi := Lib.hid (rInt_in s r4)
 obtain ⟨⟨vi, r5⟩, hc⟩ : ∃ p, p = rInt s r4 := ⟨_, rfl⟩
 rw [← hc] at h12 Hres Hvp Hvi ⊢
 clear hc
 dsimp only at h12 Hres Hvp Hvi ⊢
 have rd13 : Row ((w12).setCell ⟨D, 6, none⟩ (.int .i64 vi)) D 47 #[.slice A path.length cap, .int .i64 op, .int .i64 n, .int .i64 (bn : Int), .int .i64 ct, .int .i64 (kn : Int), .int .i64 vi, .string ByteArray.empty] := rd12.set 6 _
 have o13 := only_set (w12) D 6 (.int .i64 vi)
 have rr13 := rr12.only o13 (by omega)
 have ef13 := ef12.only o13 hwD
 have h13 := Row.only h12 o13 (by omega)
 have Ht13 := Lib.hid (Ht12.out.only rd12 (by decide) o13)
 have c13 := rd12.cellv (i := 6) (v := .int .i64 0) rfl
 have f13 := rd12.free 6
 clear rd12 o13 rr12 ef12 h12 Ht12
 go_wp2_with fail
 refine (rraw_any g s r5 32 Hvp.out Hs.out (by omega) _ h13).mono ?_
 rintro e w14 ⟨rfl, h14, eN⟩
 have rr14 := eN.row rr13 (by omega)
 have rd14 := eN.row rd13 (by omega)
 have ef14 := ef13.trans eN
 have Ht14 := Lib.hid (Ht13.out.eff h13 eN)
 clear rr13 rd13 ef13 Ht13 h13 eN
 have Hdl := Lib.hid (Nat.le_trans (rRaw_len s r5 32) Hs.out)
 obtain ⟨⟨dg, r6⟩, hc⟩ : ∃ p, p = rRaw s r5 32 := ⟨_, rfl⟩
 rw [← hc] at h14 Hres Hdl ⊢
 clear hc
 dsimp only at h14 Hres Hdl ⊢
 have rd15 : Row ((w14).setCell ⟨D, 7, none⟩ (.string ⟨dg.toArray⟩)) D 47 #[.slice A path.length cap, .int .i64 op, .int .i64 n, .int .i64 (bn : Int), .int .i64 ct, .int .i64 (kn : Int), .int .i64 vi, .string ⟨dg.toArray⟩] := rd14.set 7 _
 have o15 := only_set (w14) D 7 (.string ⟨dg.toArray⟩)
 have rr15 := rr14.only o15 (by omega)
 have ef15 := ef14.only o15 hwD
 have h15 := Row.only h14 o15 (by omega)
 have Ht15 := Lib.hid (Ht14.out.only rd14 (by decide) o15)
 have c15 := rd14.cellv (i := 7) (v := .string ByteArray.empty) rfl
 have f15 := rd14.free 7
 clear rd14 o15 rr14 ef14 h14 Ht14
 go_wp2_with (first | (refine wpList_load_row rfl 47 _ rfl D rfl 47 #[.slice A path.length cap, .int .i64 op, .int .i64 n, .int .i64 (bn : Int), .int .i64 ct, .int .i64 (kn : Int), .int .i64 vi, .string ⟨dg.toArray⟩] (0, 0) _ rd15 Tryz.underlying47 rfl (by kernel_rfl) ?_) | (refine at_store 47 _ _ rfl ?_))
 refine Stop.to ?_
 refine wpList_store_gen rfl 47 _ _ rfl R #[.slice A path.length cap, .int .i64 op, .int .i64 n, .int .i64 (bn : Int), .int .i64 ct, .int .i64 (kn : Int), .int .i64 vi, .string ⟨dg.toArray⟩] rfl rfl 47 _ rr15 (by kernel_rfl) rfl (by simp [Value.oneCell']) ?_
 intro w16 r16 o16
 go_wp2_with fail
 refine bodyPost_ret (results_cell_row Tryz.results97 _ _ R 47 _ (0, 0) _ rfl r16 Tryz.underlying47 rfl (by kernel_rfl)) rfl ?_
 refine Hfin.out _ _ ⟨A, cap, ⟨⟨path, op, n⟩, (bn : Int), ct, (kn : Int), vi, dg⟩⟩ ⟨rfl, by rw [Hres.out], dl_mt (Ht15.out.only rr15 (by decide) o16) _ _ _ _ _ Hdl.out, by rw [Hres.out]; exact Row.only h15 o16 (by omega), ef15.only o16 Rh, Gn.out, Hvi.out⟩
end Go.Proofs.YtcgglolckkeeiaaGreat
namespace Go.Proofs.YtcgglolckkeeiaaGreat
open Go.RowKit
theorem own_rdN {w : World} {base n size : Nat} {e : TypeId} {v : Value} {xs : List Value} (h : w.ownsRow base e size v n xs) : ∃ A cap, v = .slice A n cap ∧ Rd w A xs ∧ n ≤ cap ∧ cap ≤ maxLen ∧ (A = none → cap = 0) ∧ ∀ ad, A = some ad → base ≤ ad.block := by
 have hl : xs.length = n * size := h.1
 rcases h.2 with ⟨rfl, h0⟩ | ⟨g, cap, cur, rfl, hb, hh, hc, hm, hsz, ht⟩
 · have hx : xs = [] := List.eq_nil_of_length_eq_zero (by rw [hl, h0, Nat.zero_mul])
   subst hx
   exact ⟨none, 0, by rw [h0], Rd.nil _ _, by omega, by unfold maxLen; omega, fun _ => rfl, fun ad e => by cases e⟩
 · refine ⟨some ⟨g, 0, none⟩, cap, rfl, fun j u hj => ⟨_, rfl, ?_⟩, hc, hm, fun e => (by cases e), fun ad e => by cases e; exact hb⟩
   have hr : Row w g e cur := hh
   exact hr.from_ 0 (cs := xs) (fun j v hj => by
    rw [Nat.zero_add, ← Array.getElem?_toList]
    have h1 : (cur.toList.take (n * size))[j]? = some v := by rw [ht]; exact hj
    rw [List.getElem?_take_of_lt (by have := (List.getElem?_eq_some_iff.1 hj).1; omega)] at h1; exact h1) j u hj
end Go.Proofs.YtcgglolckkeeiaaGreat
namespace Go.Proofs.YtcgglolckkeeiaaGreat
open Go.RowKit Go.Deep
theorem mtsW_stop {c : Rs → Bool} {one : Rs → Mt × Rs} {r : Rs} {k : Nat} (h : c (mtsW c one r k).2 = false) : ∀ j, mtsW c one r (k + j) = mtsW c one r k
 | 0 => rfl
 | j + 1 => by
  show mtsW c one r ((k + j) + 1) = _
  rw [mtsW, mtsW_stop h j, if_neg (by rw [h]; decide)]
theorem mtsW_le {c : Rs → Bool} {one : Rs → Mt × Rs} {r : Rs} : ∀ k, (mtsW c one r k).1.length ≤ k
 | 0 => Nat.le_refl _
 | k + 1 => by
  rw [mtsW]
  have := mtsW_le (c := c) (one := one) (r := r) k
  split
  · simp; omega
  · omega
theorem mtRd_pl {s : List UInt8} {r : Rs} (h : r.pl ≤ s.length) : (mtRd s r).2.pl ≤ s.length := by
 rw [mtRd_eq]
 have h1 := rByte_pl (s := s) (rText_pl (most := 1048576) h)
 split
 · exact h1
 · exact rRaw_pl (rInt_pl (rByte_pl (rCount_pl h1)))
theorem mtsW_pl {c : Rs → Bool} {s : List UInt8} {r : Rs} (h : r.pl ≤ s.length) : ∀ k, (mtsW c (mtRd s) r k).2.pl ≤ s.length
 | 0 => h
 | k + 1 => by
  rw [mtsW]
  have := mtsW_pl (c := c) h k
  split
  · exact mtRd_pl this
  · exact this
structure MtsGot (s : List UInt8) (w w' : World) (e : Ending) (A : Option Addr) (n cap : Nat) (l : List MtV) : Prop where
 ee : e = .returned (.tuple #[.slice A n cap, .int .i64 (getMts s).2])
 mm : l.map MtV.m = (getMts s).1
 nn : n = l.length
 cc : n ≤ cap
 nil : A = none → l = []
 rd : Rd w' A (mtsC l)
 t : ∀ x ∈ l, MtT w' x
 int : ∀ x ∈ l, InI x.m.d.n ∧ InI x.m.value
 rb : RowB w' 47 A
 b : Below w.heap.size w w'
structure MgL (s : List UInt8) (p : List Mt × Rs) (g lim : Nat) (w W : World) (v : Value) (ms : List MtV) : Prop where
 m : ms.map MtV.m = p.1
 rd : RdO W g s p.2
 own : W.ownsRow lim 47 8 v ms.length (mtsC ms)
 t : ∀ x ∈ ms, MtT W x
 int : ∀ x ∈ ms, InI x.m.d.n ∧ InI x.m.value
 b : Below w.heap.size w W
 lim : lim ≤ W.heap.size
theorem MgL.go {s : List UInt8} {p : List Mt × Rs} {g lim : Nat} {w W W' : World} {v : Value} {ms : List MtV} (h : MgL s p g lim w W v ms) (b : Below W.heap.size W W') : MgL s p g lim w W' v ms :=
 ⟨h.m, h.rd.go b, own_below h.own b, fun x hx => (h.t x hx).go b, h.int, h.b.trans (b.mono h.b.size), Nat.le_trans h.lim b.size⟩
set_option maxRecDepth 100000 in
set_option maxHeartbeats 8000000 in
theorem getMuts_any (s : List UInt8) (w : World) (hs : s.length ≤ 1000000) :
 Calls Tryz.prog 35 #[.string ⟨s.toArray⟩] w fun e w' => ∃ A n cap l, MtsGot s w w' e A n cap l := by
 have Hs := Lib.hid hs
 obtain ⟨pd, hpd⟩ : ∃ p, p = getMts s := ⟨_, rfl⟩
 have Hpd := Lib.hid hpd
 have Hfin : Hid (∀ w' e A n cap l, (e = .returned (.tuple #[.slice A n cap, .int .i64 pd.2]) ∧ l.map MtV.m = pd.1 ∧ n = l.length ∧ n ≤ cap ∧ (A = none → l = []) ∧ Rd w' A (mtsC l) ∧ (∀ x ∈ l, MtT w' x) ∧ (∀ x ∈ l, InI x.m.d.n ∧ InI x.m.value) ∧ RowB w' 47 A ∧ Below w.heap.size w w') → ∃ A n cap l, MtsGot s w w' e A n cap l) := Lib.hid (by
  rintro w' e A n cap l ⟨h1, h2, h3, h4, h5, h6, h7, h8, h9, h10⟩
  rw [hpd] at h1 h2
  exact ⟨A, n, cap, l, h1, h2, h3, h4, h5, h6, h7, h8, h9, h10⟩)
 clear hs hpd
 go_enter Tryz.func35, Tryz.ntmps35
 go_wp2_with fail
 refine (wireOf_ex s w).mono ?_
 rintro e w2 ⟨g, rfl, h2, b2, hg⟩
 go_wp2_with fail
 refine (count2_any g s ⟨0, 0⟩ 2000 (Nat.zero_le _) Hs.out (by omega) (by omega) w2 h2).mono ?_
 rintro e w3 ⟨rfl, h3, e3⟩
 have b3 := b2.trans (e3.below hg b2.size)
 have hcin := rCountZ_in (s := s) (r := ⟨0, 0⟩) (most := 2000) (by decide)
 have hcpl := rCount_pl (s := s) (r := ⟨0, 0⟩) (most := 2000) (Nat.zero_le _)
 rw [← rCount_is] at hcin
 have Hrd0 : Hid (mtsRd s = (mtsW (fun r => decide (rdEnd s r = 5)) (mtRd s) (rCount s ⟨0, 0⟩ 2000).2 (rCount s ⟨0, 0⟩ 2000).1.toNat).1) := Lib.hid rfl
 obtain ⟨⟨c, r1⟩, hc⟩ : ∃ p, p = rCount s ⟨0, 0⟩ 2000 := ⟨_, rfl⟩
 rw [← hc] at h3 hcin hcpl Hrd0 ⊢
 clear hc
 dsimp only at h3 hcin hcpl Hrd0 ⊢
 obtain ⟨m, rfl⟩ := Int.eq_ofNat_of_zero_le hcin.1
 rw [Int.toNat_natCast] at Hrd0
 have hm : (m : Int) ≤ 2000 := hcin.2
 obtain ⟨F, hF⟩ : ∃ F, F = mtsW (fun r => decide (rdEnd s r = 5)) (mtRd s) r1 := ⟨_, rfl⟩
 have HF := Lib.hid hF
 have Hpl : Hid (∀ k, (F k).2.pl ≤ s.length) := Lib.hid (fun k => by rw [hF]; exact mtsW_pl hcpl k)
 have Hle : Hid (∀ k, (F k).1.length ≤ k) := Lib.hid (fun k => by rw [hF]; exact mtsW_le k)
 have Hyes : Hid (∀ k, rdEnd s (F k).2 = 5 → F (k + 1) = ((F k).1 ++ [(mtRd s (F k).2).1], (mtRd s (F k).2).2)) := Lib.hid (fun k h => by rw [hF] at h ⊢; rw [mtsW, if_pos (by simpa using h)])
 have Hno : Hid (∀ k j, ¬ rdEnd s (F k).2 = 5 → F (k + j) = F k) := Lib.hid (fun k j h => by rw [hF] at h ⊢; exact mtsW_stop (by simpa using h) j)
 rw [← hF] at Hrd0
 have HL : Hid (MgL s (F 0) g w3.heap.size w w3 (.slice none 0 0) []) := Lib.hid ⟨by rw [hF]; rfl, by rw [hF]; exact h3, World.ownsRow_nil _ _ _ _, fun x hx => (by cases hx), fun x hx => (by cases hx), b3, Nat.le_refl _⟩
 obtain ⟨lim, hlim⟩ : ∃ lim, lim = w3.heap.size := ⟨_, rfl⟩
 have lg : g < lim := by rw [hlim]; exact Row.lt h3
 rw [← hlim] at HL
 clear h2 b2 h3 e3 b3 hcin hcpl hlim hF HF
 go_wp2_with fail
 go_loopw [5, 12] (fun v i wr => ∃ (k : Nat) (ms : List MtV), i = .int .i64 (k : Int) ∧ k ≤ m ∧ Hid (MgL s (F k) g lim w wr v ms)) (fun _ i _ => m - (intOf i).toNat)
 case atStart => exact ⟨0, [], rfl, Nat.zero_le _, HL⟩
 case round =>
  clear HL
  obtain ⟨k, ms, rfl, hk, HL⟩ := hrel
  by_cases hlt : k < m
  rotate_left
  · obtain rfl : k = m := by omega
    clear hlt hk
    obtain ⟨h1, h2, h3, h4, h5, h6, h7⟩ := HL.out
    obtain ⟨A, cap, rfl, hA1, hcap, hmax, hA3, hA4⟩ := own_rdN h3
    have hlen : ms.length ≤ 2000 := by
     have h8 := congrArg List.length h1
     rw [List.length_map] at h8
     have := Hle.out k
     omega
    have hnil : A = none → ms = [] := fun e => List.eq_nil_of_length_eq_zero (by have := hA3 e; omega)
    have hmsd : ms.map MtV.m = mtsRd s := h1.trans Hrd0.out.symm
    have hlI : (ms.length : Int) ≤ 2000 := by omega
    have HP := Lib.hid (putMuts_any A cap ms.length ms wr rfl hA1 (fun x hx => (h4 x hx).1) h5 (by omega))
    have hok : OkMs (mtsRd s) ↔ ((mtsRd s).length ≤ 2000 ∧ (mtsRd s).all fineM = true) := by
     rw [← hmsd]
     constructor
     · exact fun h => ⟨h.1, List.all_eq_true.2 fun x hx => (h.2 x hx).1⟩
     · refine fun h => ⟨h.1, fun x hx => ⟨List.all_eq_true.1 h.2 x hx, ?_⟩⟩
       obtain ⟨y, hy, rfl⟩ := List.mem_map.1 hx
       exact h5 y hy
    rw [hmsd] at HP
    have Hst : Hid (∀ W, Below wr.heap.size wr W → Rd W A (mtsC ms) ∧ (∀ x ∈ ms, MtT W x) ∧ RowB W 47 A ∧ Below w.heap.size w W) := Lib.hid (fun W b => ⟨hA1.go b, fun x hx => (h4 x hx).go b, (own_rowB h3).go b, h6.trans (b.mono h6.size)⟩)
    have Hpl2 : Hid (ms.length ≤ cap ∧ (A = none → ms = []) ∧ ∀ x ∈ ms, InI x.m.d.n ∧ InI x.m.value) := Lib.hid ⟨hcap, hnil, h5⟩
    clear h1 h2 h3 h4 h5 h6 h7 hA1 hA3 hA4 hcap hmax hlen hnil HL
    go_wp2_with fail
    by_cases hr : OkMs (mtsRd s) ∧ encMts (mtsRd s) = s
    · have hp : putMts (mtsRd s) = (s, 0) := by rw [putMts, if_pos (hok.1 hr.1), hr.2]
      rw [hp] at HP
      obtain rfl : pd = (mtsRd s, 0) := Hpd.out.trans (gotBy_yes (rd := mtsRd) (fun x h => mtsRd_put h) hr.1 hr.2)
      have Hmsd := Lib.hid hmsd
      clear hr hp hok hmsd
      refine HP.out.mono ?_
      rintro e w8 ⟨rfl, b8⟩
      have HE := Lib.hid (Hst.out _ b8)
      clear HP Hst b8
      go_wp2_with fail
      go_ret2
      obtain ⟨g1, g2, g3, g4⟩ := HE.out
      obtain ⟨g5, g6, g7⟩ := Hpl2.out
      exact Hfin.out _ _ A ms.length cap ms ⟨rfl, Hmsd.out, rfl, g5, g6, g1, g2, g7, g3, g4⟩
    · obtain rfl : pd = ([], 12) := Hpd.out.trans (gotBy_no (rd := mtsRd) (fun x h => mtsRd_put h) hr)
      obtain ⟨⟨t, e0⟩, hp⟩ : ∃ p, p = putMts (mtsRd s) := ⟨_, rfl⟩
      rw [← hp] at HP
      have hne : ¬ (e0 = 0 ∧ t = s) := fun h => hr (by
       unfold putMts at hp
       by_cases h1 : (mtsRd s).length ≤ 2000 ∧ (mtsRd s).all fineM = true
       · rw [if_pos h1] at hp; injection hp with hp1 _; exact ⟨hok.2 h1, by rw [← hp1, h.2]⟩
       · rw [if_neg h1] at hp; injection hp with _ hp2; rw [h.1] at hp2; exact absurd hp2 (by decide))
      have hts : e0 = 0 → (t == s) = false := fun h0 => by simpa using fun e => hne ⟨h0, e⟩
      have Hts := Lib.hid hts
      clear hr hp hne hts hok hmsd
      refine HP.out.mono ?_
      rintro e w8 ⟨rfl, b8⟩
      have HE := Lib.hid (Hst.out _ b8).2.2.2
      clear HP Hst b8
      by_cases he : e0 = 0
      · have htb := Hts.out he
        subst he
        clear Hts
        go_wp2_with fail
        go_ret2
        exact Hfin.out _ _ none 0 0 [] ⟨rfl, rfl, rfl, Nat.le_refl _, fun _ => rfl, Rd.nil _ _, fun x hx => (by cases hx), fun x hx => (by cases hx), fun ad h => (by cases h), HE.out⟩
      · clear Hts
        go_wp2_with fail
        go_ret2
        exact Hfin.out _ _ none 0 0 [] ⟨rfl, rfl, rfl, Nat.le_refl _, fun _ => rfl, Rd.nil _ _, fun x hx => (by cases hx), fun x hx => (by cases hx), fun ad h => (by cases h), HE.out⟩
  have hltI : (k : Int) < (m : Int) := by omega
  go_wp2_with fail
  refine (rend_any g s (F k).2 wr HL.out.rd).mono ?_
  rintro e w5 ⟨rfl, b5, _⟩
  replace HL := Lib.hid (HL.out.go b5)
  clear b5
  by_cases h5 : rdEnd s (F k).2 = 5
  rotate_left
  · have h5' : (rdEnd s (F k).2 != 5) = true := by simpa using h5
    have hF : F m = F k := by
     have := Hno.out k (m - k) h5
     rwa [show k + (m - k) = m by omega] at this
    rw [← hF] at HL
    clear hF h5
    obtain ⟨h1, h2, h3, h4, h5, h6, h7⟩ := HL.out
    obtain ⟨A, cap, rfl, hA1, hcap, hmax, hA3, hA4⟩ := own_rdN h3
    have hlen : ms.length ≤ 2000 := by
     have h8 := congrArg List.length h1
     rw [List.length_map] at h8
     have := Hle.out m
     omega
    have hnil : A = none → ms = [] := fun e => List.eq_nil_of_length_eq_zero (by have := hA3 e; omega)
    have hmsd : ms.map MtV.m = mtsRd s := h1.trans Hrd0.out.symm
    have hlI : (ms.length : Int) ≤ 2000 := by omega
    have HP := Lib.hid (putMuts_any A cap ms.length ms w5 rfl hA1 (fun x hx => (h4 x hx).1) h5 (by omega))
    have hok : OkMs (mtsRd s) ↔ ((mtsRd s).length ≤ 2000 ∧ (mtsRd s).all fineM = true) := by
     rw [← hmsd]
     constructor
     · exact fun h => ⟨h.1, List.all_eq_true.2 fun x hx => (h.2 x hx).1⟩
     · refine fun h => ⟨h.1, fun x hx => ⟨List.all_eq_true.1 h.2 x hx, ?_⟩⟩
       obtain ⟨y, hy, rfl⟩ := List.mem_map.1 hx
       exact h5 y hy
    rw [hmsd] at HP
    have Hst : Hid (∀ W, Below w5.heap.size w5 W → Rd W A (mtsC ms) ∧ (∀ x ∈ ms, MtT W x) ∧ RowB W 47 A ∧ Below w.heap.size w W) := Lib.hid (fun W b => ⟨hA1.go b, fun x hx => (h4 x hx).go b, (own_rowB h3).go b, h6.trans (b.mono h6.size)⟩)
    have Hpl2 : Hid (ms.length ≤ cap ∧ (A = none → ms = []) ∧ ∀ x ∈ ms, InI x.m.d.n ∧ InI x.m.value) := Lib.hid ⟨hcap, hnil, h5⟩
    clear h1 h2 h3 h4 h5 h6 h7 hA1 hA3 hA4 hcap hmax hlen hnil HL
    go_wp2_with fail
    by_cases hr : OkMs (mtsRd s) ∧ encMts (mtsRd s) = s
    · have hp : putMts (mtsRd s) = (s, 0) := by rw [putMts, if_pos (hok.1 hr.1), hr.2]
      rw [hp] at HP
      obtain rfl : pd = (mtsRd s, 0) := Hpd.out.trans (gotBy_yes (rd := mtsRd) (fun x h => mtsRd_put h) hr.1 hr.2)
      have Hmsd := Lib.hid hmsd
      clear hr hp hok hmsd
      refine HP.out.mono ?_
      rintro e w8 ⟨rfl, b8⟩
      have HE := Lib.hid (Hst.out _ b8)
      clear HP Hst b8
      go_wp2_with fail
      go_ret2
      obtain ⟨g1, g2, g3, g4⟩ := HE.out
      obtain ⟨g5, g6, g7⟩ := Hpl2.out
      exact Hfin.out _ _ A ms.length cap ms ⟨rfl, Hmsd.out, rfl, g5, g6, g1, g2, g7, g3, g4⟩
    · obtain rfl : pd = ([], 12) := Hpd.out.trans (gotBy_no (rd := mtsRd) (fun x h => mtsRd_put h) hr)
      obtain ⟨⟨t, e0⟩, hp⟩ : ∃ p, p = putMts (mtsRd s) := ⟨_, rfl⟩
      rw [← hp] at HP
      have hne : ¬ (e0 = 0 ∧ t = s) := fun h => hr (by
       unfold putMts at hp
       by_cases h1 : (mtsRd s).length ≤ 2000 ∧ (mtsRd s).all fineM = true
       · rw [if_pos h1] at hp; injection hp with hp1 _; exact ⟨hok.2 h1, by rw [← hp1, h.2]⟩
       · rw [if_neg h1] at hp; injection hp with _ hp2; rw [h.1] at hp2; exact absurd hp2 (by decide))
      have hts : e0 = 0 → (t == s) = false := fun h0 => by simpa using fun e => hne ⟨h0, e⟩
      have Hts := Lib.hid hts
      clear hr hp hne hts hok hmsd
      refine HP.out.mono ?_
      rintro e w8 ⟨rfl, b8⟩
      have HE := Lib.hid (Hst.out _ b8).2.2.2
      clear HP Hst b8
      by_cases he : e0 = 0
      · have htb := Hts.out he
        subst he
        clear Hts
        go_wp2_with fail
        go_ret2
        exact Hfin.out _ _ none 0 0 [] ⟨rfl, rfl, rfl, Nat.le_refl _, fun _ => rfl, Rd.nil _ _, fun x hx => (by cases hx), fun x hx => (by cases hx), fun ad h => (by cases h), HE.out⟩
      · clear Hts
        go_wp2_with fail
        go_ret2
        exact Hfin.out _ _ none 0 0 [] ⟨rfl, rfl, rfl, Nat.le_refl _, fun _ => rfl, Rd.nil _ _, fun x hx => (by cases hx), fun x hx => (by cases hx), fun ad h => (by cases h), HE.out⟩
  have h5' : (rdEnd s (F k).2 != 5) = false := by simp [h5]
  have HF1 := Lib.hid (Hyes.out k h5)
  clear h5
  go_wp2_with fail
  refine (mtGet_any g s (F k).2 w5 (Hpl.out k) Hs.out HL.out.rd).mono ?_
  rintro e w6 ⟨y, rfl, gm, gt, gr, ge, gn, gv⟩
  have hlen : ms.length ≤ k := by
   have h8 := congrArg List.length HL.out.m
   rw [List.length_map] at h8
   have := Hle.out k
   omega
  have own6 := own_eff HL.out.own ge lg
  have t6 : ∀ x ∈ ms, MtT w6 x := fun x hx => (HL.out.t x hx).eff HL.out.rd ge
  have b6 := HL.out.b.trans (ge.below hg HL.out.b.size)
  have l6 : lim ≤ w6.heap.size := Nat.le_trans HL.out.lim ge.size
  have Hm := Lib.hid HL.out.m
  have Hint := Lib.hid HL.out.int
  clear HL ge
  go_wp2_with (refine at_slice _ _ _ rfl ?_)
  refine Stop.to ?_
  refine wpList_slice_gen rfl 27 1 _ rfl 47 y.cells.toArray (fun W => by kernel_rfl) ?_
  intro M Mw Mh Mr Mb
  have bM := Mb.mono Mh
  have own7 := own_below own6 bM
  have t7 : ∀ x ∈ ms, MtT Mw x := fun x hx => (t6 x hx).go bM
  have gt7 := gt.go bM
  have gr7 := gr.go bM
  have b7 := b6.trans (bM.mono b6.size)
  have l7 := Nat.le_trans l6 bM.size
  obtain ⟨v8, w8, hrun8, hown8, hgr8, -⟩ := append_mt (m := 1) (cap := 1) own7 l7 [y] (rd_rowP (cs := mtsC [y]) (by simpa [mtsC] using Mr)) rfl (by simp) (by omega)
  have Hrun8 := Lib.hid hrun8
  have ne8 := own_ne own7 gr7 (by decide)
  have HN : Hid (MgL s (F (k + 1)) g lim w w8 v8 (ms ++ [y])) := Lib.hid ⟨by rw [HF1.out, List.map_append, Hm.out]; simp [gm], by rw [HF1.out]; exact Row.grown gr7 hgr8 ne8, by rw [mtsC_append, List.length_append]; exact hown8,
   fun x hx => by
    rcases List.mem_append.1 hx with h | h
    · exact (t7 x h).own own7 hgr8
    · rw [List.mem_singleton.1 h]; exact gt7.own own7 hgr8,
   fun x hx => by
    rcases List.mem_append.1 hx with h | h
    · exact Hint.out x h
    · rw [List.mem_singleton.1 h]; exact ⟨gn, gv⟩,
   below_grown_own b7 own7 hgr8 b7.size (by omega), Nat.le_trans l7 hgr8.size⟩
  clear own6 t6 b6 l6 Hm Hint Mh Mr Mb bM own7 t7 gt7 gr7 b7 l7 hrun8 hown8 hgr8 ne8 gm gt gr gn gv
  refine wpList_res rfl _ (run_exec_append rfl Hrun8.out) ?_
  go_wp2_with fail
  go_roundw
  case rel => exact ⟨k + 1, ms ++ [y], by go_num, by omega, HN⟩
  case measure => simp [intOf]; omega
end Go.Proofs.YtcgglolckkeeiaaGreat
namespace Go.Proofs.YtcgglolckkeeiaaGreat
open Go.RowKit Go.Deep
instance St.mtst {l : List MtV} : St (fun W => ∀ x ∈ l, MtT W x) := ⟨fun h b x hx => (h x hx).go b⟩
instance St.rowB {t : TypeId} {A : Option Addr} : St (fun W => RowB W t A) := ⟨fun h b => h.go b⟩
theorem inI0 : InI 0 := ⟨by decide, by decide⟩
def zE (g1 g2 g3 g4 g5 g6 : Nat) : CpV := ⟨pE g1 g2, some ⟨g5, 0, none⟩, 1, [tvE g4], 9, some ⟨g6, 0, none⟩, 1, [mvE g3], ⟨0, 0, 0⟩⟩
theorem zE_ok {g1 g2 g3 g4 g5 g6 : Nat} {W : World} (r1 : Row W g1 3 (ints [0]).toArray) (r2 : Row W g2 74 (bodyE.flatMap Nd.cells).toArray) (r3 : Row W g3 3 (ints [0]).toArray) (r4 : Row W g4 3 (ints [1]).toArray)
 (r5 : Row W g5 22 (tstC [tvE g4]).toArray) (r6 : Row W g6 47 (mtsC [mvE g3]).toArray) : CpOk W (zE g1 g2 g3 g4 g5 g6) := by
 have h := cE_ok r1 r2 r3 r4 r5 r6
 obtain ⟨⟩ := h
 constructor <;> assumption
theorem putSc_E : putSc ⟨1, 2, 3⟩ = ([1, 2, 3], 0) := by decide +kernel
theorem getSc_E : getSc [1, 2, 3] = (⟨1, 2, 3⟩, 0) := gotBy_yes scRd_put (by decide) (by decide +kernel)
def uE : List UInt8 := encMts [mE]
theorem okM_E : OkMs [mE] := ⟨by decide, fun m hm => by rw [List.mem_singleton.1 hm]; exact ⟨by decide +kernel, ⟨by decide, by decide⟩, ⟨by decide, by decide⟩⟩⟩
theorem putMts_E : putMts [mE] = (uE, 0) := by
 unfold putMts
 rw [if_pos ⟨by decide, by decide +kernel⟩]
 rfl
theorem uE_len : uE.length ≤ 1000000 := by
 have h : uE.length = 7 := by decide +kernel
 omega
theorem getMts_E : getMts uE = ([mE], 0) := gotBy_yes (rd := mtsRd) (fun x h => mtsRd_put h) okM_E rfl
theorem putMts_0 : putMts [] = ([0], 0) := by decide +kernel
theorem cp0_chk : cpCheckZ cp0 = 23 := by
 unfold cpCheckZ
 rw [checkP_cp0]; rfl
theorem zE_same (g1 g2 g3 g4 g5 g6 : Nat) : sameC (cE g1 g2 g3 g4 g5 g6) (zE g1 g2 g3 g4 g5 g6) = false := by
 rw [← Bool.not_eq_true]
 intro h
 have := sameC_iff.1 h
 have h2 := congrArg (fun c : Cd => c.sc.alive) this
 exact absurd (show (1 : Int) = 0 from h2) (by decide)
theorem cpCheck_22 {c : CpV} (h : OkC { c with sc := scoreZ c.muts }) (hne : c.sc ≠ scoreZ c.muts) : cpCheckZ c = 22 := by
 have h := okC.2 h
 unfold cpCheckZ at h ⊢
 rw [orL_all] at h
 simp only [List.mem_cons, List.not_mem_nil, or_false, forall_eq_or_imp, forall_eq] at h
 obtain ⟨h1, h2, h3, h4, h5, h6, -⟩ := h
 change suiteZ c.p.params c.testsL c.fuel = 0 at h2
 change unlessZ (riseB c.muts) 20 = 0 at h4
 have h7 : scB c.sc (scoreZ c.muts) = false := by
  rw [← Bool.not_eq_true]
  exact fun h => hne (scB_iff.1 h)
 rw [orL, if_pos h1, orL, if_pos h2, orL, if_pos h3, orL, if_pos h4, orL, if_pos h5, orL, if_pos h6, h7]
 rfl
theorem zE_chk (g1 g2 g3 g4 g5 g6 : Nat) : cpCheckZ (zE g1 g2 g3 g4 g5 g6) = 22 :=
 cpCheck_22 (c := zE g1 g2 g3 g4 g5 g6) (okE g1 g2 g3 g4 g5 g6) (show (⟨0, 0, 0⟩ : Sc) ≠ scoreZ [mE] from fun h => absurd (congrArg Sc.alive h) (by decide))
end Go.Proofs.YtcgglolckkeeiaaGreat
