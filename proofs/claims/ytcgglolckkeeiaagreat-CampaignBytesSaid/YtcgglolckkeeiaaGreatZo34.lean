/- Lemmas for CoAll. -/
import Derived.Test.YtcgglolckkeeiaaGreatZo33
set_option linter.unusedVariables false
set_option linter.unusedSimpArgs false
namespace Go.Proofs.YtcgglolckkeeiaaGreat
open Go.RowKit Go.Deep
theorem dlRead_ex (s : List UInt8) (w : World) (hs : s.length ≤ 1000000) :
 Calls Tryz.prog 181 #[.agg #[.string ⟨s.toArray⟩, .int .i64 0, .int .i64 0]] w fun e w' => ∃ y, RdGot s ⟨0, 0⟩ w w' e y := dlRead_any s ⟨0, 0⟩ w (Nat.zero_le _) hs
set_option maxRecDepth 100000 in
set_option maxHeartbeats 8000000 in
theorem refDlGet_any (s : List UInt8) (w : World) (hs : s.length ≤ 1000000) :
 Calls Tryz.prog 147 #[.string ⟨s.toArray⟩] w fun e w' => ∃ y, DlGot s w w' e y := by
 have Hs := Lib.hid hs
 clear hs
 go_enter Tryz.func147, Tryz.ntmps147
 go_wp2_with (first | fail | (refine at_alloc _ rfl ?_))
 refine Stop.to ?_
 refine wpList_alloc_gen rfl 42 rfl _ _ (zero_dlv _) rfl ?_
 intro R Rw Rh Rr Rb
 have Rr' : Row Rw R 42 #[.slice none 0 0, .int .i64 0, .int .i64 0] := Rr
 have b1 : Below w.heap.size w Rw := (Below.refl w.heap.size w).trans (Rb.mono Rh)
 have hz : (Instr.build 131 #[(0, .string ⟨s.toArray⟩)]).run Tryz.prog Rw = .ok (.agg #[.string ⟨s.toArray⟩, .int .i64 0, .int .i64 0]) Rw := by kernel_rfl
 clear Rr Rb
 go_wp2_with fail
 refine (dlRead_ex s Rw Hs.out).mono ?_
 rintro e w2 ⟨⟨A, cap, ⟨l, op, n⟩⟩, hd, rfl, hT, b2, hn⟩
 have Hd := Lib.hid hd
 have Hn := Lib.hid hn
 have HT := Lib.hid hT
 have rR := Rr'.below b2 Rr'.lt
 have bb := b1.trans (b2.mono b1.size)
 obtain ⟨r2, hr2⟩ : ∃ r, r = (dlRdR s ⟨0, 0⟩).2 := ⟨_, rfl⟩
 rw [← hr2]
 clear hd hn hT hr2 b2 b1 Rr' hz
 go_wp2_with (first | fail | (refine at_alloc _ rfl ?_))
 refine Stop.to ?_
 refine wpList_alloc_gen rfl 131 rfl _ _ (zero_rr _) rfl ?_
 intro X Xw Xh Xr Xb
 go_wp2_with (first | fail | (refine at_alloc _ rfl ?_))
 refine Stop.to ?_
 refine wpList_alloc_gen rfl 42 rfl _ _ (zero_dlv _) rfl ?_
 intro Y Yw Yh Yr Yb
 have Xr' : Row Xw X 131 #[.string ⟨#[]⟩, .int .i64 0, .int .i64 0] := Xr
 have Yr' : Row Yw Y 42 #[.slice none 0 0, .int .i64 0, .int .i64 0] := Yr
 have lRX : R < X := Nat.lt_of_lt_of_le rR.lt Xh
 have lXY : X < Y := Nat.lt_of_lt_of_le Xr'.lt Yh
 have hwX : w.heap.size ≤ X := Nat.le_trans bb.size Xh
 replace rR := (rR.below Xb lRX).below Yb (by omega)
 have rX := Xr'.below Yb lXY
 have rY := Yr'
 replace bb := (bb.trans (Xb.mono (by omega))).trans (Yb.mono (by omega))
 replace HT := Lib.hid ((HT.out.go (Xb.mono Xh)).go (Yb.mono Yh))
 clear Xr Yr Xb Yb Xr' Yr'
 go_wp2_with (refine at_store 131 _ _ rfl ?_)
 refine Stop.to ?_
 refine wpList_store_gen rfl 131 _ _ rfl X (rrC s r2) rfl rfl 131 _ rX (by kernel_rfl) rfl (by simp [rrC, Value.oneCell']) ?_
 intro w4 rX4 o4
 replace rR := rR.only o4 (by omega)
 replace rY := rY.only o4 (by omega)
 replace bb := below_only bb o4 (by omega)
 replace HT := Lib.hid (HT.out.only rX (by decide) o4)
 clear rX o4 rX4
 go_wp2_with (refine at_store 42 _ _ rfl ?_)
 refine Stop.to ?_
 refine wpList_store_gen rfl 42 _ _ rfl Y #[.slice A l.length cap, .int .i64 op, .int .i64 n] rfl rfl 42 _ rY (by kernel_rfl) rfl (by simp [Value.oneCell']) ?_
 intro w6 rY6 o6
 replace rR := rR.only o6 (by omega)
 replace bb := below_only bb o6 (by omega)
 replace HT := Lib.hid (HT.out.only rY (by decide) o6)
 clear rY o6
 have HC := Lib.hid (refDlPut_any ⟨A, cap, ⟨l, op, n⟩⟩ w6 HT.out.ok Hn.out)
 go_wp2_with (refine wpList_load_row rfl 42 _ rfl Y rfl 42 #[.slice A l.length cap, .int .i64 op, .int .i64 n] (0, 0) _ rY6 Tryz.underlying42 rfl (by kernel_rfl) ?_)
 by_cases hr : rightDl ⟨l, op, n⟩ = true ∧ encDl ⟨l, op, n⟩ = s
 · have hp : putDl ⟨l, op, n⟩ = (s, 0) := by rw [putDl, if_pos hr.1, hr.2]
   rw [hp] at HC
   have Hg := Lib.hid (getDl_yes Hn.out hr.1 hr.2)
   clear hr hp
   refine HC.out.mono ?_
   rintro e w8 ⟨rfl, b8⟩
   have rY8 := rY6.below b8 rY6.lt
   replace rR := rR.below b8 rR.lt
   replace bb := bb.trans (b8.mono bb.size)
   replace HT := Lib.hid (HT.out.go b8)
   clear b8 HC rY6
   go_wp2_with (first | (refine wpList_load_row rfl 42 _ rfl Y rfl 42 #[.slice A l.length cap, .int .i64 op, .int .i64 n] (0, 0) _ rY8 Tryz.underlying42 rfl (by kernel_rfl) ?_) | (refine at_store 42 _ _ rfl ?_))
   refine Stop.to ?_
   refine wpList_store_gen rfl 42 _ _ rfl R #[.slice A l.length cap, .int .i64 op, .int .i64 n] rfl rfl 42 _ rR (by kernel_rfl) rfl (by simp [Value.oneCell']) ?_
   intro w9 r9 o9
   go_wp2_with fail
   try rw [Exit.noGoto_ret]
   refine bodyPost_ret (results_cell_tmp Tryz.results147 _ _ R 42 _ (0, 0) _ rfl r9 Tryz.underlying42 rfl (by kernel_rfl)) rfl ?_
   exact ⟨⟨A, cap, ⟨l, op, n⟩⟩, by rw [Hg.out], by rw [Hg.out]; rfl, HT.out.only rR (by decide) o9, below_only bb o9 (by omega), Hn.out⟩
 · have Hg := Lib.hid (getDl_no (s := s) (d := ⟨l, op, n⟩) (fun d0 h1 h2 h3 => by rw [show (⟨l, op, n⟩ : Dl) = (dlRdR s ⟨0, 0⟩).1 from Hd.out, ← h3]; exact dlRdR_put h1 h2) hr)
   obtain ⟨⟨t, e0⟩, hp⟩ : ∃ p, p = putDl ⟨l, op, n⟩ := ⟨_, rfl⟩
   rw [← hp] at HC
   have hne : ¬ (e0 = 0 ∧ t = s) := fun h => hr (by
    unfold putDl at hp
    by_cases h1 : rightDl ⟨l, op, n⟩ = true
    · rw [if_pos h1] at hp; injection hp with hp1 _; exact ⟨h1, by rw [← hp1, h.2]⟩
    · rw [if_neg h1] at hp; injection hp with _ hp2; rw [h.1] at hp2; exact absurd hp2 (by decide))
   have hts : e0 = 0 → (t == s) = false := fun h0 => by simpa using fun e => hne ⟨h0, e⟩
   have Hts := Lib.hid hts
   clear hr hp hne hts
   refine HC.out.mono ?_
   rintro e w8 ⟨rfl, b8⟩
   replace rR := rR.below b8 rR.lt
   replace bb := bb.trans (b8.mono bb.size)
   clear b8 HC rY6 HT
   have hzr : (Instr.build 42 #[]).run Tryz.prog w8 = .ok (.agg #[.slice none 0 0, .int .i64 0, .int .i64 0]) w8 := by kernel_rfl
   have HZ : DlT w8 ⟨none, 0, ⟨[], 0, 0⟩⟩ := ⟨⟨Rd.nil _ _, by simp⟩, fun _ h => (by cases h), fun _ => rfl⟩
   by_cases he : e0 = 0
   · have htb := Hts.out he
     subst he
     clear Hts
     go_wp2_with (first | (refine at_store _ _ _ rfl ?_))
     refine Stop.to ?_
     refine wpList_store_gen rfl 42 _ _ rfl R #[.slice none 0 0, .int .i64 0, .int .i64 0] rfl rfl 42 _ rR (by kernel_rfl) rfl (by simp [Value.oneCell']) ?_
     intro w9 r9 o9
     go_wp2_with fail
     try rw [Exit.noGoto_ret]
     refine bodyPost_ret (results_cell_tmp Tryz.results147 _ _ R 42 _ (0, 0) _ rfl r9 Tryz.underlying42 rfl (by kernel_rfl)) rfl ?_
     exact ⟨⟨none, 0, ⟨[], 0, 0⟩⟩, by rw [Hg.out], by rw [Hg.out]; rfl, HZ.only rR (by decide) o9, below_only bb o9 (by omega), ⟨by decide, by decide⟩⟩
   · clear Hts
     go_wp2_with (first | (refine at_store _ _ _ rfl ?_))
     refine Stop.to ?_
     refine wpList_store_gen rfl 42 _ _ rfl R #[.slice none 0 0, .int .i64 0, .int .i64 0] rfl rfl 42 _ rR (by kernel_rfl) rfl (by simp [Value.oneCell']) ?_
     intro w9 r9 o9
     go_wp2_with fail
     try rw [Exit.noGoto_ret]
     refine bodyPost_ret (results_cell_tmp Tryz.results147 _ _ R 42 _ (0, 0) _ rfl r9 Tryz.underlying42 rfl (by kernel_rfl)) rfl ?_
     exact ⟨⟨none, 0, ⟨[], 0, 0⟩⟩, by rw [Hg.out], by rw [Hg.out]; rfl, HZ.only rR (by decide) o9, below_only bb o9 (by omega), ⟨by decide, by decide⟩⟩
end Go.Proofs.YtcgglolckkeeiaaGreat
namespace Go.Proofs.YtcgglolckkeeiaaGreat
open Go.RowKit Go.Deep
structure MtRGot (s : List UInt8) (r : Rs) (w w' : World) (e : Ending) (y : MtV) : Prop where
 mm : y.m = (mtRdR s r).1
 ee : e = .returned (.tuple #[.agg (rrC s (mtRdR s r).2), .agg y.cells.toArray])
 tt : MtT w' y
 bb : Below w.heap.size w w'
 nn : InI y.m.d.n
 vv : InI y.m.value
theorem mtRdR_eq (s : List UInt8) (r : Rs) : mtRdR s r = if (rByteZ (-1) s (rText s r 1000).2).1 = 0 then (⟨(getDl (rText s r 1000).1).1, 0, -1, 0, 0, []⟩, (rByteZ (-1) s (rText s r 1000).2).2) else
 (⟨(getDl (rText s r 1000).1).1, (rByteZ (-1) s (rText s r 1000).2).1, (rCountZ (-1) s (rByteZ (-1) s (rText s r 1000).2).2 1000000).1, (rByteZ (-1) s (rCountZ (-1) s (rByteZ (-1) s (rText s r 1000).2).2 1000000).2).1, (rIntZ (-1) s (rByteZ (-1) s (rCountZ (-1) s (rByteZ (-1) s (rText s r 1000).2).2 1000000).2).2).1, (rRaw s (rIntZ (-1) s (rByteZ (-1) s (rCountZ (-1) s (rByteZ (-1) s (rText s r 1000).2).2 1000000).2).2).2 32).1⟩, (rRaw s (rIntZ (-1) s (rByteZ (-1) s (rCountZ (-1) s (rByteZ (-1) s (rText s r 1000).2).2 1000000).2).2).2 32).2) := by rw [mtRdR]
set_option maxRecDepth 100000 in
set_option maxHeartbeats 8000000 in
theorem rone_any (s : List UInt8) (r : Rs) (w : World) (hp : r.pl ≤ s.length) (hs : s.length ≤ 1000000) :
 Calls Tryz.prog 99 #[.agg (rrC s r)] w fun e w' => ∃ y, MtRGot s r w w' e y := by
 have Hs := Lib.hid hs
 have Hp := Lib.hid hp
 obtain ⟨res, hres⟩ : ∃ p, p = mtRdR s r := ⟨_, rfl⟩
 have Hfin : Hid (∀ w' e y, (y.m = res.1 ∧ e = .returned (.tuple #[.agg (rrC s res.2), .agg y.cells.toArray]) ∧ MtT w' y ∧ Below w.heap.size w w' ∧ InI y.m.d.n ∧ InI y.m.value) → ∃ y, MtRGot s r w w' e y) := Lib.hid (by
  rintro w' e y ⟨h1, h2, h3, h4, h5, h6⟩
  rw [hres] at h1 h2
  exact ⟨y, h1, h2, h3, h4, h5, h6⟩)
 have Hres : Hid _ := Lib.hid (hres.trans (mtRdR_eq s r))
 clear hs hp hres
 go_enter Tryz.func99, Tryz.ntmps99
 go_wp2_with (refine at_box _ _ rfl ?_)
 refine Stop.to ?_
 refine wpList_box_gen rfl 131 _ rfl (rrC s r) rfl ?_
 intro P Pw Ph Pr Pb
 go_wp2_with (first | fail | (refine at_alloc _ rfl ?_))
 refine Stop.to ?_
 refine wpList_alloc_gen rfl 131 rfl _ _ (zero_rr _) rfl ?_
 intro R Rw Rh Rr Rb
 go_wp2_with (first | fail | (refine at_alloc _ rfl ?_))
 refine Stop.to ?_
 refine wpList_alloc_gen rfl 47 rfl _ _ (zero_mt _) rfl ?_
 intro U Uw Uh Ur Ub
 go_wp2_with (first | fail | (refine at_alloc _ rfl ?_))
 refine Stop.to ?_
 refine wpList_alloc_gen rfl 47 rfl _ _ (zero_mt _) rfl ?_
 intro D Dw Dh Dr Db
 have Rr' : Row Rw R 131 #[.string ⟨#[]⟩, .int .i64 0, .int .i64 0] := Rr
 have Ur' : Row Uw U 47 #[.slice none 0 0, .int .i64 0, .int .i64 0, .int .i64 0, .int .i64 0, .int .i64 0, .int .i64 0, .string ByteArray.empty] := Ur
 have Dr' : Row Dw D 47 #[.slice none 0 0, .int .i64 0, .int .i64 0, .int .i64 0, .int .i64 0, .int .i64 0, .int .i64 0, .string ByteArray.empty] := Dr
 have lPR : P < R := Nat.lt_of_lt_of_le Pr.lt Rh
 have lRU : R < U := Nat.lt_of_lt_of_le Rr'.lt Uh
 have lUD : U < D := Nat.lt_of_lt_of_le Ur'.lt Dh
 have rP := ((Pr.below Rb lPR).below Ub (by omega)).below Db (by omega)
 have rR := (Rr'.below Ub lRU).below Db (by omega)
 have rU := Ur'.below Db lUD
 have rD := Dr'
 have bb : Below w.heap.size w Dw := (((Below.refl w.heap.size w).trans (Pb.mono Ph)).trans (Rb.mono (by omega))).trans ((Ub.mono (by omega)).trans (Db.mono (by omega)))
 clear Pr Rr Ur Dr Pb Rb Ub Db Rr' Ur' Dr'
 have Htp := Lib.hid (rText_pl (most := 1000) Hp.out)
 have Htl := Lib.hid (Nat.le_trans (rText_len s r 1000) Hs.out)
 go_wp2_with (refine wpList_load_row rfl 131 _ rfl P rfl 131 (rrC s _) (0, 0) _ rP Tryz.underlying131 rfl (by kernel_rfl) ?_)
 refine (rtxt4_any s r Hp.out Hs.out Dw).mono ?_
 rintro e w3 ⟨rfl, bN⟩
 obtain ⟨⟨t, r1⟩, hc⟩ : ∃ p, p = rText s r 1000 := ⟨_, rfl⟩
 rw [← hc] at Hres Htp Htl ⊢
 clear hc
 dsimp only at Hres Htp Htl ⊢
 replace rP := rP.below bN rP.lt
 replace rD := rD.below bN rD.lt
 replace rR := rR.below bN rR.lt
 replace rU := rU.below bN rU.lt
 replace bb := bb.trans (bN.mono bb.size)
 go_wp2_with (refine at_store 131 _ _ rfl ?_)
 refine Stop.to ?_
 refine wpList_store_gen rfl 131 _ _ rfl P (rrC s r1) rfl rfl 131 _ rP (by kernel_rfl) rfl (by simp [rrC, Value.oneCell']) ?_
 intro w4 rP' oP
 replace rD := rD.only oP (by omega)
 replace rR := rR.only oP (by omega)
 replace rU := rU.only oP (by omega)
 replace bb := below_only bb oP (by omega)
 have rP := rP'
 clear rP'
 clear bN oP
 go_wp2_with fail
 refine (refDlGet_any t w4 Htl.out).mono ?_
 rintro e w5 ⟨⟨A, cap, ⟨path, op, n⟩⟩, gd, rfl, gok, gb, gn⟩
 replace rP := rP.below gb rP.lt
 replace rR := rR.below gb rR.lt
 replace rU := rU.below gb rU.lt
 replace rD := rD.below gb rD.lt
 replace bb := bb.trans (gb.mono bb.size)
 have Gn := Lib.hid gn
 obtain ⟨⟨gl, ge⟩, hgl⟩ : ∃ p, p = getDl t := ⟨_, rfl⟩
 rw [← hgl] at gd Hres ⊢
 dsimp only at gd Hres ⊢
 subst gd
 clear hgl Htl gb gn
 go_wp2_with (refine at_store _ _ _ rfl ?_)
 refine Stop.to ?_
 refine wpList_store_part rfl 42 _ _ rfl D 0 rfl (.agg #[.slice A path.length cap, .int .i64 op, .int .i64 n]) rfl [.slice A path.length cap, .int .i64 op, .int .i64 n] rfl 47 _ #[.slice A path.length cap, .int .i64 op, .int .i64 n, .int .i64 0, .int .i64 0, .int .i64 0, .int .i64 0, .string ByteArray.empty] rD (by kernel_rfl) (by show 0 + 3 ≤ 8; omega) (by simp [Value.oneCell']) rfl ?_
 intro w6 rD6 o6
 replace rP := rP.only o6 (by omega)
 replace rR := rR.only o6 (by omega)
 replace rU := rU.only o6 (by omega)
 replace bb := below_only bb o6 (by omega)
 have HT := Lib.hid (gok.only rD (by decide) o6)
 clear rD o6 gok
 have rD := rD6
 clear rD6
 have Hbp := Lib.hid (rByteZ_pl (z := -1) Htp.out)
 go_wp2_with (refine wpList_load_row rfl 131 _ rfl P rfl 131 (rrC s _) (0, 0) _ rP Tryz.underlying131 rfl (by kernel_rfl) ?_)
 refine (ask0_any s r1 Htp.out Hs.out w6).mono ?_
 rintro e w7 ⟨rfl, bN⟩
 obtain ⟨⟨bn, r2⟩, hc⟩ : ∃ p, p = rByteZ (-1) s r1 := ⟨_, rfl⟩
 rw [← hc] at Hres Hbp ⊢
 clear hc
 dsimp only at Hres Hbp ⊢
 replace rP := rP.below bN rP.lt
 replace rD := rD.below bN rD.lt
 replace rR := rR.below bN rR.lt
 replace rU := rU.below bN rU.lt
 replace bb := bb.trans (bN.mono bb.size)
 go_wp2_with (refine at_store 131 _ _ rfl ?_)
 refine Stop.to ?_
 refine wpList_store_gen rfl 131 _ _ rfl P (rrC s r2) rfl rfl 131 _ rP (by kernel_rfl) rfl (by simp [rrC, Value.oneCell']) ?_
 intro w8 rP' oP
 replace rD := rD.only oP (by omega)
 replace rR := rR.only oP (by omega)
 replace rU := rU.only oP (by omega)
 replace bb := below_only bb oP (by omega)
 replace HT := Lib.hid ((HT.out.go bN).only rP (by decide) oP)
 clear rP bN oP
 have rP := rP'
 clear rP'
 have cD := rD.cellv (i := 3) (v := .int .i64 0) rfl
 have fD := rD.free 3
 have oD := only_set (w8) D 3 (.int .i64 bn)
 have rD' : Row ((w8).setCell ⟨D, 3, none⟩ (.int .i64 bn)) D 47 #[.slice A path.length cap, .int .i64 op, .int .i64 n, .int .i64 bn, .int .i64 0, .int .i64 0, .int .i64 0, .string ByteArray.empty] := rD.set 3 _
 replace rP := rP.only oD (by omega)
 replace rR := rR.only oD (by omega)
 replace rU := rU.only oD (by omega)
 replace bb := below_only bb oD (by omega)
 replace HT := Lib.hid (HT.out.only rD (by decide) oD)
 clear rD oD
 have rD := rD'
 clear rD'
 have cD1 := cD
 have fD1 := fD
 have cD := rD.cellv (i := 4) (v := .int .i64 0) rfl
 have fD := rD.free 4
 have oD := only_set (w8.setCell ⟨D, 3, none⟩ (.int .i64 bn)) D 4 (.int .i64 (-1))
 have rD' : Row ((w8.setCell ⟨D, 3, none⟩ (.int .i64 bn)).setCell ⟨D, 4, none⟩ (.int .i64 (-1))) D 47 #[.slice A path.length cap, .int .i64 op, .int .i64 n, .int .i64 bn, .int .i64 (-1), .int .i64 0, .int .i64 0, .string ByteArray.empty] := rD.set 4 _
 replace rP := rP.only oD (by omega)
 replace rR := rR.only oD (by omega)
 replace rU := rU.only oD (by omega)
 replace bb := below_only bb oD (by omega)
 replace HT := Lib.hid (HT.out.only rD (by decide) oD)
 clear rD oD
 have rD := rD'
 clear rD'
 by_cases hb0 : bn = 0
 · subst hb0
   rw [if_pos rfl] at Hres
   have c3 := rD.cellv (i := 3) (v := .int .i64 0) rfl
   go_wp2_with fail
   clear cD fD cD1 fD1 c3
   obtain ⟨S, hSd⟩ : ∃ S, S = (fun W => Row W P 131 (rrC s r2) ∧ Row W D 47 #[.slice A path.length cap, .int .i64 op, .int .i64 n, .int .i64 0, .int .i64 (-1), .int .i64 0, .int .i64 0, .string ByteArray.empty] ∧ DlT W ⟨A, cap, ⟨path, op, n⟩⟩ ∧ Below w.heap.size w W) := ⟨_, rfl⟩
   have stS : St S := by rw [hSd]; infer_instance
   have T0 : Hid (∀ W, S W → Row W P 131 (rrC s r2)) := by show ∀ W, _; rw [hSd]; exact fun W h => h.1
   have T1 : Hid (∀ W, S W → Row W D 47 #[.slice A path.length cap, .int .i64 op, .int .i64 n, .int .i64 0, .int .i64 (-1), .int .i64 0, .int .i64 0, .string ByteArray.empty]) := by show ∀ W, _; rw [hSd]; exact fun W h => h.2.1
   have T2 : Hid (∀ W, S W → DlT W ⟨A, cap, ⟨path, op, n⟩⟩ ∧ Below w.heap.size w W) := by show ∀ W, _; rw [hSd]; exact fun W h => h.2.2
   have SMK : Hid (∀ W, Row W P 131 (rrC s r2) → Row W D 47 #[.slice A path.length cap, .int .i64 op, .int .i64 n, .int .i64 0, .int .i64 (-1), .int .i64 0, .int .i64 0, .string ByteArray.empty] → DlT W ⟨A, cap, ⟨path, op, n⟩⟩ → Below w.heap.size w W → S W) := by show ∀ W, _; rw [hSd]; exact fun W h h2 h3 h4 => ⟨h, h2, h3, h4⟩
   have hS := St.drew (SMK.out _ rP rD HT.out bb)
   replace rR := rR.drew
   replace rU := rU.drew
   clear hSd rP rD HT bb
   refine wp_region_held (S := S) (by kernel_rfl) ?_
   simp only [List.size_toArray, List.length_cons, List.length_nil, Nat.reduceAdd, Array.replicate_succ, Array.replicate_zero, List.push_toArray, List.nil_append, List.cons_append]
   show wpAnyH _ _ _ _ _ _ _ _ ((w8.setCell ⟨D, 3, none⟩ (.int .i64 0)).setCell ⟨D, 4, none⟩ (.int .i64 (-1))).drew
   generalize ((w8.setCell ⟨D, 3, none⟩ (.int .i64 0)).setCell ⟨D, 4, none⟩ (.int .i64 (-1))).drew = wz at hS rR rU ⊢
   (refine takeH (i := 0) (v := _) rfl (by kernel_rfl) (by kernel_rfl) (by kernel_rfl) (fun _ _ _ h => h) ((yields_row rfl 131 _ rfl P rfl 131 (rrC s r2) _ T0.out Tryz.underlying131 rfl (by kernel_rfl))) (by assumption) ?_; simp only [Act.put, List.setIfInBounds_toArray, List.set_cons_zero, List.set_cons_succ])
   (refine takeH (i := 1) (v := _) rfl (by kernel_rfl) (by kernel_rfl) (by kernel_rfl) (fun _ _ _ h => h) ((yields_row rfl 47 _ rfl D rfl 47 #[.slice A path.length cap, .int .i64 op, .int .i64 n, .int .i64 0, .int .i64 (-1), .int .i64 0, .int .i64 0, .string ByteArray.empty] _ T1.out Tryz.underlying47 rfl (by kernel_rfl))) (by assumption) ?_; simp only [Act.put, List.setIfInBounds_toArray, List.set_cons_zero, List.set_cons_succ])
   (refine wpAnyH_all (rs := [2]) (by kernel_rfl) (by simp) (fun i hi => ?_); obtain rfl : i = 2 := by simpa using hi)
   refine wpOp_plain rfl rfl (fun K2 hK2 => ?_)
   refine wp_store_gen 131 _ _ rfl R (rrC s r2) rfl rfl 131 _ rR (by kernel_rfl) rfl (by simp [rrC, Value.oneCell']) ?_
   intro wa rRa oa
   refine hK2 _ _ ?_
   clear hK2 K2
   simp only [Act.put, List.setIfInBounds_toArray, List.set_cons_zero, List.set_cons_succ]
   have hSa : S wa := SMK.out _ ((T0.out _ hS).only oa (by omega)) ((T1.out _ hS).only oa (by omega)) ((T2.out _ hS).1.only rR (by decide) oa) (below_only (T2.out _ hS).2 oa (by omega))
   have rUa := rU.only oa (by omega)
   refine ⟨hSa, ?_⟩
   (refine wpAnyH_all (rs := [3]) (by kernel_rfl) (by simp) (fun i hi => ?_); obtain rfl : i = 3 := by simpa using hi)
   refine wpOp_plain rfl rfl (fun K2 hK2 => ?_)
   refine wp_store_gen 47 _ _ rfl U #[.slice A path.length cap, .int .i64 op, .int .i64 n, .int .i64 0, .int .i64 (-1), .int .i64 0, .int .i64 0, .string ByteArray.empty] rfl rfl 47 _ rUa (by kernel_rfl) rfl (by simp [Value.oneCell']) ?_
   intro wb rUb ob
   refine hK2 _ _ ?_
   clear hK2 K2
   simp only [Act.put, List.setIfInBounds_toArray, List.set_cons_zero, List.set_cons_succ]
   have hSb : S wb := SMK.out _ ((T0.out _ hSa).only ob (by omega)) ((T1.out _ hSa).only ob (by omega)) ((T2.out _ hSa).1.only rUa (by decide) ob) (below_only (T2.out _ hSa).2 ob (by omega))
   have rRb := rRa.only ob (by omega)
   refine ⟨hSb, ?_⟩
   refine wpAnyH_done (by kernel_rfl) ?_ _
   obtain ⟨hT, bE⟩ := T2.out _ hSb
   go_wp2_with fail
   refine bodyPost_ret (results_cells2 Tryz.results99 _ _ ⟨R, 0, none⟩ ⟨U, 0, none⟩ (.agg (rrC s r2)) (.agg #[.slice A path.length cap, .int .i64 op, .int .i64 n, .int .i64 0, .int .i64 (-1), .int .i64 0, .int .i64 0, .string ByteArray.empty]) rfl rfl ?_ ?_) rfl (Hfin.out _ _ ⟨A, cap, ⟨⟨path, op, n⟩, 0, -1, 0, 0, []⟩⟩ ⟨by rw [Hres.out], by rw [Hres.out]; rfl, dl_mt hT _ _ _ _ _ (by simp), bE, Gn.out, (show InI 0 from ⟨by decide, by decide⟩)⟩)
   · exact run_loadVar_row _ R 131 131 _ (0, 0) _ rRb Tryz.underlying131 rfl (by kernel_rfl)
   · exact run_loadVar_row _ U 47 47 _ (0, 0) _ rUb Tryz.underlying47 rfl (by kernel_rfl)
 rw [if_neg hb0] at Hres
 have c3 := rD.cellv (i := 3) (v := .int .i64 bn) rfl
 have Hcp := Lib.hid (rCountZ_pl (z := -1) (most := 1000000) Hbp.out)
 go_wp2_with (refine wpList_load_row rfl 131 _ rfl P rfl 131 (rrC s _) (0, 0) _ rP Tryz.underlying131 rfl (by kernel_rfl) ?_)
 refine (ask2_any s r2 Hbp.out Hs.out _).mono ?_
 rintro e w9 ⟨rfl, bN⟩
 obtain ⟨⟨ct, r3⟩, hc⟩ : ∃ p, p = rCountZ (-1) s r2 1000000 := ⟨_, rfl⟩
 rw [← hc] at Hres Hcp ⊢
 clear hc
 dsimp only at Hres Hcp ⊢
 replace rP := rP.below bN rP.lt
 replace rD := rD.below bN rD.lt
 replace rR := rR.below bN rR.lt
 replace rU := rU.below bN rU.lt
 replace bb := bb.trans (bN.mono bb.size)
 clear cD fD cD1 fD1 c3
 go_wp2_with (refine at_store 131 _ _ rfl ?_)
 refine Stop.to ?_
 refine wpList_store_gen rfl 131 _ _ rfl P (rrC s r3) rfl rfl 131 _ rP (by kernel_rfl) rfl (by simp [rrC, Value.oneCell']) ?_
 intro w10 rP' oP
 replace rD := rD.only oP (by omega)
 replace rR := rR.only oP (by omega)
 replace rU := rU.only oP (by omega)
 replace bb := below_only bb oP (by omega)
 replace HT := Lib.hid ((HT.out.go bN).only rP (by decide) oP)
 clear rP bN oP
 have rP := rP'
 clear rP'
 have cD := rD.cellv (i := 4) (v := .int .i64 (-1)) rfl
 have fD := rD.free 4
 have oD := only_set (w10) D 4 (.int .i64 ct)
 have rD' : Row ((w10).setCell ⟨D, 4, none⟩ (.int .i64 ct)) D 47 #[.slice A path.length cap, .int .i64 op, .int .i64 n, .int .i64 bn, .int .i64 ct, .int .i64 0, .int .i64 0, .string ByteArray.empty] := rD.set 4 _
 replace rP := rP.only oD (by omega)
 replace rR := rR.only oD (by omega)
 replace rU := rU.only oD (by omega)
 replace bb := below_only bb oD (by omega)
 replace HT := Lib.hid (HT.out.only rD (by decide) oD)
 clear rD oD
 have rD := rD'
 clear rD'
 have Hkp := Lib.hid (rByteZ_pl (z := -1) Hcp.out)
 go_wp2_with (refine wpList_load_row rfl 131 _ rfl P rfl 131 (rrC s _) (0, 0) _ rP Tryz.underlying131 rfl (by kernel_rfl) ?_)
 refine (ask0_any s r3 Hcp.out Hs.out _).mono ?_
 rintro e w11 ⟨rfl, bN⟩
 obtain ⟨⟨kn, r4⟩, hc⟩ : ∃ p, p = rByteZ (-1) s r3 := ⟨_, rfl⟩
 rw [← hc] at Hres Hkp ⊢
 clear hc
 dsimp only at Hres Hkp ⊢
 replace rP := rP.below bN rP.lt
 replace rD := rD.below bN rD.lt
 replace rR := rR.below bN rR.lt
 replace rU := rU.below bN rU.lt
 replace bb := bb.trans (bN.mono bb.size)
 clear cD fD
 go_wp2_with (refine at_store 131 _ _ rfl ?_)
 refine Stop.to ?_
 refine wpList_store_gen rfl 131 _ _ rfl P (rrC s r4) rfl rfl 131 _ rP (by kernel_rfl) rfl (by simp [rrC, Value.oneCell']) ?_
 intro w12 rP' oP
 replace rD := rD.only oP (by omega)
 replace rR := rR.only oP (by omega)
 replace rU := rU.only oP (by omega)
 replace bb := below_only bb oP (by omega)
 replace HT := Lib.hid ((HT.out.go bN).only rP (by decide) oP)
 clear rP bN oP
 have rP := rP'
 clear rP'
 have cD := rD.cellv (i := 5) (v := .int .i64 0) rfl
 have fD := rD.free 5
 have oD := only_set (w12) D 5 (.int .i64 kn)
 have rD' : Row ((w12).setCell ⟨D, 5, none⟩ (.int .i64 kn)) D 47 #[.slice A path.length cap, .int .i64 op, .int .i64 n, .int .i64 bn, .int .i64 ct, .int .i64 kn, .int .i64 0, .string ByteArray.empty] := rD.set 5 _
 replace rP := rP.only oD (by omega)
 replace rR := rR.only oD (by omega)
 replace rU := rU.only oD (by omega)
 replace bb := below_only bb oD (by omega)
 replace HT := Lib.hid (HT.out.only rD (by decide) oD)
 clear rD oD
 have rD := rD'
 clear rD'
 have Hvp := Lib.hid (rIntZ_pl (z := -1) Hkp.out)
 have Hvi := Lib.hid (rIntZ_in (z := -1) ⟨by decide, by decide⟩ s r4)
 go_wp2_with (refine wpList_load_row rfl 131 _ rfl P rfl 131 (rrC s _) (0, 0) _ rP Tryz.underlying131 rfl (by kernel_rfl) ?_)
 refine (ask3_any s r4 Hkp.out Hs.out _).mono ?_
 rintro e w13 ⟨rfl, bN⟩
 obtain ⟨⟨vi, r5⟩, hc⟩ : ∃ p, p = rIntZ (-1) s r4 := ⟨_, rfl⟩
 rw [← hc] at Hres Hvp Hvi ⊢
 clear hc
 dsimp only at Hres Hvp Hvi ⊢
 replace rP := rP.below bN rP.lt
 replace rD := rD.below bN rD.lt
 replace rR := rR.below bN rR.lt
 replace rU := rU.below bN rU.lt
 replace bb := bb.trans (bN.mono bb.size)
 clear cD fD
 go_wp2_with (refine at_store 131 _ _ rfl ?_)
 refine Stop.to ?_
 refine wpList_store_gen rfl 131 _ _ rfl P (rrC s r5) rfl rfl 131 _ rP (by kernel_rfl) rfl (by simp [rrC, Value.oneCell']) ?_
 intro w14 rP' oP
 replace rD := rD.only oP (by omega)
 replace rR := rR.only oP (by omega)
 replace rU := rU.only oP (by omega)
 replace bb := below_only bb oP (by omega)
 replace HT := Lib.hid ((HT.out.go bN).only rP (by decide) oP)
 clear rP bN oP
 have rP := rP'
 clear rP'
 have cD := rD.cellv (i := 6) (v := .int .i64 0) rfl
 have fD := rD.free 6
 have oD := only_set (w14) D 6 (.int .i64 vi)
 have rD' : Row ((w14).setCell ⟨D, 6, none⟩ (.int .i64 vi)) D 47 #[.slice A path.length cap, .int .i64 op, .int .i64 n, .int .i64 bn, .int .i64 ct, .int .i64 kn, .int .i64 vi, .string ByteArray.empty] := rD.set 6 _
 replace rP := rP.only oD (by omega)
 replace rR := rR.only oD (by omega)
 replace rU := rU.only oD (by omega)
 replace bb := below_only bb oD (by omega)
 replace HT := Lib.hid (HT.out.only rD (by decide) oD)
 clear rD oD
 have rD := rD'
 clear rD'
 have Hdl := Lib.hid (Nat.le_trans (rRaw_len s r5 32) Hs.out)
 go_wp2_with (refine wpList_load_row rfl 131 _ rfl P rfl 131 (rrC s _) (0, 0) _ rP Tryz.underlying131 rfl (by kernel_rfl) ?_)
 refine (rtxt5_any s r5 Hvp.out Hs.out _).mono ?_
 rintro e w15 ⟨rfl, bN⟩
 obtain ⟨⟨dg, r6⟩, hc⟩ : ∃ p, p = rRaw s r5 32 := ⟨_, rfl⟩
 rw [← hc] at Hres Hdl ⊢
 clear hc
 dsimp only at Hres Hdl ⊢
 replace rP := rP.below bN rP.lt
 replace rD := rD.below bN rD.lt
 replace rR := rR.below bN rR.lt
 replace rU := rU.below bN rU.lt
 replace bb := bb.trans (bN.mono bb.size)
 clear cD fD
 go_wp2_with (refine at_store 131 _ _ rfl ?_)
 refine Stop.to ?_
 refine wpList_store_gen rfl 131 _ _ rfl P (rrC s r6) rfl rfl 131 _ rP (by kernel_rfl) rfl (by simp [rrC, Value.oneCell']) ?_
 intro w16 rP' oP
 replace rD := rD.only oP (by omega)
 replace rR := rR.only oP (by omega)
 replace rU := rU.only oP (by omega)
 replace bb := below_only bb oP (by omega)
 replace HT := Lib.hid ((HT.out.go bN).only rP (by decide) oP)
 clear rP bN oP
 have rP := rP'
 clear rP'
 have cD := rD.cellv (i := 7) (v := .string ByteArray.empty) rfl
 have fD := rD.free 7
 have oD := only_set (w16) D 7 (.string ⟨dg.toArray⟩)
 have rD' : Row ((w16).setCell ⟨D, 7, none⟩ (.string ⟨dg.toArray⟩)) D 47 #[.slice A path.length cap, .int .i64 op, .int .i64 n, .int .i64 bn, .int .i64 ct, .int .i64 kn, .int .i64 vi, .string ⟨dg.toArray⟩] := rD.set 7 _
 replace rP := rP.only oD (by omega)
 replace rR := rR.only oD (by omega)
 replace rU := rU.only oD (by omega)
 replace bb := below_only bb oD (by omega)
 replace HT := Lib.hid (HT.out.only rD (by decide) oD)
 clear rD oD
 have rD := rD'
 clear rD'
 go_wp2_with fail
 clear cD fD
 obtain ⟨S, hSd⟩ : ∃ S, S = (fun W => Row W P 131 (rrC s r6) ∧ Row W D 47 #[.slice A path.length cap, .int .i64 op, .int .i64 n, .int .i64 bn, .int .i64 ct, .int .i64 kn, .int .i64 vi, .string ⟨dg.toArray⟩] ∧ DlT W ⟨A, cap, ⟨path, op, n⟩⟩ ∧ Below w.heap.size w W) := ⟨_, rfl⟩
 have stS : St S := by rw [hSd]; infer_instance
 have T0 : Hid (∀ W, S W → Row W P 131 (rrC s r6)) := by show ∀ W, _; rw [hSd]; exact fun W h => h.1
 have T1 : Hid (∀ W, S W → Row W D 47 #[.slice A path.length cap, .int .i64 op, .int .i64 n, .int .i64 bn, .int .i64 ct, .int .i64 kn, .int .i64 vi, .string ⟨dg.toArray⟩]) := by show ∀ W, _; rw [hSd]; exact fun W h => h.2.1
 have T2 : Hid (∀ W, S W → DlT W ⟨A, cap, ⟨path, op, n⟩⟩ ∧ Below w.heap.size w W) := by show ∀ W, _; rw [hSd]; exact fun W h => h.2.2
 have SMK : Hid (∀ W, Row W P 131 (rrC s r6) → Row W D 47 #[.slice A path.length cap, .int .i64 op, .int .i64 n, .int .i64 bn, .int .i64 ct, .int .i64 kn, .int .i64 vi, .string ⟨dg.toArray⟩] → DlT W ⟨A, cap, ⟨path, op, n⟩⟩ → Below w.heap.size w W → S W) := by show ∀ W, _; rw [hSd]; exact fun W h h2 h3 h4 => ⟨h, h2, h3, h4⟩
 have hS := St.drew (SMK.out _ rP rD HT.out bb)
 replace rR := rR.drew
 replace rU := rU.drew
 clear hSd rP rD HT bb
 refine wp_region_held (S := S) (by kernel_rfl) ?_
 simp only [List.size_toArray, List.length_cons, List.length_nil, Nat.reduceAdd, Array.replicate_succ, Array.replicate_zero, List.push_toArray, List.nil_append, List.cons_append]
 show wpAnyH _ _ _ _ _ _ _ _ (w16.setCell ⟨D, 7, none⟩ (.string ⟨dg.toArray⟩)).drew
 generalize (w16.setCell ⟨D, 7, none⟩ (.string ⟨dg.toArray⟩)).drew = wz at hS rR rU ⊢
 (refine takeH (i := 0) (v := _) rfl (by kernel_rfl) (by kernel_rfl) (by kernel_rfl) (fun _ _ _ h => h) ((yields_row rfl 131 _ rfl P rfl 131 (rrC s r6) _ T0.out Tryz.underlying131 rfl (by kernel_rfl))) (by assumption) ?_; simp only [Act.put, List.setIfInBounds_toArray, List.set_cons_zero, List.set_cons_succ])
 (refine takeH (i := 1) (v := _) rfl (by kernel_rfl) (by kernel_rfl) (by kernel_rfl) (fun _ _ _ h => h) ((yields_row rfl 47 _ rfl D rfl 47 #[.slice A path.length cap, .int .i64 op, .int .i64 n, .int .i64 bn, .int .i64 ct, .int .i64 kn, .int .i64 vi, .string ⟨dg.toArray⟩] _ T1.out Tryz.underlying47 rfl (by kernel_rfl))) (by assumption) ?_; simp only [Act.put, List.setIfInBounds_toArray, List.set_cons_zero, List.set_cons_succ])
 (refine wpAnyH_all (rs := [2]) (by kernel_rfl) (by simp) (fun i hi => ?_); obtain rfl : i = 2 := by simpa using hi)
 refine wpOp_plain rfl rfl (fun K2 hK2 => ?_)
 refine wp_store_gen 131 _ _ rfl R (rrC s r6) rfl rfl 131 _ rR (by kernel_rfl) rfl (by simp [rrC, Value.oneCell']) ?_
 intro wa rRa oa
 refine hK2 _ _ ?_
 clear hK2 K2
 simp only [Act.put, List.setIfInBounds_toArray, List.set_cons_zero, List.set_cons_succ]
 have hSa : S wa := SMK.out _ ((T0.out _ hS).only oa (by omega)) ((T1.out _ hS).only oa (by omega)) ((T2.out _ hS).1.only rR (by decide) oa) (below_only (T2.out _ hS).2 oa (by omega))
 have rUa := rU.only oa (by omega)
 refine ⟨hSa, ?_⟩
 (refine wpAnyH_all (rs := [3]) (by kernel_rfl) (by simp) (fun i hi => ?_); obtain rfl : i = 3 := by simpa using hi)
 refine wpOp_plain rfl rfl (fun K2 hK2 => ?_)
 refine wp_store_gen 47 _ _ rfl U #[.slice A path.length cap, .int .i64 op, .int .i64 n, .int .i64 bn, .int .i64 ct, .int .i64 kn, .int .i64 vi, .string ⟨dg.toArray⟩] rfl rfl 47 _ rUa (by kernel_rfl) rfl (by simp [Value.oneCell']) ?_
 intro wb rUb ob
 refine hK2 _ _ ?_
 clear hK2 K2
 simp only [Act.put, List.setIfInBounds_toArray, List.set_cons_zero, List.set_cons_succ]
 have hSb : S wb := SMK.out _ ((T0.out _ hSa).only ob (by omega)) ((T1.out _ hSa).only ob (by omega)) ((T2.out _ hSa).1.only rUa (by decide) ob) (below_only (T2.out _ hSa).2 ob (by omega))
 have rRb := rRa.only ob (by omega)
 refine ⟨hSb, ?_⟩
 refine wpAnyH_done (by kernel_rfl) ?_ _
 obtain ⟨hT, bE⟩ := T2.out _ hSb
 go_wp2_with fail
 refine bodyPost_ret (results_cells2 Tryz.results99 _ _ ⟨R, 0, none⟩ ⟨U, 0, none⟩ (.agg (rrC s r6)) (.agg #[.slice A path.length cap, .int .i64 op, .int .i64 n, .int .i64 bn, .int .i64 ct, .int .i64 kn, .int .i64 vi, .string ⟨dg.toArray⟩]) rfl rfl ?_ ?_) rfl (Hfin.out _ _ ⟨A, cap, ⟨⟨path, op, n⟩, bn, ct, kn, vi, dg⟩⟩ ⟨by rw [Hres.out], by rw [Hres.out]; rfl, dl_mt hT _ _ _ _ _ Hdl.out, bE, Gn.out, Hvi.out⟩)
 · exact run_loadVar_row _ R 131 131 _ (0, 0) _ rRb Tryz.underlying131 rfl (by kernel_rfl)
 · exact run_loadVar_row _ U 47 47 _ (0, 0) _ rUb Tryz.underlying47 rfl (by kernel_rfl)
end Go.Proofs.YtcgglolckkeeiaaGreat
