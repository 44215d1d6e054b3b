/- Lemmas for CoAll. -/
import Derived.Test.YtcgglolckkeeiaaGreatZo31
import Derived.Test.YtcgglolckkeeiaaGreatZo32
import Derived.Test.YtcgglolckkeeiaaGreatZo27
set_option linter.unusedVariables false
set_option linter.unusedSimpArgs false
namespace Go.Proofs.YtcgglolckkeeiaaGreat
open Go.RowKit Go.Deep
set_option maxRecDepth 100000 in
set_option maxHeartbeats 4000000 in
theorem rtxt_gen (k N : Int) (s : List UInt8) (r r2 : Rs) (x : List UInt8) (hdo : ∀ w, Calls Tryz.prog 145 #[.agg (rrC s r), .agg (opC k N)] w fun e w' => e = .returned (.tuple #[.agg (rrC s r2), .agg (gotC 0 0 x)]) ∧ Below w.heap.size w w') (w : World) :
 Calls Tryz.prog 146 #[.agg (rrC s r), .int .i64 k, .int .i64 N] w fun e w' => e = .returned (.tuple #[.agg (rrC s r2), .string ⟨x.toArray⟩]) ∧ Below w.heap.size w w' := by
 obtain ⟨n, hn⟩ : ∃ n : Nat, n = 0 := ⟨_, rfl⟩
 obtain ⟨i, hi⟩ : ∃ i : Int, i = 0 := ⟨_, rfl⟩
 rw [← hn, ← hi] at hdo
 obtain ⟨pl, er⟩ := r
 obtain ⟨q, er2⟩ := r2
 have HD := Lib.hid hdo
 clear hdo hn hi
 show Calls _ _ #[.agg #[.string ⟨s.toArray⟩, .int .i64 (pl : Int), .int .i64 er], .int .i64 k, .int .i64 N] _ _
 go_enter Tryz.func146, Tryz.ntmps146
 go_wp2_with (refine at_box _ _ rfl ?_)
 refine Stop.to ?_
 refine wpList_box_gen rfl 131 _ rfl #[.string ⟨s.toArray⟩, .int .i64 (pl : Int), .int .i64 er] rfl ?_
 intro G Gw Gh Gr Gb
 go_wp2_with (first | fail | (refine at_alloc _ rfl ?_))
 refine Stop.to ?_
 refine wpList_alloc_gen rfl 131 rfl _ _ (zero_rr _) rfl ?_
 intro R Rw Rh Rr Rb
 have Rr' : Row Rw R 131 #[.string ⟨#[]⟩, .int .i64 0, .int .i64 0] := Rr
 have lGR : G < R := Nat.lt_of_lt_of_le Gr.lt Rh
 have rG := Gr.below Rb lGR
 have rR := Rr'
 have bb : Below w.heap.size w Rw := ((Below.refl w.heap.size w).trans (Gb.mono Gh)).trans (Rb.mono (by omega))
 clear Gr Rr Gb Rb Rr'
 have hz : (Instr.build 192 #[(0, .int .i64 k), (1, .int .i64 N)]).run Tryz.prog Rw = .ok (.agg #[.int .i64 k, .int .i64 N]) Rw := by kernel_rfl
 go_wp2_with (refine wpList_load_row rfl 131 _ rfl G rfl 131 #[.string ⟨s.toArray⟩, .int .i64 (pl : Int), .int .i64 er] (0, 0) _ rG Tryz.underlying131 rfl (by kernel_rfl) ?_)
 refine (HD.out Rw).mono ?_
 rintro e w3 ⟨rfl, b3⟩
 replace rR := rR.below b3 rR.lt
 replace bb := bb.trans (b3.mono bb.size)
 have hR3 : R < w3.heap.size := rR.lt
 clear rG b3 hz
 dsimp only [rrC, gotC]
 go_wp2_with (first | fail | (refine at_alloc _ rfl ?_))
 refine Stop.to ?_
 refine wpList_alloc_gen rfl 131 rfl _ _ (zero_rr _) rfl ?_
 intro X Xw Xh Xr Xb
 go_wp2_with (first | fail | (refine at_alloc _ rfl ?_))
 refine Stop.to ?_
 refine wpList_alloc_gen rfl 188 rfl _ _ (zero_got _) rfl ?_
 intro Y Yw Yh Yr Yb
 have Xr' : Row Xw X 131 #[.string ⟨#[]⟩, .int .i64 0, .int .i64 0] := Xr
 have Yr' : Row Yw Y 188 #[.int .u64 0, .int .i64 0, .string ⟨#[]⟩, .int .i64 0, .int .i64 0] := Yr
 have lRX : R < X := by omega
 have lXY : X < Y := Nat.lt_of_lt_of_le Xr'.lt Yh
 replace rR := (rR.below Xb (by omega)).below Yb (by omega)
 have rX := Xr'.below Yb lXY
 have rY := Yr'
 replace bb := (bb.trans (Xb.mono (by have := bb.size; omega))).trans (Yb.mono (by have := bb.size; omega))
 clear Xr Yr Xb Yb Xr' Yr'
 go_wp2_with (refine at_store 131 _ _ rfl ?_)
 refine Stop.to ?_
 refine wpList_store_gen rfl 131 _ _ rfl X #[.string ⟨s.toArray⟩, .int .i64 (q : Int), .int .i64 er2] rfl rfl 131 _ rX (by kernel_rfl) rfl (by simp [Value.oneCell']) ?_
 intro w4 rX4 o4
 replace rR := rR.only o4 (by omega)
 replace rY := rY.only o4 (by omega)
 replace bb := below_only bb o4 (by omega)
 clear rX o4
 go_wp2_with (refine at_store 188 _ _ rfl ?_)
 refine Stop.to ?_
 refine wpList_store_gen rfl 188 _ _ rfl Y #[.int .u64 (n : Int), .int .i64 i, .string ⟨x.toArray⟩, .int .i64 0, .int .i64 0] rfl rfl 188 _ rY (by kernel_rfl) rfl (by simp [Value.oneCell']) ?_
 intro w6 rY o6
 replace rR := rR.only o6 (by omega)
 replace bb := below_only bb o6 (by omega)
 have rX := rX4.only o6 (by omega)
 clear rX4 o6
 have cX2 := rX.cellv (i := 2) (v := .int .i64 er2) rfl
 clear cX2
 go_wp2_with fail
 obtain ⟨S, hSd⟩ : ∃ S, S = (fun W => Row W X 131 #[.string ⟨s.toArray⟩, .int .i64 (q : Int), .int .i64 er2] ∧ Row W Y 188 #[.int .u64 (n : Int), .int .i64 i, .string ⟨x.toArray⟩, .int .i64 0, .int .i64 0] ∧ Below w.heap.size w W) := ⟨_, rfl⟩
 have stS : St S := by rw [hSd]; infer_instance
 have T0 : Hid (∀ W, S W → Row W X 131 #[.string ⟨s.toArray⟩, .int .i64 (q : Int), .int .i64 er2]) := by show ∀ W, _; rw [hSd]; exact fun W h => h.1
 have T1 : Hid (∀ W, S W → Row W Y 188 #[.int .u64 (n : Int), .int .i64 i, .string ⟨x.toArray⟩, .int .i64 0, .int .i64 0]) := by show ∀ W, _; rw [hSd]; exact fun W h => h.2.1
 have T4 : Hid (∀ W, S W → Below w.heap.size w W) := by show ∀ W, _; rw [hSd]; exact fun W h => h.2.2
 have SMK : Hid (∀ W, Row W X 131 #[.string ⟨s.toArray⟩, .int .i64 (q : Int), .int .i64 er2] → Row W Y 188 #[.int .u64 (n : Int), .int .i64 i, .string ⟨x.toArray⟩, .int .i64 0, .int .i64 0] → Below w.heap.size w W → S W) := by show ∀ W, _; rw [hSd]; exact fun W h h2 h3 => ⟨h, h2, h3⟩
 have hS := St.drew (SMK.out _ rX rY bb)
 replace rR := rR.drew
 clear hSd rX rY bb
 refine wp_region_held (S := S) (by kernel_rfl) ?_
 simp only [List.size_toArray, List.length_cons, List.length_nil, Nat.reduceAdd, Array.replicate_succ, Array.replicate_zero, List.push_toArray, List.nil_append, List.cons_append]
 show wpAnyH _ _ _ _ _ _ _ _ (w6).drew
 generalize (w6).drew = w5 at hS rR ⊢
 (refine takeH (i := 0) (v := _) rfl (by kernel_rfl) (by kernel_rfl) (by kernel_rfl) (fun _ _ _ h => h) ((yields_row rfl 131 _ rfl X rfl 131 #[.string ⟨s.toArray⟩, .int .i64 (q : Int), .int .i64 er2] _ T0.out Tryz.underlying131 rfl (by kernel_rfl))) (by assumption) ?_; simp only [Act.put, List.setIfInBounds_toArray, List.set_cons_zero, List.set_cons_succ])
 (refine takeH (i := 1) (v := .pointer (some ⟨Y, 2, none⟩)) rfl (by kernel_rfl) (by kernel_rfl) (by kernel_rfl) (fun _ _ _ h => h) (yields_val rfl (fun W hW => by (go_simp))) (by assumption) ?_; simp only [Act.put, List.setIfInBounds_toArray, List.set_cons_zero, List.set_cons_succ])
 (refine takeH (i := 2) (v := .string ⟨x.toArray⟩) rfl (by kernel_rfl) (by kernel_rfl) (by kernel_rfl) (fun _ _ _ h => h) (yields_val rfl (fun W hW => by ((have h := (T1.out W hW).cellv (i := 2) (v := .string ⟨x.toArray⟩) rfl; go_simp)))) (by assumption) ?_; simp only [Act.put, List.setIfInBounds_toArray, List.set_cons_zero, List.set_cons_succ])
 (refine wpAnyH_all (rs := [3]) (by kernel_rfl) (by simp) (fun i hi => ?_); obtain rfl : i = 3 := by simpa using hi)
 refine wpOp_plain rfl rfl (fun K2 hK2 => ?_)
 refine wp_store_gen 131 _ _ rfl R #[.string ⟨s.toArray⟩, .int .i64 (q : Int), .int .i64 er2] rfl rfl 131 _ rR (by kernel_rfl) rfl (by simp [Value.oneCell']) ?_
 intro w6 rR6 o6
 refine hK2 _ _ ?_
 clear hK2 K2
 simp only [Act.put, List.setIfInBounds_toArray, List.set_cons_zero, List.set_cons_succ]
 have hS6 : S w6 := SMK.out _ ((T0.out _ hS).only o6 (by omega)) ((T1.out _ hS).only o6 (by omega)) (below_only (T4.out _ hS) o6 (by omega))
 refine ⟨hS6, ?_⟩
 (refine takeH (i := 4) (v := .string ⟨x.toArray⟩) rfl (by kernel_rfl) (by kernel_rfl) (by kernel_rfl) (fun _ _ _ h => h) (yields_val rfl (fun W hW => by (go_simp))) (by assumption) ?_; simp only [Act.put, List.setIfInBounds_toArray, List.set_cons_zero, List.set_cons_succ])
 refine wpAnyH_done (by kernel_rfl) ?_ _
 have bE := T4.out _ hS6
 go_wp2_with fail
 refine bodyPost_ret (results_cell_tmp Tryz.results146 _ _ R 131 _ (0, 0) _ rfl rR6 Tryz.underlying131 rfl (by kernel_rfl)) rfl ?_
 exact ⟨rfl, bE⟩
theorem rtxt4_any (s : List UInt8) (r : Rs) (hp : r.pl ≤ s.length) (hs : s.length ≤ 1000000) (w : World) :
 Calls Tryz.prog 146 #[.agg (rrC s r), .int .i64 4, .int .i64 1000] w fun e w' => e = .returned (.tuple #[.agg (rrC s (rText s r 1000).2), .string ⟨(rText s r 1000).1.toArray⟩]) ∧ Below w.heap.size w w' := by
 by_cases hr : r.er = 0
 · exact rtxt_gen 4 1000 s r _ _ (fun w => do4_any s r 1000 (by decide) (by decide) hr hp hs w) w
 · have e : rText s r 1000 = ([], r) := by unfold rText; split <;> exact step_no hr _ _
   rw [e]
   exact rtxt_gen 4 1000 s r r [] (fun w => doNo_any s r 4 1000 hr w) w
theorem rtxt5_any (s : List UInt8) (r : Rs) (hp : r.pl ≤ s.length) (hs : s.length ≤ 1000000) (w : World) :
 Calls Tryz.prog 146 #[.agg (rrC s r), .int .i64 5, .int .i64 32] w fun e w' => e = .returned (.tuple #[.agg (rrC s (rRaw s r 32).2), .string ⟨(rRaw s r 32).1.toArray⟩]) ∧ Below w.heap.size w w' := by
 by_cases hr : r.er = 0
 · exact rtxt_gen 5 32 s r _ _ (fun w => do5_any s r 32 (by decide) hr hp hs w) w
 · have e : rRaw s r 32 = ([], r) := step_no hr _ _
   rw [e]
   exact rtxt_gen 5 32 s r r [] (fun w => doNo_any s r 5 32 hr w) w
structure RdGot (s : List UInt8) (r : Rs) (w w' : World) (e : Ending) (y : DlV) : Prop where
 dd : y.d = (dlRdR s r).1
 ee : e = .returned (.tuple #[.agg (rrC s (dlRdR s r).2), .agg y.cells])
 ok : DlT w' y
 b : Below w.heap.size w w'
 n : InI y.d.n
theorem rIntZ_in {z : Int} (hz : InI z) (s : List UInt8) (r : Rs) : InI (rIntZ z s r).1 := by
 unfold rIntZ
 rw [step_fst]
 dsimp only
 split
 · rcases getL_shape (s.drop r.pl) with ⟨_, h⟩ | ⟨_, h, _⟩
   · exact zag_in h
   · rw [h]; exact ⟨by decide, by decide⟩
 · exact hz
theorem rByteZ_pl {z : Int} {s : List UInt8} {r : Rs} (h : r.pl ≤ s.length) : (rByteZ z s r).2.pl ≤ s.length := step_pl h fun e => by
 by_cases hc : s.length ≤ r.pl
 · rw [if_pos hc] at e; exact absurd (show (2 : Int) = 0 from e) (by decide)
 · dsimp only; omega
theorem rIntZ_pl {z : Int} {s : List UInt8} {r : Rs} (h : r.pl ≤ s.length) : (rIntZ z s r).2.pl ≤ s.length := step_pl h fun _ => by
 have := getL_len (s.drop r.pl)
 simp only [List.length_drop] at this
 dsimp only
 omega
theorem dlRdR_eq (s : List UInt8) (r : Rs) : dlRdR s r = (⟨(pathR (-1) 1000000 s (rCountZ (-1) s r 1000000).2 (min (rCountZ (-1) s r 1000000).1.toNat 31)).1, (rByteZ (-1) s (pathR (-1) 1000000 s (rCountZ (-1) s r 1000000).2 (min (rCountZ (-1) s r 1000000).1.toNat 31)).2).1, (rIntZ (-1) s (rByteZ (-1) s (pathR (-1) 1000000 s (rCountZ (-1) s r 1000000).2 (min (rCountZ (-1) s r 1000000).1.toNat 31)).2).2).1⟩, (rIntZ (-1) s (rByteZ (-1) s (pathR (-1) 1000000 s (rCountZ (-1) s r 1000000).2 (min (rCountZ (-1) s r 1000000).1.toNat 31)).2).2).2) := by rw [dlRdR]
structure RdL (s : List UInt8) (r1 : Rs) (P R U D lim k : Nat) (w W : World) (v : Value) : Prop where
 rP : Row W P 131 (rrC s (pathR (-1) 1000000 s r1 k).2)
 rR : Row W R 131 #[.string ⟨#[]⟩, .int .i64 0, .int .i64 0]
 rU : Row W U 42 #[.slice none 0 0, .int .i64 0, .int .i64 0]
 rD : Row W D 42 #[v, .int .i64 0, .int .i64 0]
 own : W.ownsRow lim 3 1 v k (ints (pathR (-1) 1000000 s r1 k).1)
 b : Below w.heap.size w W
 lim : lim ≤ W.heap.size
instance St.dlt {y : DlV} : St (fun W => DlT W y) := ⟨fun h b => h.go b⟩
set_option maxRecDepth 100000 in
set_option maxHeartbeats 8000000 in
theorem dlRead_any (s : List UInt8) (r : Rs) (w : World) (hp : r.pl ≤ s.length) (hs : s.length ≤ 1000000) :
 Calls Tryz.prog 181 #[.agg (rrC s r)] w fun e w' => ∃ y, RdGot s r w w' e y := by
 have Hs := Lib.hid hs
 have Hp := Lib.hid hp
 obtain ⟨res, hres⟩ : ∃ p, p = dlRdR s r := ⟨_, rfl⟩
 have Hfin : Hid (∀ w' e y, (y.d = res.1 ∧ e = .returned (.tuple #[.agg (rrC s res.2), .agg y.cells]) ∧ DlT w' y ∧ Below w.heap.size w w' ∧ InI y.d.n) → ∃ y, RdGot s r w w' e y) := Lib.hid (by
  rintro w' e y ⟨h1, h2, h3, h4, h5⟩
  rw [hres] at h1 h2
  exact ⟨y, h1, h2, h3, h4, h5⟩)
 have Hres : Hid _ := Lib.hid (hres.trans (dlRdR_eq s r))
 clear hs hp hres
 go_enter Tryz.func181, Tryz.ntmps181
 go_wp2_with (refine at_box _ _ rfl ?_)
 refine Stop.to ?_
 refine wpList_box_gen rfl 131 _ rfl (rrC s r) rfl ?_
 intro P Pw Ph Pr Pb
 go_wp2_with (first | fail | (refine at_alloc _ rfl ?_))
 refine Stop.to ?_
 refine wpList_alloc_gen rfl 131 rfl _ _ (zero_rr _) rfl ?_
 intro R Rw Rh Rr Rb
 go_wp2_with (first | fail | (refine at_alloc _ rfl ?_))
 refine Stop.to ?_
 refine wpList_alloc_gen rfl 42 rfl _ _ (zero_dlv _) rfl ?_
 intro U Uw Uh Ur Ub
 go_wp2_with (first | fail | (refine at_alloc _ rfl ?_))
 refine Stop.to ?_
 refine wpList_alloc_gen rfl 42 rfl _ _ (zero_dlv _) rfl ?_
 intro D Dw Dh Dr Db
 have Rr' : Row Rw R 131 #[.string ⟨#[]⟩, .int .i64 0, .int .i64 0] := Rr
 have Ur' : Row Uw U 42 #[.slice none 0 0, .int .i64 0, .int .i64 0] := Ur
 have Dr' : Row Dw D 42 #[.slice none 0 0, .int .i64 0, .int .i64 0] := Dr
 have lPR : P < R := Nat.lt_of_lt_of_le Pr.lt Rh
 have lRU : R < U := Nat.lt_of_lt_of_le Rr'.lt Uh
 have lUD : U < D := Nat.lt_of_lt_of_le Ur'.lt Dh
 have rP := ((Pr.below Rb lPR).below Ub (by omega)).below Db (by omega)
 have rR := (Rr'.below Ub lRU).below Db (by omega)
 have rU := Ur'.below Db lUD
 have rD := Dr'
 have bb : Below w.heap.size w Dw := (((Below.refl w.heap.size w).trans (Pb.mono Ph)).trans (Rb.mono (by omega))).trans ((Ub.mono (by omega)).trans (Db.mono (by omega)))
 clear Pr Rr Ur Dr Pb Rb Ub Db Rr' Ur' Dr'
 have Hc := Lib.hid (rCountZ_pl (z := -1) (most := 1000000) Hp.out)
 go_wp2_with (refine wpList_load_row rfl 131 _ rfl P rfl 131 (rrC s _) (0, 0) _ rP Tryz.underlying131 rfl (by kernel_rfl) ?_)
 refine (ask2_any s r Hp.out Hs.out Dw).mono ?_
 rintro e w3 ⟨rfl, bN⟩
 obtain ⟨⟨c, r1⟩, hc⟩ : ∃ p, p = rCountZ (-1) s r 1000000 := ⟨_, rfl⟩
 rw [← hc] at Hres Hc ⊢
 clear hc
 dsimp only at Hres Hc ⊢
 replace rP := rP.below bN rP.lt
 replace rD := rD.below bN rD.lt
 replace rR := rR.below bN rR.lt
 replace rU := rU.below bN rU.lt
 replace bb := bb.trans (bN.mono bb.size)
 go_wp2_with (refine at_store 131 _ _ rfl ?_)
 refine Stop.to ?_
 refine wpList_store_gen rfl 131 _ _ rfl P (rrC s r1) rfl rfl 131 _ rP (by kernel_rfl) rfl (by simp [rrC, Value.oneCell']) ?_
 intro w4 rP' oP
 replace rD := rD.only oP (by omega)
 replace rR := rR.only oP (by omega)
 replace rU := rU.only oP (by omega)
 replace bb := below_only bb oP (by omega)
 have rP := rP'
 clear rP'
 obtain ⟨m, hm⟩ : ∃ m : Nat, m = min c.toNat 31 := ⟨_, rfl⟩
 rw [← hm] at Hres
 have hmc : ∀ k : Nat, ((k : Int) < c ∧ (k : Int) < 31) ↔ k < m := fun k => by omega
 have Hmc := Lib.hid hmc
 have hm31 : (m : Int) ≤ 31 := by omega
 clear hm hmc bN oP
 obtain ⟨lim, hlim⟩ : ∃ lim, lim = w4.heap.size := ⟨_, rfl⟩
 have lD : D < lim := by rw [hlim]; exact rD.lt
 have HL : Hid (RdL s r1 P R U D lim 0 w w4 (.slice none 0 0)) := Lib.hid ⟨rP, rR, rU, rD, World.ownsRow_nil _ _ _ _, bb, Nat.le_of_eq hlim⟩
 clear hlim rP rR rU rD bb
 go_wp2_with fail
 go_loopw [6] (fun i wr => ∃ (k : Nat) (v : Value), i = .int .i64 (k : Int) ∧ k ≤ m ∧ Hid (RdL s r1 P R U D lim k w wr v)) (fun i _ => m - (intOf i).toNat)
 case atStart => exact ⟨0, _, rfl, Nat.zero_le _, HL⟩
 case round =>
  clear HL
  obtain ⟨k, v, rfl, hk, HL⟩ := hrel
  by_cases hlt : k < m
  · obtain ⟨hk1, hk2⟩ := (Hmc.out k).2 hlt
    obtain ⟨i0, hi0, hz0, hz1, hz2⟩ := info_parts info_int
    obtain ⟨rP, rR, rU, rD, own, bb, hl⟩ := HL.out
    have Hpk := Lib.hid (pathR_pl (z := -1) (most := 1000000) Hc.out k)
    have hlk := pathR_len (z := -1) (most := 1000000) (s := s) (r := r1) k
    have Hnext : Hid ((pathR (-1) 1000000 s r1 (k + 1)).1 = (pathR (-1) 1000000 s r1 k).1 ++ [(rCountZ (-1) s (pathR (-1) 1000000 s r1 k).2 1000000).1] ∧ (pathR (-1) 1000000 s r1 (k + 1)).2 = (rCountZ (-1) s (pathR (-1) 1000000 s r1 k).2 1000000).2) := Lib.hid ⟨rfl, rfl⟩
    clear HL
    go_wp2_with (refine wpList_load_row rfl 131 _ rfl P rfl 131 (rrC s _) (0, 0) _ rP Tryz.underlying131 rfl (by kernel_rfl) ?_)
    refine (ask2_any s (pathR (-1) 1000000 s r1 k).2 Hpk.out Hs.out wr).mono ?_
    rintro e w5 ⟨rfl, bN⟩
    obtain ⟨⟨x, r2⟩, hc⟩ : ∃ p, p = rCountZ (-1) s (pathR (-1) 1000000 s r1 k).2 1000000 := ⟨_, rfl⟩
    rw [← hc] at Hnext ⊢
    clear hc
    dsimp only at Hnext ⊢
    replace rP := rP.below bN rP.lt
    replace rD := rD.below bN rD.lt
    replace rR := rR.below bN rR.lt
    replace rU := rU.below bN rU.lt
    replace bb := bb.trans (bN.mono bb.size)
    replace own := own_below own bN
    replace hl := Nat.le_trans hl bN.size
    clear bN
    go_wp2_with (first | fail | (refine at_alloc _ rfl ?_))
    refine Stop.to ?_
    refine wpList_alloc_gen rfl 131 rfl _ _ (zero_rr _) rfl ?_
    intro X Xw Xh Xr Xb
    have Xr' : Row Xw X 131 #[.string ⟨#[]⟩, .int .i64 0, .int .i64 0] := Xr
    have lDX : D < X := by have := rD.lt; omega
    replace rP := rP.below Xb (by omega)
    replace rD := rD.below Xb (by omega)
    replace rR := rR.below Xb (by omega)
    replace rU := rU.below Xb (by omega)
    replace bb := bb.trans (Xb.mono (by have := bb.size; omega))
    replace own := own_below own (Xb.mono Xh)
    replace hl := Nat.le_trans hl (Xb.mono Xh).size
    clear Xr Xb
    go_wp2_with (refine at_store 131 _ _ rfl ?_)
    refine Stop.to ?_
    refine wpList_store_gen rfl 131 _ _ rfl X (rrC s r2) rfl rfl 131 _ Xr' (by kernel_rfl) rfl (by simp [rrC, Value.oneCell']) ?_
    intro w7 rX oX
    replace own := own_only own oX (own_ne own Xr' (by decide))
    replace rP := rP.only oX (by omega)
    replace rD := rD.only oX (by omega)
    replace rR := rR.only oX (by omega)
    replace rU := rU.only oX (by omega)
    replace bb := below_only bb oX (by have := bb.size; omega)
    replace hl : lim ≤ w7.heap.size := by rw [oX.size]; exact hl
    clear oX Xr'
    have c0 := rD.cellv (i := 0) (v := v) rfl
    go_wp2_with (refine at_slice _ _ _ rfl ?_)
    refine Stop.to ?_
    refine wpList_slice_gen rfl 22 1 _ rfl 3 #[.int .i64 x] (fun W => by kernel_rfl) ?_
    intro M Mw Mh Mr Mb
    have bM := Mb.mono Mh
    replace rX := rX.below bM rX.lt
    replace rP := rP.below bM rP.lt
    replace rD := rD.below bM rD.lt
    replace rR := rR.below bM rR.lt
    replace rU := rU.below bM rU.lt
    replace bb := bb.trans (bM.mono bb.size)
    replace own := own_below own bM
    replace hl := Nat.le_trans hl bM.size
    clear c0 Mb Mh bM
    obtain ⟨v', V5, hrun, own5, g5, _, hat⟩ := run_append_own_at (P := Tryz.prog) Mw lim 22 22 3 i0 (.int .i64 0) 1 8 Tryz.underlying22 hi0 hz0 hz1 hz2 rfl (by decide) v k (ints (pathR (-1) 1000000 s r1 k).1) own ⟨M, 0, none⟩ 1 1 (ints [x]) rfl (by rintro (_ | j) u hu; simp [ints] at hu; subst hu; exact Mr.cellv rfl; simp [ints] at hu) (by simp [ints, Value.oneCell']) (by unfold maxLen; omega) (by omega) hl
    have n1 := own_ne own rX (by decide)
    have n2 := own_ne own rP (by decide)
    have n3 := own_ne own rD (by decide)
    have n4 := own_ne own rR (by decide)
    have n5 := own_ne own rU (by decide)
    replace rX := rX.grown g5 n1
    replace rP := rP.grown g5 n2
    replace rD := rD.grown g5 n3
    replace rR := rR.grown g5 n4
    replace rU := rU.grown g5 n5
    replace bb := below_grown_own bb own g5 bb.size (by omega)
    replace hl : lim ≤ V5.heap.size := Nat.le_trans hl g5.size
    have rn : ints (pathR (-1) 1000000 s r1 k).1 ++ ints [x] = ints (pathR (-1) 1000000 s r1 (k + 1)).1 := by rw [Hnext.out.1]; simp [ints]
    rw [rn] at own5
    obtain ⟨A', m', c', rfl⟩ : ∃ A m c, v' = .slice A m c := own_slice own5
    have n6 := own_ne own5 rD (by decide)
    have Hrun := Lib.hid hrun
    clear hrun n1 n2 n3 n4 n5 rn own g5 hat Mr
    refine wpList_res rfl _ (run_exec_append rfl Hrun.out) ?_
    have c5 := rD.cellv (i := 0) (v := v) rfl
    have f5 := rD.free 0
    have o6 := only_set V5 D 0 (.slice A' m' c')
    have rD6 := rD.set 0 (.slice A' m' c')
    have rX6 := rX.only o6 (by omega)
    replace rP := rP.only o6 (by omega)
    replace rR := rR.only o6 (by omega)
    replace rU := rU.only o6 (by omega)
    replace own5 := own_only own5 o6 n6
    replace bb := below_only bb o6 (by have := bb.size; omega)
    replace hl : lim ≤ (V5.setCell ⟨D, 0, none⟩ (.slice A' m' c')).heap.size := by rw [o6.size]; exact hl
    clear rX rD o6 n6 Hrun
    go_wp2_with (first | (refine wpList_load_row rfl 131 _ rfl X rfl 131 (rrC s r2) (0, 0) _ rX6 Tryz.underlying131 rfl (by kernel_rfl) ?_) | (refine at_store 131 _ _ rfl ?_))
    refine Stop.to ?_
    refine wpList_store_gen rfl 131 _ _ rfl P (rrC s r2) rfl rfl 131 _ rP (by kernel_rfl) rfl (by simp [rrC, Value.oneCell']) ?_
    intro w9 rP9 o9
    have n7 := own_ne own5 rP (by decide)
    have HN : Hid (RdL s r1 P R U D lim (k + 1) w w9 (.slice A' m' c')) := Lib.hid ⟨by rw [Hnext.out.2]; exact rP9, rR.only o9 (by omega), rU.only o9 (by omega), rD6.only o9 (by omega), own_only own5 o9 n7, below_only bb o9 (by omega), by rw [o9.size]; exact hl⟩
    clear rP9 rR rU rD6 own5 bb hl o9 n7 rP rX6 c5 f5
    go_wp2_with fail
    go_roundw
    case rel => exact ⟨k + 1, _, by go_num, by omega, HN⟩
    case measure => simp [intOf]; omega
  · obtain rfl : k = m := by omega
    have hno := mt (Hmc.out k).1 hlt
    clear hlt hk
    by_cases h1 : (k : Int) < c
    · have h2 : ¬ (k : Int) < 31 := fun h => hno ⟨h1, h⟩
      obtain ⟨rP, rR, rU, rD, own, bb, hl⟩ := HL.out
      have Hpk := Lib.hid (pathR_pl (z := -1) (most := 1000000) Hc.out k)
      have hlk := pathR_len (z := -1) (most := 1000000) (s := s) (r := r1) k
      obtain ⟨A, cap, rfl, hA1, hA2, hA3, hA4, hA5⟩ := own_rdM own
      obtain ⟨⟨l, r2⟩, hlq⟩ : ∃ p, p = pathR (-1) 1000000 s r1 k := ⟨_, rfl⟩
      rw [← hlq] at rP hA1 Hpk hlk Hres
      dsimp only at rP hA1 Hpk hlk Hres
      have hT' : ∀ op n, DlT wr ⟨A, cap, ⟨l, op, n⟩⟩ := fun op n => ⟨⟨hA1, by show l.length ≤ 1000000; omega⟩, own_rowB own, fun e => by
       have := hA4 e
       exact List.eq_nil_of_length_eq_zero (by show l.length = 0; omega)⟩
      have HT := Lib.hid hT'
      clear hlq own HL hA2 hA3 hA4 hA5 hA1 hT' hl
      subst hlk
      have Hbp := Lib.hid (rByteZ_pl (z := -1) Hpk.out)
      go_wp2_with (refine wpList_load_row rfl 131 _ rfl P rfl 131 (rrC s _) (0, 0) _ rP Tryz.underlying131 rfl (by kernel_rfl) ?_)
      refine (ask0_any s r2 Hpk.out Hs.out wr).mono ?_
      rintro e w5 ⟨rfl, bN⟩
      obtain ⟨⟨op, r3⟩, hc⟩ : ∃ p, p = rByteZ (-1) s r2 := ⟨_, rfl⟩
      rw [← hc] at Hres Hbp ⊢
      clear hc
      dsimp only at Hres Hbp ⊢
      replace rP := rP.below bN rP.lt
      replace rD := rD.below bN rD.lt
      replace rR := rR.below bN rR.lt
      replace rU := rU.below bN rU.lt
      replace bb := bb.trans (bN.mono bb.size)
      go_wp2_with (refine at_store 131 _ _ rfl ?_)
      refine Stop.to ?_
      refine wpList_store_gen rfl 131 _ _ rfl P (rrC s r3) rfl rfl 131 _ rP (by kernel_rfl) rfl (by simp [rrC, Value.oneCell']) ?_
      intro w6 rP' oP
      replace rD := rD.only oP (by omega)
      replace rR := rR.only oP (by omega)
      replace rU := rU.only oP (by omega)
      replace bb := below_only bb oP (by omega)
      replace HT := Lib.hid (fun op n => ((HT.out op n).go bN).only rP (by decide) oP)
      clear rP bN oP
      have rP := rP'
      clear rP'
      have cD := rD.cellv (i := 1) (v := .int .i64 0) rfl
      have fD := rD.free 1
      have oD := only_set (w6) D 1 (.int .i64 op)
      have rD' : Row ((w6).setCell ⟨D, 1, none⟩ (.int .i64 op)) D 42 #[.slice A l.length cap, .int .i64 op, .int .i64 0] := rD.set 1 _
      replace rP := rP.only oD (by omega)
      replace rR := rR.only oD (by omega)
      replace rU := rU.only oD (by omega)
      replace bb := below_only bb oD (by omega)
      replace HT := Lib.hid (fun op n => (HT.out op n).only rD (by decide) oD)
      clear rD oD
      have rD := rD'
      clear rD'
      have Hni := Lib.hid (rIntZ_in (z := -1) ⟨by decide, by decide⟩ s r3)
      go_wp2_with (refine wpList_load_row rfl 131 _ rfl P rfl 131 (rrC s _) (0, 0) _ rP Tryz.underlying131 rfl (by kernel_rfl) ?_)
      refine (ask3_any s r3 Hbp.out Hs.out _).mono ?_
      rintro e w7 ⟨rfl, bN⟩
      obtain ⟨⟨n, r4⟩, hc⟩ : ∃ p, p = rIntZ (-1) s r3 := ⟨_, rfl⟩
      rw [← hc] at Hres Hni ⊢
      clear hc
      dsimp only at Hres Hni ⊢
      replace rP := rP.below bN rP.lt
      replace rD := rD.below bN rD.lt
      replace rR := rR.below bN rR.lt
      replace rU := rU.below bN rU.lt
      replace bb := bb.trans (bN.mono bb.size)
      clear cD fD
      go_wp2_with (refine at_store 131 _ _ rfl ?_)
      refine Stop.to ?_
      refine wpList_store_gen rfl 131 _ _ rfl P (rrC s r4) rfl rfl 131 _ rP (by kernel_rfl) rfl (by simp [rrC, Value.oneCell']) ?_
      intro w8 rP' oP
      replace rD := rD.only oP (by omega)
      replace rR := rR.only oP (by omega)
      replace rU := rU.only oP (by omega)
      replace bb := below_only bb oP (by omega)
      replace HT := Lib.hid (fun op n => ((HT.out op n).go bN).only rP (by decide) oP)
      clear rP bN oP
      have rP := rP'
      clear rP'
      have cD := rD.cellv (i := 2) (v := .int .i64 0) rfl
      have fD := rD.free 2
      have oD := only_set (w8) D 2 (.int .i64 n)
      have rD' : Row ((w8).setCell ⟨D, 2, none⟩ (.int .i64 n)) D 42 #[.slice A l.length cap, .int .i64 op, .int .i64 n] := rD.set 2 _
      replace rP := rP.only oD (by omega)
      replace rR := rR.only oD (by omega)
      replace rU := rU.only oD (by omega)
      replace bb := below_only bb oD (by omega)
      replace HT := Lib.hid (fun op n => (HT.out op n).only rD (by decide) oD)
      clear rD oD
      have rD := rD'
      clear rD'
      obtain rfl : res = (⟨l, op, n⟩, r4) := Hres.out
      clear Hres Hmc hm31 Hc Hpk Hbp hno
      go_wp2_with fail
      clear cD fD
      obtain ⟨S, hSd⟩ : ∃ S, S = (fun W => Row W P 131 (rrC s r4) ∧ Row W D 42 #[.slice A l.length cap, .int .i64 op, .int .i64 n] ∧ DlT W ⟨A, cap, ⟨l, op, n⟩⟩ ∧ Below w.heap.size w W) := ⟨_, rfl⟩
      have stS : St S := by rw [hSd]; infer_instance
      have T0 : Hid (∀ W, S W → Row W P 131 (rrC s r4)) := by show ∀ W, _; rw [hSd]; exact fun W h => h.1
      have T1 : Hid (∀ W, S W → Row W D 42 #[.slice A l.length cap, .int .i64 op, .int .i64 n]) := by show ∀ W, _; rw [hSd]; exact fun W h => h.2.1
      have T2 : Hid (∀ W, S W → DlT W ⟨A, cap, ⟨l, op, n⟩⟩ ∧ Below w.heap.size w W) := by show ∀ W, _; rw [hSd]; exact fun W h => h.2.2
      have SMK : Hid (∀ W, Row W P 131 (rrC s r4) → Row W D 42 #[.slice A l.length cap, .int .i64 op, .int .i64 n] → DlT W ⟨A, cap, ⟨l, op, n⟩⟩ → Below w.heap.size w W → S W) := by show ∀ W, _; rw [hSd]; exact fun W h h2 h3 h4 => ⟨h, h2, h3, h4⟩
      have hS := St.drew (SMK.out _ rP rD (HT.out op n) bb)
      replace rR := rR.drew
      replace rU := rU.drew
      clear hSd rP rD HT bb
      refine wp_region_held (S := S) (by kernel_rfl) ?_
      simp only [List.size_toArray, List.length_cons, List.length_nil, Nat.reduceAdd, Array.replicate_succ, Array.replicate_zero, List.push_toArray, List.nil_append, List.cons_append]
      show wpAnyH _ _ _ _ _ _ _ _ (w8.setCell ⟨D, 2, none⟩ (.int .i64 n)).drew
      generalize (w8.setCell ⟨D, 2, none⟩ (.int .i64 n)).drew = w9 at hS rR rU ⊢
      (refine takeH (i := 0) (v := _) rfl (by kernel_rfl) (by kernel_rfl) (by kernel_rfl) (fun _ _ _ h => h) ((yields_row rfl 131 _ rfl P rfl 131 (rrC s r4) _ T0.out Tryz.underlying131 rfl (by kernel_rfl))) (by assumption) ?_; simp only [Act.put, List.setIfInBounds_toArray, List.set_cons_zero, List.set_cons_succ])
      (refine takeH (i := 1) (v := _) rfl (by kernel_rfl) (by kernel_rfl) (by kernel_rfl) (fun _ _ _ h => h) ((yields_row rfl 42 _ rfl D rfl 42 #[.slice A l.length cap, .int .i64 op, .int .i64 n] _ T1.out Tryz.underlying42 rfl (by kernel_rfl))) (by assumption) ?_; simp only [Act.put, List.setIfInBounds_toArray, List.set_cons_zero, List.set_cons_succ])
      (refine wpAnyH_all (rs := [2]) (by kernel_rfl) (by simp) (fun i hi => ?_); obtain rfl : i = 2 := by simpa using hi)
      refine wpOp_plain rfl rfl (fun K2 hK2 => ?_)
      refine wp_store_gen 131 _ _ rfl R (rrC s r4) rfl rfl 131 _ rR (by kernel_rfl) rfl (by simp [rrC, Value.oneCell']) ?_
      intro wa rRa oa
      refine hK2 _ _ ?_
      clear hK2 K2
      simp only [Act.put, List.setIfInBounds_toArray, List.set_cons_zero, List.set_cons_succ]
      have hSa : S wa := SMK.out _ ((T0.out _ hS).only oa (by omega)) ((T1.out _ hS).only oa (by omega)) ((T2.out _ hS).1.only rR (by decide) oa) (below_only (T2.out _ hS).2 oa (by omega))
      have rUa := rU.only oa (by omega)
      refine ⟨hSa, ?_⟩
      (refine wpAnyH_all (rs := [3]) (by kernel_rfl) (by simp) (fun i hi => ?_); obtain rfl : i = 3 := by simpa using hi)
      refine wpOp_plain rfl rfl (fun K2 hK2 => ?_)
      refine wp_store_gen 42 _ _ rfl U #[.slice A l.length cap, .int .i64 op, .int .i64 n] rfl rfl 42 _ rUa (by kernel_rfl) rfl (by simp [Value.oneCell']) ?_
      intro wb rUb ob
      refine hK2 _ _ ?_
      clear hK2 K2
      simp only [Act.put, List.setIfInBounds_toArray, List.set_cons_zero, List.set_cons_succ]
      have hSb : S wb := SMK.out _ ((T0.out _ hSa).only ob (by omega)) ((T1.out _ hSa).only ob (by omega)) ((T2.out _ hSa).1.only rUa (by decide) ob) (below_only (T2.out _ hSa).2 ob (by omega))
      have rRb := rRa.only ob (by omega)
      refine ⟨hSb, ?_⟩
      refine wpAnyH_done (by kernel_rfl) ?_ _
      obtain ⟨hT, bE⟩ := T2.out _ hSb
      go_wp2_with fail
      refine bodyPost_ret (results_cells2 Tryz.results181 _ _ ⟨R, 0, none⟩ ⟨U, 0, none⟩ (.agg (rrC s r4)) (.agg #[.slice A l.length cap, .int .i64 op, .int .i64 n]) rfl rfl ?_ ?_) rfl (Hfin.out _ _ ⟨A, cap, ⟨l, op, n⟩⟩ ⟨rfl, rfl, hT, bE, Hni.out⟩)
      · exact run_loadVar_row _ R 131 131 _ (0, 0) _ rRb Tryz.underlying131 rfl (by kernel_rfl)
      · exact run_loadVar_row _ U 42 42 _ (0, 0) _ rUb Tryz.underlying42 rfl (by kernel_rfl)
    · obtain ⟨rP, rR, rU, rD, own, bb, hl⟩ := HL.out
      have Hpk := Lib.hid (pathR_pl (z := -1) (most := 1000000) Hc.out k)
      have hlk := pathR_len (z := -1) (most := 1000000) (s := s) (r := r1) k
      obtain ⟨A, cap, rfl, hA1, hA2, hA3, hA4, hA5⟩ := own_rdM own
      obtain ⟨⟨l, r2⟩, hlq⟩ : ∃ p, p = pathR (-1) 1000000 s r1 k := ⟨_, rfl⟩
      rw [← hlq] at rP hA1 Hpk hlk Hres
      dsimp only at rP hA1 Hpk hlk Hres
      have hT' : ∀ op n, DlT wr ⟨A, cap, ⟨l, op, n⟩⟩ := fun op n => ⟨⟨hA1, by show l.length ≤ 1000000; omega⟩, own_rowB own, fun e => by
       have := hA4 e
       exact List.eq_nil_of_length_eq_zero (by show l.length = 0; omega)⟩
      have HT := Lib.hid hT'
      clear hlq own HL hA2 hA3 hA4 hA5 hA1 hT' hl
      subst hlk
      have Hbp := Lib.hid (rByteZ_pl (z := -1) Hpk.out)
      go_wp2_with (refine wpList_load_row rfl 131 _ rfl P rfl 131 (rrC s _) (0, 0) _ rP Tryz.underlying131 rfl (by kernel_rfl) ?_)
      refine (ask0_any s r2 Hpk.out Hs.out wr).mono ?_
      rintro e w5 ⟨rfl, bN⟩
      obtain ⟨⟨op, r3⟩, hc⟩ : ∃ p, p = rByteZ (-1) s r2 := ⟨_, rfl⟩
      rw [← hc] at Hres Hbp ⊢
      clear hc
      dsimp only at Hres Hbp ⊢
      replace rP := rP.below bN rP.lt
      replace rD := rD.below bN rD.lt
      replace rR := rR.below bN rR.lt
      replace rU := rU.below bN rU.lt
      replace bb := bb.trans (bN.mono bb.size)
      go_wp2_with (refine at_store 131 _ _ rfl ?_)
      refine Stop.to ?_
      refine wpList_store_gen rfl 131 _ _ rfl P (rrC s r3) rfl rfl 131 _ rP (by kernel_rfl) rfl (by simp [rrC, Value.oneCell']) ?_
      intro w6 rP' oP
      replace rD := rD.only oP (by omega)
      replace rR := rR.only oP (by omega)
      replace rU := rU.only oP (by omega)
      replace bb := below_only bb oP (by omega)
      replace HT := Lib.hid (fun op n => ((HT.out op n).go bN).only rP (by decide) oP)
      clear rP bN oP
      have rP := rP'
      clear rP'
      have cD := rD.cellv (i := 1) (v := .int .i64 0) rfl
      have fD := rD.free 1
      have oD := only_set (w6) D 1 (.int .i64 op)
      have rD' : Row ((w6).setCell ⟨D, 1, none⟩ (.int .i64 op)) D 42 #[.slice A l.length cap, .int .i64 op, .int .i64 0] := rD.set 1 _
      replace rP := rP.only oD (by omega)
      replace rR := rR.only oD (by omega)
      replace rU := rU.only oD (by omega)
      replace bb := below_only bb oD (by omega)
      replace HT := Lib.hid (fun op n => (HT.out op n).only rD (by decide) oD)
      clear rD oD
      have rD := rD'
      clear rD'
      have Hni := Lib.hid (rIntZ_in (z := -1) ⟨by decide, by decide⟩ s r3)
      go_wp2_with (refine wpList_load_row rfl 131 _ rfl P rfl 131 (rrC s _) (0, 0) _ rP Tryz.underlying131 rfl (by kernel_rfl) ?_)
      refine (ask3_any s r3 Hbp.out Hs.out _).mono ?_
      rintro e w7 ⟨rfl, bN⟩
      obtain ⟨⟨n, r4⟩, hc⟩ : ∃ p, p = rIntZ (-1) s r3 := ⟨_, rfl⟩
      rw [← hc] at Hres Hni ⊢
      clear hc
      dsimp only at Hres Hni ⊢
      replace rP := rP.below bN rP.lt
      replace rD := rD.below bN rD.lt
      replace rR := rR.below bN rR.lt
      replace rU := rU.below bN rU.lt
      replace bb := bb.trans (bN.mono bb.size)
      clear cD fD
      go_wp2_with (refine at_store 131 _ _ rfl ?_)
      refine Stop.to ?_
      refine wpList_store_gen rfl 131 _ _ rfl P (rrC s r4) rfl rfl 131 _ rP (by kernel_rfl) rfl (by simp [rrC, Value.oneCell']) ?_
      intro w8 rP' oP
      replace rD := rD.only oP (by omega)
      replace rR := rR.only oP (by omega)
      replace rU := rU.only oP (by omega)
      replace bb := below_only bb oP (by omega)
      replace HT := Lib.hid (fun op n => ((HT.out op n).go bN).only rP (by decide) oP)
      clear rP bN oP
      have rP := rP'
      clear rP'
      have cD := rD.cellv (i := 2) (v := .int .i64 0) rfl
      have fD := rD.free 2
      have oD := only_set (w8) D 2 (.int .i64 n)
      have rD' : Row ((w8).setCell ⟨D, 2, none⟩ (.int .i64 n)) D 42 #[.slice A l.length cap, .int .i64 op, .int .i64 n] := rD.set 2 _
      replace rP := rP.only oD (by omega)
      replace rR := rR.only oD (by omega)
      replace rU := rU.only oD (by omega)
      replace bb := below_only bb oD (by omega)
      replace HT := Lib.hid (fun op n => (HT.out op n).only rD (by decide) oD)
      clear rD oD
      have rD := rD'
      clear rD'
      obtain rfl : res = (⟨l, op, n⟩, r4) := Hres.out
      clear Hres Hmc hm31 Hc Hpk Hbp hno
      go_wp2_with fail
      clear cD fD
      obtain ⟨S, hSd⟩ : ∃ S, S = (fun W => Row W P 131 (rrC s r4) ∧ Row W D 42 #[.slice A l.length cap, .int .i64 op, .int .i64 n] ∧ DlT W ⟨A, cap, ⟨l, op, n⟩⟩ ∧ Below w.heap.size w W) := ⟨_, rfl⟩
      have stS : St S := by rw [hSd]; infer_instance
      have T0 : Hid (∀ W, S W → Row W P 131 (rrC s r4)) := by show ∀ W, _; rw [hSd]; exact fun W h => h.1
      have T1 : Hid (∀ W, S W → Row W D 42 #[.slice A l.length cap, .int .i64 op, .int .i64 n]) := by show ∀ W, _; rw [hSd]; exact fun W h => h.2.1
      have T2 : Hid (∀ W, S W → DlT W ⟨A, cap, ⟨l, op, n⟩⟩ ∧ Below w.heap.size w W) := by show ∀ W, _; rw [hSd]; exact fun W h => h.2.2
      have SMK : Hid (∀ W, Row W P 131 (rrC s r4) → Row W D 42 #[.slice A l.length cap, .int .i64 op, .int .i64 n] → DlT W ⟨A, cap, ⟨l, op, n⟩⟩ → Below w.heap.size w W → S W) := by show ∀ W, _; rw [hSd]; exact fun W h h2 h3 h4 => ⟨h, h2, h3, h4⟩
      have hS := St.drew (SMK.out _ rP rD (HT.out op n) bb)
      replace rR := rR.drew
      replace rU := rU.drew
      clear hSd rP rD HT bb
      refine wp_region_held (S := S) (by kernel_rfl) ?_
      simp only [List.size_toArray, List.length_cons, List.length_nil, Nat.reduceAdd, Array.replicate_succ, Array.replicate_zero, List.push_toArray, List.nil_append, List.cons_append]
      show wpAnyH _ _ _ _ _ _ _ _ (w8.setCell ⟨D, 2, none⟩ (.int .i64 n)).drew
      generalize (w8.setCell ⟨D, 2, none⟩ (.int .i64 n)).drew = w9 at hS rR rU ⊢
      (refine takeH (i := 0) (v := _) rfl (by kernel_rfl) (by kernel_rfl) (by kernel_rfl) (fun _ _ _ h => h) ((yields_row rfl 131 _ rfl P rfl 131 (rrC s r4) _ T0.out Tryz.underlying131 rfl (by kernel_rfl))) (by assumption) ?_; simp only [Act.put, List.setIfInBounds_toArray, List.set_cons_zero, List.set_cons_succ])
      (refine takeH (i := 1) (v := _) rfl (by kernel_rfl) (by kernel_rfl) (by kernel_rfl) (fun _ _ _ h => h) ((yields_row rfl 42 _ rfl D rfl 42 #[.slice A l.length cap, .int .i64 op, .int .i64 n] _ T1.out Tryz.underlying42 rfl (by kernel_rfl))) (by assumption) ?_; simp only [Act.put, List.setIfInBounds_toArray, List.set_cons_zero, List.set_cons_succ])
      (refine wpAnyH_all (rs := [2]) (by kernel_rfl) (by simp) (fun i hi => ?_); obtain rfl : i = 2 := by simpa using hi)
      refine wpOp_plain rfl rfl (fun K2 hK2 => ?_)
      refine wp_store_gen 131 _ _ rfl R (rrC s r4) rfl rfl 131 _ rR (by kernel_rfl) rfl (by simp [rrC, Value.oneCell']) ?_
      intro wa rRa oa
      refine hK2 _ _ ?_
      clear hK2 K2
      simp only [Act.put, List.setIfInBounds_toArray, List.set_cons_zero, List.set_cons_succ]
      have hSa : S wa := SMK.out _ ((T0.out _ hS).only oa (by omega)) ((T1.out _ hS).only oa (by omega)) ((T2.out _ hS).1.only rR (by decide) oa) (below_only (T2.out _ hS).2 oa (by omega))
      have rUa := rU.only oa (by omega)
      refine ⟨hSa, ?_⟩
      (refine wpAnyH_all (rs := [3]) (by kernel_rfl) (by simp) (fun i hi => ?_); obtain rfl : i = 3 := by simpa using hi)
      refine wpOp_plain rfl rfl (fun K2 hK2 => ?_)
      refine wp_store_gen 42 _ _ rfl U #[.slice A l.length cap, .int .i64 op, .int .i64 n] rfl rfl 42 _ rUa (by kernel_rfl) rfl (by simp [Value.oneCell']) ?_
      intro wb rUb ob
      refine hK2 _ _ ?_
      clear hK2 K2
      simp only [Act.put, List.setIfInBounds_toArray, List.set_cons_zero, List.set_cons_succ]
      have hSb : S wb := SMK.out _ ((T0.out _ hSa).only ob (by omega)) ((T1.out _ hSa).only ob (by omega)) ((T2.out _ hSa).1.only rUa (by decide) ob) (below_only (T2.out _ hSa).2 ob (by omega))
      have rRb := rRa.only ob (by omega)
      refine ⟨hSb, ?_⟩
      refine wpAnyH_done (by kernel_rfl) ?_ _
      obtain ⟨hT, bE⟩ := T2.out _ hSb
      go_wp2_with fail
      refine bodyPost_ret (results_cells2 Tryz.results181 _ _ ⟨R, 0, none⟩ ⟨U, 0, none⟩ (.agg (rrC s r4)) (.agg #[.slice A l.length cap, .int .i64 op, .int .i64 n]) rfl rfl ?_ ?_) rfl (Hfin.out _ _ ⟨A, cap, ⟨l, op, n⟩⟩ ⟨rfl, rfl, hT, bE, Hni.out⟩)
      · exact run_loadVar_row _ R 131 131 _ (0, 0) _ rRb Tryz.underlying131 rfl (by kernel_rfl)
      · exact run_loadVar_row _ U 42 42 _ (0, 0) _ rUb Tryz.underlying42 rfl (by kernel_rfl)
end Go.Proofs.YtcgglolckkeeiaaGreat
