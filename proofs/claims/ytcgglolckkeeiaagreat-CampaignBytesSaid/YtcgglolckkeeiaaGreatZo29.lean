/- Lemmas for CoAll. -/
import Derived.Test.YtcgglolckkeeiaaGreatZo28
import Derived.Test.YtcgglolckkeeiaaGreatZo21
import Derived.Test.YtcgglolckkeeiaaGreatZo24
set_option linter.unusedVariables false
set_option linter.unusedSimpArgs false
namespace Go.Proofs.YtcgglolckkeeiaaGreat
open Go.RowKit Go.Deep
def opC (k n : Int) : Array Value := #[.int .i64 k, .int .i64 n]
theorem doNo_any (s : List UInt8) (r : Rs) (k n : Int) (hr : ¬ r.er = 0) (w : World) :
 Calls Tryz.prog 145 #[.agg (rrC s r), .agg (opC k n)] w fun e' w' => e' = .returned (.tuple #[.agg (rrC s r), .agg (gotC 0 0 [])]) ∧ Below w.heap.size w w' := by
 obtain ⟨pl, er⟩ := r
 have hr2 : ¬ er = 0 := hr
 show Calls _ _ #[.agg #[.string ⟨s.toArray⟩, .int .i64 (pl : Int), .int .i64 er], .agg #[.int .i64 k, .int .i64 n]] _ _
 go_enter Tryz.func145, Tryz.ntmps145
 go_wp2_with (refine at_box _ _ rfl ?_)
 refine Stop.to ?_
 refine wpList_box_gen rfl 131 _ rfl #[.string ⟨s.toArray⟩, .int .i64 (pl : Int), .int .i64 er] rfl ?_
 intro G Gw Gh Gr Gb
 go_wp2_with (refine at_box _ _ rfl ?_)
 refine Stop.to ?_
 refine wpList_box_gen rfl 192 _ rfl #[.int .i64 k, .int .i64 n] rfl ?_
 intro J Jw Jh Jr Jb
 go_wp2_with (first | fail | (refine at_alloc _ rfl ?_))
 refine Stop.to ?_
 refine wpList_alloc_gen rfl 131 rfl _ _ (zero_rr _) rfl ?_
 intro R Rw Rh Rr Rb
 go_wp2_with (first | fail | (refine at_alloc _ rfl ?_))
 refine Stop.to ?_
 refine wpList_alloc_gen rfl 188 rfl _ _ (zero_got _) rfl ?_
 intro U Uw Uh Ur Ub
 have Rr' : Row Rw R 131 #[.string ⟨#[]⟩, .int .i64 0, .int .i64 0] := Rr
 have Ur' : Row Uw U 188 #[.int .u64 0, .int .i64 0, .string ⟨#[]⟩, .int .i64 0, .int .i64 0] := Ur
 have lGJ : G < J := Nat.lt_of_lt_of_le Gr.lt Jh
 have lJR : J < R := Nat.lt_of_lt_of_le Jr.lt Rh
 have lRU : R < U := Nat.lt_of_lt_of_le Rr'.lt Uh
 have rG := ((Gr.below Jb lGJ).below Rb (by omega)).below Ub (by omega)
 have rJ := (Jr.below Rb lJR).below Ub (by omega)
 have rR := Rr'.below Ub lRU
 have rU := Ur'
 have bb : Below w.heap.size w Uw := (((Below.refl w.heap.size w).trans (Gb.mono Gh)).trans (Jb.mono (by omega))).trans ((Rb.mono (by omega)).trans (Ub.mono (by omega)))
 clear Gr Jr Rr Ur Gb Jb Rb Ub Rr' Ur'
 have c0 := rG.cellv (i := 0) (v := .string ⟨s.toArray⟩) rfl
 have c1 := rG.cellv (i := 1) (v := .int .i64 (pl : Int)) rfl
 have c2 := rG.cellv (i := 2) (v := .int .i64 er) rfl
 have d0 := rJ.cellv (i := 0) (v := .int .i64 k) rfl
 have d1 := rJ.cellv (i := 1) (v := .int .i64 n) rfl
 go_wp2_with (first | (refine wpList_load_row rfl 131 _ rfl G rfl 131 #[.string ⟨s.toArray⟩, .int .i64 (pl : Int), .int .i64 er] (0, 0) _ rG Tryz.underlying131 rfl (by kernel_rfl) ?_) | (refine at_store 131 _ _ rfl ?_))
 refine Stop.to ?_
 refine wpList_store_gen rfl 131 _ _ rfl R #[.string ⟨s.toArray⟩, .int .i64 (pl : Int), .int .i64 er] rfl rfl 131 _ rR (by kernel_rfl) rfl (by simp [Value.oneCell']) ?_
 intro w8 r8 o8
 have rU8 := rU.only o8 (by omega)
 have b8 := below_only bb o8 (by omega)
 clear rU bb o8
 go_wp2_with (refine at_store 188 _ _ rfl ?_)
 refine Stop.to ?_
 refine wpList_store_gen rfl 188 _ _ rfl U #[.int .u64 0, .int .i64 0, .string ⟨#[]⟩, .int .i64 0, .int .i64 0] rfl rfl 188 _ rU8 (by kernel_rfl) rfl (by simp [Value.oneCell']) ?_
 intro w9 r9 o9
 have r9' := r8.only o9 (by omega)
 have b9 := below_only b8 o9 (by omega)
 clear rU8 r8 b8 o9
 go_wp2_with fail
 refine bodyPost_ret (results_cells2 Tryz.results145 _ _ ⟨R, 0, none⟩ ⟨U, 0, none⟩ (.agg #[.string ⟨s.toArray⟩, .int .i64 (pl : Int), .int .i64 er]) (.agg #[.int .u64 0, .int .i64 0, .string ⟨#[]⟩, .int .i64 0, .int .i64 0]) rfl rfl ?_ ?_) rfl ⟨rfl, b9⟩
 · exact run_loadVar_row _ R 131 131 _ (0, 0) _ r9' Tryz.underlying131 rfl (by kernel_rfl)
 · exact run_loadVar_row _ U 188 188 _ (0, 0) _ r9 Tryz.underlying188 rfl (by kernel_rfl)
theorem step_bad {α : Type} {r : Rs} (h : r.er = 0) {e : Int} (he : ¬ e = 0) (to : Nat) (x z : α) : r.step (e, to, x) z = (z, ⟨r.pl, e⟩) := by
 unfold Rs.step; simp only [move_bad h to he]; rw [if_neg he]
theorem rByteZ_no {z : Int} {s : List UInt8} {pl : Nat} (h : s.length ≤ pl) : rByteZ z s ⟨pl, 0⟩ = (z, ⟨pl, 2⟩) := by
 unfold rByteZ
 dsimp only
 rw [if_pos h]
 exact step_bad rfl (by decide) _ _ _
theorem rByteZ_yes {z : Int} {s : List UInt8} {pl : Nat} {b : UInt8} (h : s[pl]? = some b) : rByteZ z s ⟨pl, 0⟩ = ((b.toNat : Int), ⟨pl + 1, 0⟩) := by
 have hl : pl < s.length := (List.getElem?_eq_some_iff.1 h).1
 unfold rByteZ
 dsimp only
 rw [if_neg (by omega), h]
 exact step_good rfl _ _ _
set_option maxRecDepth 100000 in
set_option maxHeartbeats 4000000 in
theorem do0_any (s : List UInt8) (r : Rs) (n : Int) (hr : r.er = 0) (hp : r.pl ≤ s.length) (hs : s.length ≤ 1000000) (w : World) :
 Calls Tryz.prog 145 #[.agg (rrC s r), .agg (opC 0 n)] w fun e' w' => e' = .returned (.tuple #[.agg (rrC s (rByteZ 0 s r).2), .agg (gotC (rByteZ 0 s r).1.toNat 0 [])]) ∧ Below w.heap.size w w' := by
 obtain ⟨pl, er⟩ := r
 obtain rfl : er = 0 := hr
 have hsz : (⟨s.toArray⟩ : ByteArray).size = s.length := by simp [ByteArray.size]
 have hsI : (s.length : Int) ≤ 1000000 := by omega
 have hp' : pl ≤ s.length := hp
 have hpI : (pl : Int) ≤ (s.length : Int) := by omega
 by_cases hc : s.length ≤ pl
 · rw [rByteZ_no hc]
   have hcI : (s.length : Int) ≤ (pl : Int) := by omega
   have HW := Lib.hid (rwrong_any s ⟨pl, 0⟩ 2)
   clear hc hp hp'
   show Calls _ _ #[.agg #[.string ⟨s.toArray⟩, .int .i64 (pl : Int), .int .i64 0], .agg #[.int .i64 0, .int .i64 n]] _ _
   go_enter Tryz.func145, Tryz.ntmps145
   go_wp2_with (refine at_box _ _ rfl ?_)
   refine Stop.to ?_
   refine wpList_box_gen rfl 131 _ rfl #[.string ⟨s.toArray⟩, .int .i64 (pl : Int), .int .i64 0] rfl ?_
   intro G Gw Gh Gr Gb
   go_wp2_with (refine at_box _ _ rfl ?_)
   refine Stop.to ?_
   refine wpList_box_gen rfl 192 _ rfl #[.int .i64 0, .int .i64 n] rfl ?_
   intro J Jw Jh Jr Jb
   go_wp2_with (first | fail | (refine at_alloc _ rfl ?_))
   refine Stop.to ?_
   refine wpList_alloc_gen rfl 131 rfl _ _ (zero_rr _) rfl ?_
   intro R Rw Rh Rr Rb
   go_wp2_with (first | fail | (refine at_alloc _ rfl ?_))
   refine Stop.to ?_
   refine wpList_alloc_gen rfl 188 rfl _ _ (zero_got _) rfl ?_
   intro U Uw Uh Ur Ub
   have Rr' : Row Rw R 131 #[.string ⟨#[]⟩, .int .i64 0, .int .i64 0] := Rr
   have Ur' : Row Uw U 188 #[.int .u64 0, .int .i64 0, .string ⟨#[]⟩, .int .i64 0, .int .i64 0] := Ur
   have lGJ : G < J := Nat.lt_of_lt_of_le Gr.lt Jh
   have lJR : J < R := Nat.lt_of_lt_of_le Jr.lt Rh
   have lRU : R < U := Nat.lt_of_lt_of_le Rr'.lt Uh
   have rG := ((Gr.below Jb lGJ).below Rb (by omega)).below Ub (by omega)
   have rJ := (Jr.below Rb lJR).below Ub (by omega)
   have rR := Rr'.below Ub lRU
   have rU := Ur'
   have bb : Below w.heap.size w Uw := (((Below.refl w.heap.size w).trans (Gb.mono Gh)).trans (Jb.mono (by omega))).trans ((Rb.mono (by omega)).trans (Ub.mono (by omega)))
   clear Gr Jr Rr Ur Gb Jb Rb Ub Rr' Ur'
   have c0 := rG.cellv (i := 0) (v := .string ⟨s.toArray⟩) rfl
   have c1 := rG.cellv (i := 1) (v := .int .i64 (pl : Int)) rfl
   have c2 := rG.cellv (i := 2) (v := .int .i64 0) rfl
   have d0 := rJ.cellv (i := 0) (v := .int .i64 0) rfl
   have d1 := rJ.cellv (i := 1) (v := .int .i64 n) rfl
   go_wp2_with (refine wpList_load_row rfl 131 _ rfl G rfl 131 #[.string ⟨s.toArray⟩, .int .i64 (pl : Int), .int .i64 0] (0, 0) _ rG Tryz.underlying131 rfl (by kernel_rfl) ?_)
   refine (HW.out _).mono ?_
   rintro e w8 ⟨rfl, b3⟩
   replace rG := rG.below b3 rG.lt
   replace rJ := rJ.below b3 rJ.lt
   replace rR := rR.below b3 rR.lt
   replace rU := rU.below b3 rU.lt
   replace bb := bb.trans (b3.mono bb.size)
   clear b3 c0 c1 c2 d0 d1
   clear rG rJ
   dsimp only [rrC, gotC]
   go_wp2_with (refine at_store 131 _ _ rfl ?_)
   refine Stop.to ?_
   refine wpList_store_gen rfl 131 _ _ rfl R #[.string ⟨s.toArray⟩, .int .i64 (pl : Int), .int .i64 2] rfl rfl 131 _ rR (by kernel_rfl) rfl (by simp [Value.oneCell']) ?_
   intro w8 r8 o8
   have rU8 := rU.only o8 (by omega)
   have b8 := below_only bb o8 (by omega)
   clear rU bb o8
   go_wp2_with (refine at_store 188 _ _ rfl ?_)
   refine Stop.to ?_
   refine wpList_store_gen rfl 188 _ _ rfl U #[.int .u64 0, .int .i64 0, .string ⟨#[]⟩, .int .i64 0, .int .i64 0] rfl rfl 188 _ rU8 (by kernel_rfl) rfl (by simp [Value.oneCell']) ?_
   intro w9 r9 o9
   have r9' := r8.only o9 (by omega)
   have b9 := below_only b8 o9 (by omega)
   clear rU8 r8 b8 o9
   go_wp2_with fail
   refine bodyPost_ret (results_cells2 Tryz.results145 _ _ ⟨R, 0, none⟩ ⟨U, 0, none⟩ (.agg #[.string ⟨s.toArray⟩, .int .i64 (pl : Int), .int .i64 2]) (.agg #[.int .u64 0, .int .i64 0, .string ⟨#[]⟩, .int .i64 0, .int .i64 0]) rfl rfl ?_ ?_) rfl ⟨rfl, b9⟩
   · exact run_loadVar_row _ R 131 131 _ (0, 0) _ r9' Tryz.underlying131 rfl (by kernel_rfl)
   · exact run_loadVar_row _ U 188 188 _ (0, 0) _ r9 Tryz.underlying188 rfl (by kernel_rfl)
 · obtain ⟨b, hb⟩ : ∃ b, s[pl]? = some b := ⟨_, List.getElem?_eq_getElem (by omega)⟩
   rw [rByteZ_yes hb]
   have hcI : ¬ (s.length : Int) ≤ (pl : Int) := by omega
   have hix := ix_str hb
   have Hix : Hid (∀ W, (Instr.index 9 (.string ⟨s.toArray⟩) (.int .i64 (pl : Int))).run Tryz.prog W = .ok (.int .u8 (b.toNat : Int)) W) := fun W => hix W
   obtain ⟨q, hq⟩ : ∃ q : Nat, q = pl + 1 := ⟨_, rfl⟩
   have hqI : (pl : Int) + 1 = (q : Int) := by omega
   have hqJ : (q : Int) - 1 = (pl : Int) := by omega
   rw [← hq]
   have hwp : IntKind.i64.wrap (pl : Int) = (pl : Int) := IntWalk.i64_in _ (by omega)
   have hwb : IntKind.u64.wrap (b.toNat : Int) = (b.toNat : Int) := by have := b.toNat_lt; rw [IntKind.wrap_u64]; omega
   have hql : (q : Int) ≤ 1000000 := by omega
   clear hc hp hp' hq hb hix
   show Calls _ _ #[.agg #[.string ⟨s.toArray⟩, .int .i64 (pl : Int), .int .i64 0], .agg #[.int .i64 0, .int .i64 n]] _ _
   go_enter Tryz.func145, Tryz.ntmps145
   go_wp2_with (refine at_box _ _ rfl ?_)
   refine Stop.to ?_
   refine wpList_box_gen rfl 131 _ rfl #[.string ⟨s.toArray⟩, .int .i64 (pl : Int), .int .i64 0] rfl ?_
   intro G Gw Gh Gr Gb
   go_wp2_with (refine at_box _ _ rfl ?_)
   refine Stop.to ?_
   refine wpList_box_gen rfl 192 _ rfl #[.int .i64 0, .int .i64 n] rfl ?_
   intro J Jw Jh Jr Jb
   go_wp2_with (first | fail | (refine at_alloc _ rfl ?_))
   refine Stop.to ?_
   refine wpList_alloc_gen rfl 131 rfl _ _ (zero_rr _) rfl ?_
   intro R Rw Rh Rr Rb
   go_wp2_with (first | fail | (refine at_alloc _ rfl ?_))
   refine Stop.to ?_
   refine wpList_alloc_gen rfl 188 rfl _ _ (zero_got _) rfl ?_
   intro U Uw Uh Ur Ub
   have Rr' : Row Rw R 131 #[.string ⟨#[]⟩, .int .i64 0, .int .i64 0] := Rr
   have Ur' : Row Uw U 188 #[.int .u64 0, .int .i64 0, .string ⟨#[]⟩, .int .i64 0, .int .i64 0] := Ur
   have lGJ : G < J := Nat.lt_of_lt_of_le Gr.lt Jh
   have lJR : J < R := Nat.lt_of_lt_of_le Jr.lt Rh
   have lRU : R < U := Nat.lt_of_lt_of_le Rr'.lt Uh
   have rG := ((Gr.below Jb lGJ).below Rb (by omega)).below Ub (by omega)
   have rJ := (Jr.below Rb lJR).below Ub (by omega)
   have rR := Rr'.below Ub lRU
   have rU := Ur'
   have bb : Below w.heap.size w Uw := (((Below.refl w.heap.size w).trans (Gb.mono Gh)).trans (Jb.mono (by omega))).trans ((Rb.mono (by omega)).trans (Ub.mono (by omega)))
   clear Gr Jr Rr Ur Gb Jb Rb Ub Rr' Ur'
   have c0 := rG.cellv (i := 0) (v := .string ⟨s.toArray⟩) rfl
   have c1 := rG.cellv (i := 1) (v := .int .i64 (pl : Int)) rfl
   have c2 := rG.cellv (i := 2) (v := .int .i64 0) rfl
   have d0 := rJ.cellv (i := 0) (v := .int .i64 0) rfl
   have d1 := rJ.cellv (i := 1) (v := .int .i64 n) rfl
   have f1 := rG.free 1
   go_wp2_with fail
   have o5 := only_set Uw G 1 (.int .i64 (q : Int))
   have rG5 : Row (Uw.setCell ⟨G, 1, none⟩ (.int .i64 (q : Int))) G 131 #[.string ⟨s.toArray⟩, .int .i64 (q : Int), .int .i64 0] := rG.set 1 _
   replace rG := rG5
   replace rR := rR.only o5 (by omega)
   replace rU := rU.only o5 (by omega)
   replace bb := below_only bb o5 (by omega)
   clear rG5 rJ o5 c0 c1 c2 d0 d1 f1
   obtain ⟨S, hSd⟩ : ∃ S, S = (fun W => Row W G 131 #[.string ⟨s.toArray⟩, .int .i64 (q : Int), .int .i64 0] ∧ Below w.heap.size w W) := ⟨_, rfl⟩
   have stS : St S := by rw [hSd]; infer_instance
   have T0 : Hid (∀ W, S W → Row W G 131 #[.string ⟨s.toArray⟩, .int .i64 (q : Int), .int .i64 0]) := by show ∀ W, _; rw [hSd]; exact fun W h => h.1
   have T4 : Hid (∀ W, S W → Below w.heap.size w W) := by show ∀ W, _; rw [hSd]; exact fun W h => h.2
   have SMK : Hid (∀ W, Row W G 131 #[.string ⟨s.toArray⟩, .int .i64 (q : Int), .int .i64 0] → Below w.heap.size w W → S W) := by show ∀ W, _; rw [hSd]; exact fun W h h2 => ⟨h, h2⟩
   have hS := St.drew (SMK.out _ rG bb)
   replace rR := rR.drew
   replace rU := rU.drew
   clear hSd rG bb
   refine wp_region_held (S := S) (by kernel_rfl) ?_
   simp only [List.size_toArray, List.length_cons, List.length_nil, Nat.reduceAdd, Array.replicate_succ, Array.replicate_zero, List.push_toArray, List.nil_append, List.cons_append]
   show wpAnyH _ _ _ _ _ _ _ _ (Uw.setCell ⟨G, 1, none⟩ (.int .i64 (q : Int))).drew
   generalize (Uw.setCell ⟨G, 1, none⟩ (.int .i64 (q : Int))).drew = w5 at hS rR rU ⊢
   (refine takeH (i := 0) (v := _) rfl (by kernel_rfl) (by kernel_rfl) (by kernel_rfl) (fun _ _ _ h => h) ((yields_row rfl 131 _ rfl G rfl 131 #[.string ⟨s.toArray⟩, .int .i64 (q : Int), .int .i64 0] _ T0.out Tryz.underlying131 rfl (by kernel_rfl))) (by assumption) ?_; simp only [Act.put, List.setIfInBounds_toArray, List.set_cons_zero, List.set_cons_succ])
   (refine takeH (i := 1) (v := .pointer (some ⟨G, 0, none⟩)) rfl (by kernel_rfl) (by kernel_rfl) (by kernel_rfl) (fun _ _ _ h => h) (yields_val rfl (fun W hW => by (go_simp))) (by assumption) ?_; simp only [Act.put, List.setIfInBounds_toArray, List.set_cons_zero, List.set_cons_succ])
   (refine takeH (i := 2) (v := .string ⟨s.toArray⟩) rfl (by kernel_rfl) (by kernel_rfl) (by kernel_rfl) (fun _ _ _ h => h) (yields_val rfl (fun W hW => by ((have h := (T0.out W hW).cellv (i := 0) (v := .string ⟨s.toArray⟩) rfl; go_simp)))) (by assumption) ?_; simp only [Act.put, List.setIfInBounds_toArray, List.set_cons_zero, List.set_cons_succ])
   (refine takeH (i := 3) (v := .pointer (some ⟨G, 1, none⟩)) rfl (by kernel_rfl) (by kernel_rfl) (by kernel_rfl) (fun _ _ _ h => h) (yields_val rfl (fun W hW => by (go_simp))) (by assumption) ?_; simp only [Act.put, List.setIfInBounds_toArray, List.set_cons_zero, List.set_cons_succ])
   (refine takeH (i := 4) (v := .int .i64 (q : Int)) rfl (by kernel_rfl) (by kernel_rfl) (by kernel_rfl) (fun _ _ _ h => h) (yields_val rfl (fun W hW => by ((have h := (T0.out W hW).cellv (i := 1) (v := .int .i64 (q : Int)) rfl; go_simp)))) (by assumption) ?_; simp only [Act.put, List.setIfInBounds_toArray, List.set_cons_zero, List.set_cons_succ])
   (refine takeH (i := 5) (v := .int .i64 (pl : Int)) rfl (by kernel_rfl) (by kernel_rfl) (by kernel_rfl) (fun _ _ _ h => h) (yields_val rfl (fun W hW => by (go_simp))) (by assumption) ?_; simp only [Act.put, List.setIfInBounds_toArray, List.set_cons_zero, List.set_cons_succ])
   (refine takeH (i := 6) (v := .int .u8 (b.toNat : Int)) rfl (by kernel_rfl) (by kernel_rfl) (by kernel_rfl) (fun _ _ _ h => h) (yields_val rfl (fun W hW => by ((have h := Hix.out W; go_simp)))) (by assumption) ?_; simp only [Act.put, List.setIfInBounds_toArray, List.set_cons_zero, List.set_cons_succ])
   (refine takeH (i := 7) (v := .int .u64 (b.toNat : Int)) rfl (by kernel_rfl) (by kernel_rfl) (by kernel_rfl) (fun _ _ _ h => h) (yields_val rfl (fun W hW => by (go_simp))) (by assumption) ?_; simp only [Act.put, List.setIfInBounds_toArray, List.set_cons_zero, List.set_cons_succ])
   (refine takeH (i := 8) (v := .agg #[.int .u64 (b.toNat : Int), .int .i64 0, .string ⟨#[]⟩, .int .i64 0, .int .i64 0]) rfl (by kernel_rfl) (by kernel_rfl) (by kernel_rfl) (fun _ _ _ h => h) (yields_val rfl (fun W hW => by ((have h : (Instr.build 188 #[(0, .int .u64 (b.toNat : Int))]).run Tryz.prog W = .ok (.agg #[.int .u64 (b.toNat : Int), .int .i64 0, .string ⟨#[]⟩, .int .i64 0, .int .i64 0]) W := by kernel_rfl); go_simp))) (by assumption) ?_; simp only [Act.put, List.setIfInBounds_toArray, List.set_cons_zero, List.set_cons_succ])
   (refine wpAnyH_all (rs := [9]) (by kernel_rfl) (by simp) (fun i hi => ?_); obtain rfl : i = 9 := by simpa using hi)
   refine wpOp_plain rfl rfl (fun K2 hK2 => ?_)
   refine wp_store_gen 131 _ _ rfl R #[.string ⟨s.toArray⟩, .int .i64 (q : Int), .int .i64 0] rfl rfl 131 _ rR (by kernel_rfl) rfl (by simp [Value.oneCell']) ?_
   intro w6 rR6 o6
   refine hK2 _ _ ?_
   clear hK2 K2
   simp only [Act.put, List.setIfInBounds_toArray, List.set_cons_zero, List.set_cons_succ]
   have hS6 : S w6 := SMK.out _ ((T0.out _ hS).only o6 (by omega)) (below_only (T4.out _ hS) o6 (by omega))
   have rU6 := rU.only o6 (by omega)
   refine ⟨hS6, ?_⟩
   (refine wpAnyH_all (rs := [10]) (by kernel_rfl) (by simp) (fun i hi => ?_); obtain rfl : i = 10 := by simpa using hi)
   refine wpOp_plain rfl rfl (fun K2 hK2 => ?_)
   refine wp_store_gen 188 _ _ rfl U #[.int .u64 (b.toNat : Int), .int .i64 0, .string ⟨#[]⟩, .int .i64 0, .int .i64 0] rfl rfl 188 _ rU6 (by kernel_rfl) rfl (by simp [Value.oneCell']) ?_
   intro w7 rU7 o7
   refine hK2 _ _ ?_
   clear hK2 K2
   simp only [Act.put, List.setIfInBounds_toArray, List.set_cons_zero, List.set_cons_succ]
   have hS7 : S w7 := SMK.out _ ((T0.out _ hS6).only o7 (by omega)) (below_only (T4.out _ hS6) o7 (by omega))
   have rR7 := rR6.only o7 (by omega)
   refine ⟨hS7, ?_⟩
   refine wpAnyH_done (by kernel_rfl) ?_ _
   have bE := T4.out _ hS7
   go_wp2_with fail
   refine bodyPost_ret (results_cells2 Tryz.results145 _ _ ⟨R, 0, none⟩ ⟨U, 0, none⟩ (.agg #[.string ⟨s.toArray⟩, .int .i64 (q : Int), .int .i64 0]) (.agg #[.int .u64 (b.toNat : Int), .int .i64 0, .string ⟨#[]⟩, .int .i64 0, .int .i64 0]) rfl rfl ?_ ?_) rfl ⟨rfl, bE⟩
   · exact run_loadVar_row _ R 131 131 _ (0, 0) _ rR7 Tryz.underlying131 rfl (by kernel_rfl)
   · exact run_loadVar_row _ U 188 188 _ (0, 0) _ rU7 Tryz.underlying188 rfl (by kernel_rfl)
theorem partP_short {s : List UInt8} {pl n : Nat} (h : s.length < pl + n) : partP s pl n = (2, pl, []) := if_pos h
theorem partP_long {s : List UInt8} {pl n : Nat} (h : ¬ s.length < pl + n) : partP s pl n = (0, pl + n, (s.drop pl).take n) := if_neg h
theorem countP_def (s : List UInt8) (pl : Nat) (most : Int) : countP s pl most = (if (getL (s.drop pl)).1 = 0 ∧ most < ((getL (s.drop pl)).2.1 : Int) then 4 else (getL (s.drop pl)).1, pl + (getL (s.drop pl)).2.2, (getL (s.drop pl)).2.1) := rfl
set_option maxRecDepth 100000 in
set_option maxHeartbeats 4000000 in
theorem do5_any (s : List UInt8) (r : Rs) (n : Nat) (hn : n ≤ 1000000) (hr : r.er = 0) (hp : r.pl ≤ s.length) (hs : s.length ≤ 1000000) (w : World) :
 Calls Tryz.prog 145 #[.agg (rrC s r), .agg (opC 5 (n : Int))] w fun e' w' => e' = .returned (.tuple #[.agg (rrC s (rRaw s r n).2), .agg (gotC 0 0 (rRaw s r n).1)]) ∧ Below w.heap.size w w' := by
 obtain ⟨pl, er⟩ := r
 obtain rfl : er = 0 := hr
 have HT := Lib.hid (rtextR_any s ⟨pl, 0⟩ pl n hp hs (by omega))
 have hwn : IntKind.u64.wrap (n : Int) = (n : Int) := by rw [IntKind.wrap_u64]; omega
 have hn0 : ¬ (n : Int) < 0 := by omega
 obtain ⟨res, hres⟩ : ∃ res : List UInt8 × Rs, res = ((partP s pl n).2.2, if s.length < pl + n then ⟨pl, 2⟩ else ⟨pl + n, 0⟩) := ⟨_, rfl⟩
 have hres2 : rRaw s ⟨pl, 0⟩ n = res := by
  rw [hres]
  unfold rRaw
  by_cases hc : s.length < pl + n
  · rw [if_pos hc, partP_short hc]; exact step_bad rfl (by decide) _ _ _
  · rw [if_neg hc, partP_long hc]; exact step_good rfl _ _ _
 have hr1 : res.1 = (partP s pl n).2.2 := by rw [hres]
 have hr2 : res.2 = if s.length < pl + n then ⟨pl, 2⟩ else ⟨pl + n, 0⟩ := by rw [hres]
 rw [hres2]
 obtain ⟨x, q, z⟩ := res
 dsimp only at hr1 hr2
 rw [← hr2, ← hr1] at HT
 clear hres hres2 hr1 hr2 hp hs hn
 show Calls _ _ _ _ (fun e' w' => e' = .returned (.tuple #[.agg (rrC s ⟨q, z⟩), .agg (gotC 0 0 x)]) ∧ Below w.heap.size w w')
 show Calls _ _ #[.agg #[.string ⟨s.toArray⟩, .int .i64 (pl : Int), .int .i64 0], .agg #[.int .i64 5, .int .i64 (n : Int)]] _ _
 go_enter Tryz.func145, Tryz.ntmps145
 go_wp2_with (refine at_box _ _ rfl ?_)
 refine Stop.to ?_
 refine wpList_box_gen rfl 131 _ rfl #[.string ⟨s.toArray⟩, .int .i64 (pl : Int), .int .i64 0] rfl ?_
 intro G Gw Gh Gr Gb
 go_wp2_with (refine at_box _ _ rfl ?_)
 refine Stop.to ?_
 refine wpList_box_gen rfl 192 _ rfl #[.int .i64 5, .int .i64 (n : Int)] rfl ?_
 intro J Jw Jh Jr Jb
 go_wp2_with (first | fail | (refine at_alloc _ rfl ?_))
 refine Stop.to ?_
 refine wpList_alloc_gen rfl 131 rfl _ _ (zero_rr _) rfl ?_
 intro R Rw Rh Rr Rb
 go_wp2_with (first | fail | (refine at_alloc _ rfl ?_))
 refine Stop.to ?_
 refine wpList_alloc_gen rfl 188 rfl _ _ (zero_got _) rfl ?_
 intro U Uw Uh Ur Ub
 have Rr' : Row Rw R 131 #[.string ⟨#[]⟩, .int .i64 0, .int .i64 0] := Rr
 have Ur' : Row Uw U 188 #[.int .u64 0, .int .i64 0, .string ⟨#[]⟩, .int .i64 0, .int .i64 0] := Ur
 have lGJ : G < J := Nat.lt_of_lt_of_le Gr.lt Jh
 have lJR : J < R := Nat.lt_of_lt_of_le Jr.lt Rh
 have lRU : R < U := Nat.lt_of_lt_of_le Rr'.lt Uh
 have rG := ((Gr.below Jb lGJ).below Rb (by omega)).below Ub (by omega)
 have rJ := (Jr.below Rb lJR).below Ub (by omega)
 have rR := Rr'.below Ub lRU
 have rU := Ur'
 have bb : Below w.heap.size w Uw := (((Below.refl w.heap.size w).trans (Gb.mono Gh)).trans (Jb.mono (by omega))).trans ((Rb.mono (by omega)).trans (Ub.mono (by omega)))
 clear Gr Jr Rr Ur Gb Jb Rb Ub Rr' Ur'
 have c0 := rG.cellv (i := 0) (v := .string ⟨s.toArray⟩) rfl
 have c1 := rG.cellv (i := 1) (v := .int .i64 (pl : Int)) rfl
 have c2 := rG.cellv (i := 2) (v := .int .i64 0) rfl
 have d0 := rJ.cellv (i := 0) (v := .int .i64 5) rfl
 have d1 := rJ.cellv (i := 1) (v := .int .i64 (n : Int)) rfl
 go_wp2_with (refine wpList_load_row rfl 131 _ rfl G rfl 131 #[.string ⟨s.toArray⟩, .int .i64 (pl : Int), .int .i64 0] (0, 0) _ rG Tryz.underlying131 rfl (by kernel_rfl) ?_)
 refine (HT.out _).mono ?_
 rintro e w8 ⟨rfl, b3⟩
 replace rG := rG.below b3 rG.lt
 replace rJ := rJ.below b3 rJ.lt
 replace rR := rR.below b3 rR.lt
 replace rU := rU.below b3 rU.lt
 replace bb := bb.trans (b3.mono bb.size)
 clear b3 c0 c1 c2 d0 d1
 clear rG rJ
 dsimp only [rrC, gotC]
 go_wp2_with (refine at_store 131 _ _ rfl ?_)
 refine Stop.to ?_
 refine wpList_store_gen rfl 131 _ _ rfl R #[.string ⟨s.toArray⟩, .int .i64 (q : Int), .int .i64 z] rfl rfl 131 _ rR (by kernel_rfl) rfl (by simp [Value.oneCell']) ?_
 intro w8 r8 o8
 have rU8 := rU.only o8 (by omega)
 have b8 := below_only bb o8 (by omega)
 clear rU bb o8
 go_wp2_with (refine at_store 188 _ _ rfl ?_)
 refine Stop.to ?_
 refine wpList_store_gen rfl 188 _ _ rfl U #[.int .u64 0, .int .i64 0, .string ⟨x.toArray⟩, .int .i64 0, .int .i64 0] rfl rfl 188 _ rU8 (by kernel_rfl) rfl (by simp [Value.oneCell']) ?_
 intro w9 r9 o9
 have r9' := r8.only o9 (by omega)
 have b9 := below_only b8 o9 (by omega)
 clear rU8 r8 b8 o9
 go_wp2_with fail
 refine bodyPost_ret (results_cells2 Tryz.results145 _ _ ⟨R, 0, none⟩ ⟨U, 0, none⟩ (.agg #[.string ⟨s.toArray⟩, .int .i64 (q : Int), .int .i64 z]) (.agg #[.int .u64 0, .int .i64 0, .string ⟨x.toArray⟩, .int .i64 0, .int .i64 0]) rfl rfl ?_ ?_) rfl ⟨rfl, b9⟩
 · exact run_loadVar_row _ R 131 131 _ (0, 0) _ r9' Tryz.underlying131 rfl (by kernel_rfl)
 · exact run_loadVar_row _ U 188 188 _ (0, 0) _ r9 Tryz.underlying188 rfl (by kernel_rfl)
set_option maxRecDepth 100000 in
set_option maxHeartbeats 4000000 in
theorem do2_any (s : List UInt8) (r : Rs) (N : Int) (h0 : 0 ≤ N) (h1 : N ≤ 1048576) (hr : r.er = 0) (hp : r.pl ≤ s.length) (hs : s.length ≤ 1000000) (w : World) :
 Calls Tryz.prog 145 #[.agg (rrC s r), .agg (opC 2 N)] w fun e' w' => e' = .returned (.tuple #[.agg (rrC s (rCountZ 0 s r N).2), .agg (gotC (rCountZ 0 s r N).1.toNat 0 [])]) ∧ Below w.heap.size w w' := by
 obtain ⟨pl, er⟩ := r
 obtain rfl : er = 0 := hr
 have HG := Lib.hid (refGet_any s pl hp hs)
 have hlen := getL_len (s.drop pl)
 have hgs := getL_shape (s.drop pl)
 have hcd : rCountZ 0 s ⟨pl, 0⟩ N = (⟨pl, 0⟩ : Rs).step ((countP s pl N).1, (countP s pl N).2.1, ((countP s pl N).2.2 : Int)) 0 := rfl
 rw [countP_def] at hcd
 obtain ⟨⟨er, m, k⟩, hgl⟩ : ∃ p, p = getL (s.drop pl) := ⟨_, rfl⟩
 rw [← hgl] at HG hcd hlen hgs
 rw [hcd]
 dsimp only at HG hlen hgs ⊢
 have hwN : IntKind.u64.wrap N = N := by rw [IntKind.wrap_u64]; omega
 have hkl : pl + k ≤ s.length := by simp only [List.length_drop] at hlen; have hp2 : pl ≤ s.length := hp; omega
 obtain ⟨q, hq⟩ : ∃ q : Nat, q = pl + k := ⟨_, rfl⟩
 rw [← hq] at HG ⊢
 clear hgl hlen hcd hp
 by_cases he : er = 0
 · subst he
   have hm64 : m < 18446744073709551616 := by rcases hgs with ⟨_, h⟩ | ⟨h, _⟩; exact h; exact absurd rfl h
   by_cases hm : N < (m : Int)
   · rw [if_pos ⟨rfl, hm⟩, step_bad rfl (by decide)]
     have HW := Lib.hid (rwrong_any s ⟨pl, 0⟩ 4)
     clear hgs hm64 hkl hq hs
     show Calls _ _ #[.agg #[.string ⟨s.toArray⟩, .int .i64 (pl : Int), .int .i64 0], .agg #[.int .i64 2, .int .i64 N]] _ _
     go_enter Tryz.func145, Tryz.ntmps145
     go_wp2_with (refine at_box _ _ rfl ?_)
     refine Stop.to ?_
     refine wpList_box_gen rfl 131 _ rfl #[.string ⟨s.toArray⟩, .int .i64 (pl : Int), .int .i64 0] rfl ?_
     intro G Gw Gh Gr Gb
     go_wp2_with (refine at_box _ _ rfl ?_)
     refine Stop.to ?_
     refine wpList_box_gen rfl 192 _ rfl #[.int .i64 2, .int .i64 N] rfl ?_
     intro J Jw Jh Jr Jb
     go_wp2_with (first | fail | (refine at_alloc _ rfl ?_))
     refine Stop.to ?_
     refine wpList_alloc_gen rfl 131 rfl _ _ (zero_rr _) rfl ?_
     intro R Rw Rh Rr Rb
     go_wp2_with (first | fail | (refine at_alloc _ rfl ?_))
     refine Stop.to ?_
     refine wpList_alloc_gen rfl 188 rfl _ _ (zero_got _) rfl ?_
     intro U Uw Uh Ur Ub
     have Rr' : Row Rw R 131 #[.string ⟨#[]⟩, .int .i64 0, .int .i64 0] := Rr
     have Ur' : Row Uw U 188 #[.int .u64 0, .int .i64 0, .string ⟨#[]⟩, .int .i64 0, .int .i64 0] := Ur
     have lGJ : G < J := Nat.lt_of_lt_of_le Gr.lt Jh
     have lJR : J < R := Nat.lt_of_lt_of_le Jr.lt Rh
     have lRU : R < U := Nat.lt_of_lt_of_le Rr'.lt Uh
     have rG := ((Gr.below Jb lGJ).below Rb (by omega)).below Ub (by omega)
     have rJ := (Jr.below Rb lJR).below Ub (by omega)
     have rR := Rr'.below Ub lRU
     have rU := Ur'
     have bb : Below w.heap.size w Uw := (((Below.refl w.heap.size w).trans (Gb.mono Gh)).trans (Jb.mono (by omega))).trans ((Rb.mono (by omega)).trans (Ub.mono (by omega)))
     clear Gr Jr Rr Ur Gb Jb Rb Ub Rr' Ur'
     have c0 := rG.cellv (i := 0) (v := .string ⟨s.toArray⟩) rfl
     have c1 := rG.cellv (i := 1) (v := .int .i64 (pl : Int)) rfl
     have c2 := rG.cellv (i := 2) (v := .int .i64 0) rfl
     have d0 := rJ.cellv (i := 0) (v := .int .i64 2) rfl
     have d1 := rJ.cellv (i := 1) (v := .int .i64 N) rfl
     go_wp2_with fail
     refine (HG.out Uw).mono ?_
     rintro e w3 ⟨rfl, b3⟩
     replace rG := rG.below b3 rG.lt
     replace rJ := rJ.below b3 rJ.lt
     replace rR := rR.below b3 rR.lt
     replace rU := rU.below b3 rU.lt
     replace bb := bb.trans (b3.mono bb.size)
     clear b3 c0 c1 c2 d0 d1
     have c0 := rG.cellv (i := 0) (v := .string ⟨s.toArray⟩) rfl
     have c1 := rG.cellv (i := 1) (v := .int .i64 (pl : Int)) rfl
     have c2 := rG.cellv (i := 2) (v := .int .i64 0) rfl
     have d0 := rJ.cellv (i := 0) (v := .int .i64 2) rfl
     have d1 := rJ.cellv (i := 1) (v := .int .i64 N) rfl
     go_wp2_with (refine wpList_load_row rfl 131 _ rfl G rfl 131 #[.string ⟨s.toArray⟩, .int .i64 (pl : Int), .int .i64 0] (0, 0) _ rG Tryz.underlying131 rfl (by kernel_rfl) ?_)
     refine (HW.out _).mono ?_
     rintro e w8 ⟨rfl, b3⟩
     replace rG := rG.below b3 rG.lt
     replace rJ := rJ.below b3 rJ.lt
     replace rR := rR.below b3 rR.lt
     replace rU := rU.below b3 rU.lt
     replace bb := bb.trans (b3.mono bb.size)
     clear b3 c0 c1 c2 d0 d1
     clear rG rJ
     dsimp only [rrC, gotC]
     go_wp2_with (refine at_store 131 _ _ rfl ?_)
     refine Stop.to ?_
     refine wpList_store_gen rfl 131 _ _ rfl R #[.string ⟨s.toArray⟩, .int .i64 (pl : Int), .int .i64 4] rfl rfl 131 _ rR (by kernel_rfl) rfl (by simp [Value.oneCell']) ?_
     intro w8 r8 o8
     have rU8 := rU.only o8 (by omega)
     have b8 := below_only bb o8 (by omega)
     clear rU bb o8
     go_wp2_with (refine at_store 188 _ _ rfl ?_)
     refine Stop.to ?_
     refine wpList_store_gen rfl 188 _ _ rfl U #[.int .u64 0, .int .i64 0, .string ⟨#[]⟩, .int .i64 0, .int .i64 0] rfl rfl 188 _ rU8 (by kernel_rfl) rfl (by simp [Value.oneCell']) ?_
     intro w9 r9 o9
     have r9' := r8.only o9 (by omega)
     have b9 := below_only b8 o9 (by omega)
     clear rU8 r8 b8 o9
     go_wp2_with fail
     refine bodyPost_ret (results_cells2 Tryz.results145 _ _ ⟨R, 0, none⟩ ⟨U, 0, none⟩ (.agg #[.string ⟨s.toArray⟩, .int .i64 (pl : Int), .int .i64 4]) (.agg #[.int .u64 0, .int .i64 0, .string ⟨#[]⟩, .int .i64 0, .int .i64 0]) rfl rfl ?_ ?_) rfl ⟨rfl, b9⟩
     · exact run_loadVar_row _ R 131 131 _ (0, 0) _ r9' Tryz.underlying131 rfl (by kernel_rfl)
     · exact run_loadVar_row _ U 188 188 _ (0, 0) _ r9 Tryz.underlying188 rfl (by kernel_rfl)
   · rw [if_neg (fun h => hm h.2), step_good rfl, Int.toNat_natCast]
     have hqI : (q : Int) ≤ 1000000 := by omega
     clear hgs hkl hq hs
     show Calls _ _ #[.agg #[.string ⟨s.toArray⟩, .int .i64 (pl : Int), .int .i64 0], .agg #[.int .i64 2, .int .i64 N]] _ _
     go_enter Tryz.func145, Tryz.ntmps145
     go_wp2_with (refine at_box _ _ rfl ?_)
     refine Stop.to ?_
     refine wpList_box_gen rfl 131 _ rfl #[.string ⟨s.toArray⟩, .int .i64 (pl : Int), .int .i64 0] rfl ?_
     intro G Gw Gh Gr Gb
     go_wp2_with (refine at_box _ _ rfl ?_)
     refine Stop.to ?_
     refine wpList_box_gen rfl 192 _ rfl #[.int .i64 2, .int .i64 N] rfl ?_
     intro J Jw Jh Jr Jb
     go_wp2_with (first | fail | (refine at_alloc _ rfl ?_))
     refine Stop.to ?_
     refine wpList_alloc_gen rfl 131 rfl _ _ (zero_rr _) rfl ?_
     intro R Rw Rh Rr Rb
     go_wp2_with (first | fail | (refine at_alloc _ rfl ?_))
     refine Stop.to ?_
     refine wpList_alloc_gen rfl 188 rfl _ _ (zero_got _) rfl ?_
     intro U Uw Uh Ur Ub
     have Rr' : Row Rw R 131 #[.string ⟨#[]⟩, .int .i64 0, .int .i64 0] := Rr
     have Ur' : Row Uw U 188 #[.int .u64 0, .int .i64 0, .string ⟨#[]⟩, .int .i64 0, .int .i64 0] := Ur
     have lGJ : G < J := Nat.lt_of_lt_of_le Gr.lt Jh
     have lJR : J < R := Nat.lt_of_lt_of_le Jr.lt Rh
     have lRU : R < U := Nat.lt_of_lt_of_le Rr'.lt Uh
     have rG := ((Gr.below Jb lGJ).below Rb (by omega)).below Ub (by omega)
     have rJ := (Jr.below Rb lJR).below Ub (by omega)
     have rR := Rr'.below Ub lRU
     have rU := Ur'
     have bb : Below w.heap.size w Uw := (((Below.refl w.heap.size w).trans (Gb.mono Gh)).trans (Jb.mono (by omega))).trans ((Rb.mono (by omega)).trans (Ub.mono (by omega)))
     clear Gr Jr Rr Ur Gb Jb Rb Ub Rr' Ur'
     have c0 := rG.cellv (i := 0) (v := .string ⟨s.toArray⟩) rfl
     have c1 := rG.cellv (i := 1) (v := .int .i64 (pl : Int)) rfl
     have c2 := rG.cellv (i := 2) (v := .int .i64 0) rfl
     have d0 := rJ.cellv (i := 0) (v := .int .i64 2) rfl
     have d1 := rJ.cellv (i := 1) (v := .int .i64 N) rfl
     go_wp2_with fail
     refine (HG.out Uw).mono ?_
     rintro e w3 ⟨rfl, b3⟩
     replace rG := rG.below b3 rG.lt
     replace rJ := rJ.below b3 rJ.lt
     replace rR := rR.below b3 rR.lt
     replace rU := rU.below b3 rU.lt
     replace bb := bb.trans (b3.mono bb.size)
     clear b3 c0 c1 c2 d0 d1
     have c0 := rG.cellv (i := 0) (v := .string ⟨s.toArray⟩) rfl
     have c1 := rG.cellv (i := 1) (v := .int .i64 (pl : Int)) rfl
     have c2 := rG.cellv (i := 2) (v := .int .i64 0) rfl
     have d0 := rJ.cellv (i := 0) (v := .int .i64 2) rfl
     have d1 := rJ.cellv (i := 1) (v := .int .i64 N) rfl
     have f1 := rG.free 1
     have hz : (Instr.build 188 #[(0, .int .u64 (m : Int))]).run Tryz.prog (w3.setCell ⟨G, 1, none⟩ (.int .i64 (q : Int))) = .ok (.agg #[.int .u64 (m : Int), .int .i64 0, .string ⟨#[]⟩, .int .i64 0, .int .i64 0]) (w3.setCell ⟨G, 1, none⟩ (.int .i64 (q : Int))) := by kernel_rfl
     have o5 := only_set w3 G 1 (.int .i64 (q : Int))
     have rG5 : Row (w3.setCell ⟨G, 1, none⟩ (.int .i64 (q : Int))) G 131 #[.string ⟨s.toArray⟩, .int .i64 (q : Int), .int .i64 0] := rG.set 1 _
     replace rR := rR.only o5 (by omega)
     replace rU := rU.only o5 (by omega)
     replace bb := below_only bb o5 (by omega)
     have rJ5 := rJ.only o5 (by omega)
     have e0 := rJ5.cellv (i := 0) (v := .int .i64 2) rfl
     clear rG rJ rJ5 o5
     go_wp2_with (first | (refine wpList_load_row rfl 131 _ rfl G rfl 131 #[.string ⟨s.toArray⟩, .int .i64 (q : Int), .int .i64 0] (0, 0) _ rG5 Tryz.underlying131 rfl (by kernel_rfl) ?_) | (refine at_store 131 _ _ rfl ?_))
     refine Stop.to ?_
     refine wpList_store_gen rfl 131 _ _ rfl R #[.string ⟨s.toArray⟩, .int .i64 (q : Int), .int .i64 0] rfl rfl 131 _ rR (by kernel_rfl) rfl (by simp [Value.oneCell']) ?_
     intro w8 r8 o8
     have rU8 := rU.only o8 (by omega)
     have b8 := below_only bb o8 (by omega)
     clear rU bb o8
     go_wp2_with (refine at_store 188 _ _ rfl ?_)
     refine Stop.to ?_
     refine wpList_store_gen rfl 188 _ _ rfl U #[.int .u64 (m : Int), .int .i64 0, .string ⟨#[]⟩, .int .i64 0, .int .i64 0] rfl rfl 188 _ rU8 (by kernel_rfl) rfl (by simp [Value.oneCell']) ?_
     intro w9 r9 o9
     have r9' := r8.only o9 (by omega)
     have b9 := below_only b8 o9 (by omega)
     clear rU8 r8 b8 o9
     go_wp2_with fail
     refine bodyPost_ret (results_cells2 Tryz.results145 _ _ ⟨R, 0, none⟩ ⟨U, 0, none⟩ (.agg #[.string ⟨s.toArray⟩, .int .i64 (q : Int), .int .i64 0]) (.agg #[.int .u64 (m : Int), .int .i64 0, .string ⟨#[]⟩, .int .i64 0, .int .i64 0]) rfl rfl ?_ ?_) rfl ⟨rfl, b9⟩
     · exact run_loadVar_row _ R 131 131 _ (0, 0) _ r9' Tryz.underlying131 rfl (by kernel_rfl)
     · exact run_loadVar_row _ U 188 188 _ (0, 0) _ r9 Tryz.underlying188 rfl (by kernel_rfl)
 · rw [if_neg (fun h => he h.1), step_bad rfl he]
   have HW := Lib.hid (rwrong_any s ⟨pl, 0⟩ er)
   clear hgs hkl hq hs
   show Calls _ _ #[.agg #[.string ⟨s.toArray⟩, .int .i64 (pl : Int), .int .i64 0], .agg #[.int .i64 2, .int .i64 N]] _ _
   go_enter Tryz.func145, Tryz.ntmps145
   go_wp2_with (refine at_box _ _ rfl ?_)
   refine Stop.to ?_
   refine wpList_box_gen rfl 131 _ rfl #[.string ⟨s.toArray⟩, .int .i64 (pl : Int), .int .i64 0] rfl ?_
   intro G Gw Gh Gr Gb
   go_wp2_with (refine at_box _ _ rfl ?_)
   refine Stop.to ?_
   refine wpList_box_gen rfl 192 _ rfl #[.int .i64 2, .int .i64 N] rfl ?_
   intro J Jw Jh Jr Jb
   go_wp2_with (first | fail | (refine at_alloc _ rfl ?_))
   refine Stop.to ?_
   refine wpList_alloc_gen rfl 131 rfl _ _ (zero_rr _) rfl ?_
   intro R Rw Rh Rr Rb
   go_wp2_with (first | fail | (refine at_alloc _ rfl ?_))
   refine Stop.to ?_
   refine wpList_alloc_gen rfl 188 rfl _ _ (zero_got _) rfl ?_
   intro U Uw Uh Ur Ub
   have Rr' : Row Rw R 131 #[.string ⟨#[]⟩, .int .i64 0, .int .i64 0] := Rr
   have Ur' : Row Uw U 188 #[.int .u64 0, .int .i64 0, .string ⟨#[]⟩, .int .i64 0, .int .i64 0] := Ur
   have lGJ : G < J := Nat.lt_of_lt_of_le Gr.lt Jh
   have lJR : J < R := Nat.lt_of_lt_of_le Jr.lt Rh
   have lRU : R < U := Nat.lt_of_lt_of_le Rr'.lt Uh
   have rG := ((Gr.below Jb lGJ).below Rb (by omega)).below Ub (by omega)
   have rJ := (Jr.below Rb lJR).below Ub (by omega)
   have rR := Rr'.below Ub lRU
   have rU := Ur'
   have bb : Below w.heap.size w Uw := (((Below.refl w.heap.size w).trans (Gb.mono Gh)).trans (Jb.mono (by omega))).trans ((Rb.mono (by omega)).trans (Ub.mono (by omega)))
   clear Gr Jr Rr Ur Gb Jb Rb Ub Rr' Ur'
   have c0 := rG.cellv (i := 0) (v := .string ⟨s.toArray⟩) rfl
   have c1 := rG.cellv (i := 1) (v := .int .i64 (pl : Int)) rfl
   have c2 := rG.cellv (i := 2) (v := .int .i64 0) rfl
   have d0 := rJ.cellv (i := 0) (v := .int .i64 2) rfl
   have d1 := rJ.cellv (i := 1) (v := .int .i64 N) rfl
   go_wp2_with fail
   refine (HG.out Uw).mono ?_
   rintro e w3 ⟨rfl, b3⟩
   replace rG := rG.below b3 rG.lt
   replace rJ := rJ.below b3 rJ.lt
   replace rR := rR.below b3 rR.lt
   replace rU := rU.below b3 rU.lt
   replace bb := bb.trans (b3.mono bb.size)
   clear b3 c0 c1 c2 d0 d1
   have c0 := rG.cellv (i := 0) (v := .string ⟨s.toArray⟩) rfl
   have c1 := rG.cellv (i := 1) (v := .int .i64 (pl : Int)) rfl
   have c2 := rG.cellv (i := 2) (v := .int .i64 0) rfl
   have d0 := rJ.cellv (i := 0) (v := .int .i64 2) rfl
   have d1 := rJ.cellv (i := 1) (v := .int .i64 N) rfl
   go_wp2_with (refine wpList_load_row rfl 131 _ rfl G rfl 131 #[.string ⟨s.toArray⟩, .int .i64 (pl : Int), .int .i64 0] (0, 0) _ rG Tryz.underlying131 rfl (by kernel_rfl) ?_)
   refine (HW.out _).mono ?_
   rintro e w8 ⟨rfl, b3⟩
   replace rG := rG.below b3 rG.lt
   replace rJ := rJ.below b3 rJ.lt
   replace rR := rR.below b3 rR.lt
   replace rU := rU.below b3 rU.lt
   replace bb := bb.trans (b3.mono bb.size)
   clear b3 c0 c1 c2 d0 d1
   clear rG rJ
   dsimp only [rrC, gotC]
   go_wp2_with (refine at_store 131 _ _ rfl ?_)
   refine Stop.to ?_
   refine wpList_store_gen rfl 131 _ _ rfl R #[.string ⟨s.toArray⟩, .int .i64 (pl : Int), .int .i64 er] rfl rfl 131 _ rR (by kernel_rfl) rfl (by simp [Value.oneCell']) ?_
   intro w8 r8 o8
   have rU8 := rU.only o8 (by omega)
   have b8 := below_only bb o8 (by omega)
   clear rU bb o8
   go_wp2_with (refine at_store 188 _ _ rfl ?_)
   refine Stop.to ?_
   refine wpList_store_gen rfl 188 _ _ rfl U #[.int .u64 0, .int .i64 0, .string ⟨#[]⟩, .int .i64 0, .int .i64 0] rfl rfl 188 _ rU8 (by kernel_rfl) rfl (by simp [Value.oneCell']) ?_
   intro w9 r9 o9
   have r9' := r8.only o9 (by omega)
   have b9 := below_only b8 o9 (by omega)
   clear rU8 r8 b8 o9
   go_wp2_with fail
   refine bodyPost_ret (results_cells2 Tryz.results145 _ _ ⟨R, 0, none⟩ ⟨U, 0, none⟩ (.agg #[.string ⟨s.toArray⟩, .int .i64 (pl : Int), .int .i64 er]) (.agg #[.int .u64 0, .int .i64 0, .string ⟨#[]⟩, .int .i64 0, .int .i64 0]) rfl rfl ?_ ?_) rfl ⟨rfl, b9⟩
   · exact run_loadVar_row _ R 131 131 _ (0, 0) _ r9' Tryz.underlying131 rfl (by kernel_rfl)
   · exact run_loadVar_row _ U 188 188 _ (0, 0) _ r9 Tryz.underlying188 rfl (by kernel_rfl)
end Go.Proofs.YtcgglolckkeeiaaGreat
