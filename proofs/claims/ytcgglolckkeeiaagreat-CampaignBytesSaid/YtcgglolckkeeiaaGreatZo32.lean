/- Lemmas for CoAll. -/
import Derived.Test.YtcgglolckkeeiaaGreatZo25
set_option linter.unusedVariables false
set_option linter.unusedSimpArgs false
namespace Go.Proofs.YtcgglolckkeeiaaGreat
open Go.RowKit Go.Deep
theorem str_cat2 (a b : List UInt8) : (⟨a.toArray⟩ : ByteArray) ++ ⟨b.toArray⟩ = ⟨(a ++ b).toArray⟩ := by apply ByteArray.ext; simp
theorem farZ_no {n : Int} (h : farZ n = false) : 0 ≤ n ∧ n ≤ 199 := by
 simp only [farZ, Bool.or_eq_false_iff, decide_eq_false_iff_not] at h; omega
theorem farZ_yes {n : Int} (h : farZ n = true) : ¬ (0 ≤ n ∧ n ≤ 199) := by
 simp only [farZ, Bool.or_eq_true, decide_eq_true_eq] at h; omega
set_option maxRecDepth 100000 in
set_option maxHeartbeats 4000000 in
theorem refRightD_any (y : DlV) (w : World) (hy : DlOk w y) :
 Calls Tryz.prog 135 #[.agg y.cells] w fun e w' => e = .returned (.bool (rightDl y.d)) ∧ Below w.heap.size w w' := by
 obtain ⟨A, cap, ⟨path, op, n⟩⟩ := y
 obtain ⟨ha, hla⟩ := hy
 simp only at ha hla
 unfold DlV.cells
 show Calls _ _ #[.agg #[.slice A path.length cap, .int .i64 op, .int .i64 n]] _ _
 have Ha := Lib.hid ha
 have hlI : (path.length : Int) ≤ 1000000 := by omega
 clear ha hla
 show Calls _ _ _ _ (fun e w' => e = .returned (.bool (rightDl ⟨path, op, n⟩)) ∧ Below w.heap.size w w')
 obtain ⟨rb, hrb⟩ : ∃ rb, rb = rightDl ⟨path, op, n⟩ := ⟨_, rfl⟩
 rw [← hrb]
 have HR := Lib.hid hrb
 clear hrb
 go_enter Tryz.func135, Tryz.ntmps135
 go_wp2_with (refine at_box _ _ rfl ?_)
 refine Stop.to ?_
 refine wpList_box_gen rfl 42 _ rfl #[.slice A path.length cap, .int .i64 op, .int .i64 n] rfl ?_
 intro G Gw Gh Gr Gb
 have b1 := (Below.refl w.heap.size w).trans (Gb.mono Gh)
 obtain ⟨S, hSd⟩ : ∃ S, S = (fun W => Row W G 42 #[.slice A path.length cap, .int .i64 op, .int .i64 n] ∧ Rd W A (ints path) ∧ Below w.heap.size w W) := ⟨_, rfl⟩
 have stS : St S := by rw [hSd]; infer_instance
 have T0 : Hid (∀ W, S W → Row W G 42 #[.slice A path.length cap, .int .i64 op, .int .i64 n]) := by show ∀ W, _; rw [hSd]; exact fun W h => h.1
 have T1 : Hid (∀ W, S W → Rd W A (ints path)) := by show ∀ W, _; rw [hSd]; exact fun W h => h.2.1
 have T4 : Hid (∀ W, S W → Below w.heap.size w W) := by show ∀ W, _; rw [hSd]; exact fun W h => h.2.2
 have hS : S Gw := by rw [hSd]; exact ⟨Gr, Rd.go Ha.out b1, b1⟩
 clear hSd Gb b1 Gr
 go_wp2_with fail
 go_loopw [3] (fun i wr => ∃ k : Nat, i = .int .i64 (k : Int) ∧ k ≤ path.length ∧ Hid (∀ y ∈ path.take k, farZ y = false) ∧ S wr) (fun i _ => path.length - (intOf i).toNat)
 case atStart => exact ⟨0, rfl, Nat.zero_le _, Lib.hid (fun x hx => by simp at hx), hS⟩
 case round =>
  clear hS
  obtain ⟨k, rfl, hk, Hall, hS⟩ := hrel
  have c0 := (T0.out _ hS).cellv (i := 0) (v := .slice A path.length cap) rfl
  have c1 := (T0.out _ hS).cellv (i := 1) (v := .int .i64 op) rfl
  by_cases hlt : k < path.length
  · obtain ⟨x, hx⟩ : ∃ x, path[k]? = some x := ⟨_, List.getElem?_eq_getElem hlt⟩
    obtain ⟨ad, had, hcx⟩ := rd_int_at (T1.out _ hS) hx
    have hltI : (k : Int) < (path.length : Int) := by omega
    have Hx := Lib.hid hx
    clear hx hlt
    subst had
    cases hf : farZ x
    · have hb : (decide (0 ≤ x) && decide (x ≤ 199)) = true := by have := farZ_no hf; simp; omega
      have Hf := Lib.hid hf
      clear hf
      go_wp2_with fail
      refine (between_any x 0 199 wr).mono ?_
      rintro e w5 ⟨rfl, rfl⟩
      rw [hb]
      go_wp2_with fail
      go_roundw
      case rel => exact ⟨k + 1, by go_num, by omega, Lib.hid (take_allB_step Hall.out Hx.out Hf.out), hS⟩
      case measure => simp [intOf]; omega
    · have hb : (decide (0 ≤ x) && decide (x ≤ 199)) = false := by have := farZ_yes hf; simp; omega
      have HF : Hid (rb = false) := Lib.hid (by
       rw [HR.out]; unfold rightDl
       rw [show path.any farZ = true from List.any_eq_true.2 ⟨x, List.mem_of_getElem? Hx.out, hf⟩]; simp)
      clear hf
      go_wp2_with fail
      refine (between_any x 0 199 wr).mono ?_
      rintro e w5 ⟨rfl, rfl⟩
      rw [hb]
      go_wp2_with fail
      try rw [Exit.noGoto_ret]
      go_ret
      exact ⟨by rw [HF.out]; rfl, T4.out _ hS⟩
  · obtain rfl : k = path.length := by omega
    have hany : path.any farZ = false := by rw [List.any_eq_false]; intro z hz; rw [Hall.out z (by rw [List.take_length]; exact hz)]; simp
    by_cases hl : path.length ≤ 30
    · have hl2 : (path.length : Int) ≤ 30 := by omega
      have HF : Hid (rb = (decide (1 ≤ op) && decide (op ≤ 7))) := Lib.hid (by rw [HR.out]; unfold rightDl; rw [hany]; simp [hl])
      clear hlt hk hany hl
      go_wp2_with fail
      refine (between_any op 1 7 wr).mono ?_
      rintro e w5 ⟨rfl, rfl⟩
      go_wp2_with fail
      try rw [Exit.noGoto_ret]
      go_ret
      exact ⟨by rw [HF.out]; rfl, T4.out _ hS⟩
    · have hl2 : ¬ (path.length : Int) ≤ 30 := by omega
      have HF : Hid (rb = false) := Lib.hid (by rw [HR.out]; unfold rightDl; simp [hl])
      clear hlt hk hany hl
      go_wp2_with fail
      try rw [Exit.noGoto_ret]
      go_ret
      exact ⟨by rw [HF.out]; rfl, T4.out _ hS⟩
set_option maxRecDepth 100000 in
set_option maxHeartbeats 8000000 in
theorem refDlPut_any (y : DlV) (w : World) (hy : DlOk w y) (hn : InI y.d.n) :
 Calls Tryz.prog 92 #[.agg y.cells] w fun e w' => e = .returned (.tuple #[.string ⟨(putDl y.d).1.toArray⟩, .int .i64 (putDl y.d).2]) ∧ Below w.heap.size w w' := by
 have HRt := Lib.hid (refRightD_any y)
 obtain ⟨A, cap, ⟨path, op, n⟩⟩ := y
 obtain ⟨ha, hla⟩ := hy
 simp only at ha hla
 unfold DlV.cells
 show Calls _ _ #[.agg #[.slice A path.length cap, .int .i64 op, .int .i64 n]] _ _
 have Ha := Lib.hid ha
 have hlI : (path.length : Int) ≤ 1000000 := by omega
 clear ha hla
 have Hn : Hid (InI n) := Lib.hid hn
 clear hn
 obtain ⟨pd, hpd⟩ : ∃ pd, pd = putDl ⟨path, op, n⟩ := ⟨_, rfl⟩
 show Calls _ _ _ _ (fun e w' => e = .returned (.tuple #[.string ⟨(putDl ⟨path, op, n⟩).1.toArray⟩, .int .i64 (putDl ⟨path, op, n⟩).2]) ∧ Below w.heap.size w w')
 rw [← hpd]
 have Hbad : Hid (¬ rightDl ⟨path, op, n⟩ = true → pd = ([], 17)) := Lib.hid (fun h => hpd.trans (if_neg h))
 have Hgood : Hid (rightDl ⟨path, op, n⟩ = true → pd = (encDl ⟨path, op, n⟩, 0)) := Lib.hid (fun h => hpd.trans (if_pos h))
 clear hpd
 have HRt2 : Hid (∀ w, Rd w A (ints path) → Calls Tryz.prog 135 #[.agg #[.slice A path.length cap, .int .i64 op, .int .i64 n]] w fun e w' => e = .returned (.bool (rightDl ⟨path, op, n⟩)) ∧ Below w.heap.size w w') := Lib.hid (fun w h => HRt.out w ⟨h, by show path.length ≤ 1000000; omega⟩)
 clear HRt
 go_enter Tryz.func92, Tryz.ntmps92
 go_wp2_with (refine at_box _ _ rfl ?_)
 refine Stop.to ?_
 refine wpList_box_gen rfl 42 _ rfl #[.slice A path.length cap, .int .i64 op, .int .i64 n] rfl ?_
 intro G Gw Gh Gr Gb
 have b1 := (Below.refl w.heap.size w).trans (Gb.mono Gh)
 obtain ⟨S, hSd⟩ : ∃ S, S = (fun W => Row W G 42 #[.slice A path.length cap, .int .i64 op, .int .i64 n] ∧ Rd W A (ints path) ∧ Below w.heap.size w W) := ⟨_, rfl⟩
 have stS : St S := by rw [hSd]; infer_instance
 have T0 : Hid (∀ W, S W → Row W G 42 #[.slice A path.length cap, .int .i64 op, .int .i64 n]) := by show ∀ W, _; rw [hSd]; exact fun W h => h.1
 have T1 : Hid (∀ W, S W → Rd W A (ints path)) := by show ∀ W, _; rw [hSd]; exact fun W h => h.2.1
 have T4 : Hid (∀ W, S W → Below w.heap.size w W) := by show ∀ W, _; rw [hSd]; exact fun W h => h.2.2
 have hS : S Gw := by rw [hSd]; exact ⟨Gr, Rd.go Ha.out b1, b1⟩
 clear hSd Gb b1 Gr
 have HC := Lib.hid (HRt2.out Gw (T1.out _ hS))
 have rG := T0.out _ hS
 clear HRt2
 by_cases hr : rightDl ⟨path, op, n⟩ = true
 rotate_left
 · have HF := Hbad.out hr
   rw [Bool.not_eq_true] at hr
   rw [hr] at HC
   clear hr
   subst HF
   go_wp2_with (refine wpList_load_row rfl 42 _ rfl G rfl 42 #[.slice A path.length cap, .int .i64 op, .int .i64 n] (0, 0) _ rG Tryz.underlying42 rfl (by kernel_rfl) ?_)
   refine HC.out.mono ?_
   rintro e w1 ⟨rfl, bb⟩
   go_wp2_with fail
   try rw [Exit.noGoto_ret]
   go_ret2
   exact ⟨rfl, (T4.out _ hS).trans (bb.mono (T4.out _ hS).size)⟩
 have HF := Hgood.out hr
 have Hr := Lib.hid hr
 have hl30 := (rightDl_iff.1 hr).1
 simp only at hl30
 have hop1 := (rightDl_iff.1 hr).2.2.1
 have hop2 := (rightDl_iff.1 hr).2.2.2
 simp only at hop1 hop2
 rw [hr] at HC
 clear hr Hbad Hgood
 subst HF
 have hwl : IntKind.u64.wrap (path.length : Int) = (path.length : Int) := by rw [IntKind.wrap_u64]; omega
 go_wp2_with (refine wpList_load_row rfl 42 _ rfl G rfl 42 #[.slice A path.length cap, .int .i64 op, .int .i64 n] (0, 0) _ rG Tryz.underlying42 rfl (by kernel_rfl) ?_)
 refine HC.out.mono ?_
 rintro e w1 ⟨rfl, bb⟩
 have hS1 := stS.go hS bb
 clear hS bb HC rG
 have c0 := (T0.out _ hS1).cellv (i := 0) (v := .slice A path.length cap) rfl
 go_wp2_with fail
 refine (lebL_ref path.length (by omega) w1).mono ?_
 rintro e w2 ⟨rfl, bb⟩
 have hS2 := stS.go hS1 bb
 clear hS1 bb c0
 go_wp2_with fail
 have Hfar := Lib.hid (rightDl_iff.1 Hr.out).2.1
 go_loopw [4, 5] (fun q i wr => ∃ (k : Nat) (R : List UInt8), q = .string ⟨R.toArray⟩ ∧ Hid (R = lebL path.length ++ pathB (path.take k)) ∧ i = .int .i64 (k : Int) ∧ k ≤ path.length ∧ S wr) (fun _ i _ => path.length - (intOf i).toNat)
 case atStart => exact ⟨0, lebL path.length, rfl, Lib.hid (by simp [pathB]), rfl, Nat.zero_le _, hS2⟩
 case round =>
  clear hS2
  obtain ⟨k, R, rfl, HR, rfl, hk, hS⟩ := hrel
  have hpb := pathB_len' (path.take k)
  have hll := lebL_len path.length
  rw [List.length_take] at hpb
  have hR : R.length ≤ 400 := by rw [HR.out, List.length_append]; omega
  clear hpb hll
  have c0 := (T0.out _ hS).cellv (i := 0) (v := .slice A path.length cap) rfl
  by_cases hlt : k < path.length
  · obtain ⟨x, hx⟩ : ∃ x, path[k]? = some x := ⟨_, List.getElem?_eq_getElem hlt⟩
    obtain ⟨ad, had, hcx⟩ := rd_int_at (T1.out _ hS) hx
    have hxr := Hfar.out x (List.mem_of_getElem? hx)
    obtain ⟨xn, rfl⟩ := Int.eq_ofNat_of_zero_le hxr.1
    have hux : IntKind.u64.wrap (xn : Int) = (xn : Int) := by rw [IntKind.wrap_u64]; omega
    have hltI : (k : Int) < (path.length : Int) := by omega
    have Hx := Lib.hid hx
    clear hx hlt
    subst had
    go_wp2_with fail
    refine (lebL_ref xn (by omega) wr).mono ?_
    rintro e w5 ⟨rfl, bb⟩
    have hS5 := stS.go hS bb
    clear hS bb hcx c0
    have hl2 := lebL_len xn
    have hsum : ¬ (9223372036854775807 < (R.length : Int) + ((lebL xn).length : Int)) := by omega
    have hsum2 : ¬ (9223372036854775807 < R.length + (lebL xn).length) := by omega
    have hcat := str_cat2 R (lebL xn)
    obtain ⟨R2, hR2⟩ : ∃ R2, R2 = R ++ lebL xn := ⟨_, rfl⟩
    rw [← hR2] at hcat
    have HR2 := Lib.hid hR2
    clear hR2
    go_wp2_with fail
    go_roundw
    case rel => exact ⟨k + 1, R2, rfl, Lib.hid (by rw [HR2.out, HR.out, take_snoc Hx.out, pathB_snoc, ← List.append_assoc, Int.toNat_natCast]), by go_num, by omega, hS5⟩
    case measure => simp [intOf]; omega
  · obtain rfl : k = path.length := by omega
    rw [List.take_length] at HR
    clear hlt hk
    go_wp2_with fail
    obtain ⟨b, hb⟩ : ∃ b, b = UInt8.ofNat op.toNat := ⟨_, rfl⟩
    have hbn : b.toNat = op.toNat % 256 := by rw [hb]; simp
    have hw8 : IntKind.u8.wrap op = (b.toNat : Int) := by rw [IntKind.wrap_u8]; omega
    have hmk : ∀ W : World, (Instr.buildSlice 120 1 #[(0, .int .u8 (b.toNat : Int))]).run Tryz.prog W = .ok (.slice (some ⟨W.heap.size, 0, none⟩) 1 1) (W.alloc (.cells #[.int .u8 (b.toNat : Int)] 5)) := fun W => by kernel_rfl
    have hcv : ∀ (W : World) (g : Nat), Row W g 5 #[.int .u8 (b.toNat : Int)] → (convert 120 9 (.slice (some ⟨g, 0, none⟩) 1 1)).run Tryz.prog W = .ok (.string ⟨#[b]⟩) W := fun W g hr =>
     run_string_of_row (P := Tryz.prog) 120 9 5 5 Tryz.underlying120 Tryz.underlying5 Tryz.underlying9 (cap := 1) hr [b] (n := 1) rfl (fun j hj => by simp [u8s])
    obtain ⟨R1, hR1⟩ : ∃ R1, R1 = R ++ [b] := ⟨_, rfl⟩
    obtain ⟨R2, hR2⟩ : ∃ R2, R2 = R1 ++ zz n := ⟨_, rfl⟩
    have hz := zz_len n
    have hR1l : R1.length ≤ 401 := by rw [hR1, List.length_append]; simp; omega
    have hc1 := str_cat2 R [b]
    have hc2 := str_cat2 R1 (zz n)
    rw [← hR1] at hc1
    rw [← hR2] at hc2
    have hs1 : ¬ (9223372036854775807 < (R.length : Int) + 1) := by omega
    have hs1' : ¬ (9223372036854775807 < R.length + 1) := by omega
    have hs2 : ¬ (9223372036854775807 < (R1.length : Int) + ((zz n).length : Int)) := by omega
    have hs2' : ¬ (9223372036854775807 < R1.length + (zz n).length) := by omega
    have HE : Hid (R2 = encDl ⟨path, op, n⟩) := Lib.hid (by rw [hR2, hR1, HR.out, hb]; rfl)
    clear hR1 hR2 hb hbn hz
    have hcell : Value.oneCell' (.int .u8 (b.toNat : Int)) = true := rfl
    refine wp_region_held (S := S) (by kernel_rfl) ?_
    simp only [List.size_toArray, List.length_cons, List.length_nil, Nat.reduceAdd, Array.replicate_succ, Array.replicate_zero, List.push_toArray, List.nil_append, List.cons_append]
    show wpAnyH _ _ _ _ _ _ _ _ wr.drew
    have hS2 := St.drew hS
    clear hS c0
    generalize wr.drew = w2 at hS2 ⊢
    (refine takeH (i := 0) (v := .string ⟨R.toArray⟩) rfl (by kernel_rfl) (by kernel_rfl) (by kernel_rfl) (fun _ _ _ h => h) (yields_val rfl (fun W hW => by (rfl))) (by assumption) ?_; simp only [Act.put, List.setIfInBounds_toArray, List.set_cons_zero, List.set_cons_succ])
    (refine takeH (i := 1) (v := .pointer (some ⟨G, 1, none⟩)) rfl (by kernel_rfl) (by kernel_rfl) (by kernel_rfl) (fun _ _ _ h => h) (yields_val rfl (fun W hW => by (go_simp))) (by assumption) ?_; simp only [Act.put, List.setIfInBounds_toArray, List.set_cons_zero, List.set_cons_succ])
    (refine takeH (i := 2) (v := .int .i64 op) rfl (by kernel_rfl) (by kernel_rfl) (by kernel_rfl) (fun _ _ _ h => h) (yields_val rfl (fun W hW => by ((have h := (T0.out W hW).cellv (i := 1) (v := .int .i64 op) rfl; go_simp)))) (by assumption) ?_; simp only [Act.put, List.setIfInBounds_toArray, List.set_cons_zero, List.set_cons_succ])
    (refine takeH (i := 3) (v := .int .u8 (b.toNat : Int)) rfl (by kernel_rfl) (by kernel_rfl) (by kernel_rfl) (fun _ _ _ h => h) (yields_val rfl (fun W hW => by (go_simp))) (by assumption) ?_; simp only [Act.put, List.setIfInBounds_toArray, List.set_cons_zero, List.set_cons_succ])
    (refine takeH (i := 7) (v := .pointer (some ⟨G, 2, none⟩)) rfl (by kernel_rfl) (by kernel_rfl) (by kernel_rfl) (fun _ _ _ h => h) (yields_val rfl (fun W hW => by (go_simp))) (by assumption) ?_; simp only [Act.put, List.setIfInBounds_toArray, List.set_cons_zero, List.set_cons_succ])
    (refine takeH (i := 8) (v := .int .i64 n) rfl (by kernel_rfl) (by kernel_rfl) (by kernel_rfl) (fun _ _ _ h => h) (yields_val rfl (fun W hW => by ((have h := (T0.out W hW).cellv (i := 2) (v := .int .i64 n) rfl; go_simp)))) (by assumption) ?_; simp only [Act.put, List.setIfInBounds_toArray, List.set_cons_zero, List.set_cons_succ])
    refine wpAnyH_all (rs := [4, 9]) (by kernel_rfl) (by simp) (fun i hi => ?_)
    simp only [List.mem_cons, List.not_mem_nil, or_false] at hi
    rcases hi with rfl | rfl
    · refine wpOp_plain rfl rfl (fun K2 hK2 => ?_)
      refine wp_res_gen (.slice (some ⟨w2.heap.size, 0, none⟩) 1 1) (w1 := w2.alloc (.cells #[.int .u8 (b.toNat : Int)] 5)) (by go_simp) ?_
      refine hK2 _ _ ?_
      clear hK2 K2
      simp only [Act.put, List.setIfInBounds_toArray, List.set_cons_zero, List.set_cons_succ]
      have r4 := Row.new w2 5 #[.int .u8 (b.toNat : Int)]
      have hSx := St.alloc hS2 (.cells #[.int .u8 (b.toNat : Int)] 5)
      generalize w2.alloc (.cells #[.int .u8 (b.toNat : Int)] 5) = w3 at r4 hSx ⊢
      refine ⟨hSx, ?_⟩
      clear hmk hS2
      refine wpAnyH_all (rs := [5, 9]) (by kernel_rfl) (by simp) (fun i hi => ?_)
      simp only [List.mem_cons, List.not_mem_nil, or_false] at hi
      rcases hi with rfl | rfl
      · refine wpOp_plain rfl rfl (fun K2 hK2 => ?_)
        refine wp_res_gen (.string ⟨#[b]⟩) (w1 := w3) (by have := hcv _ _ r4; go_simp) ?_
        refine hK2 _ _ ?_
        clear hK2 K2
        simp only [Act.put, List.setIfInBounds_toArray, List.set_cons_zero, List.set_cons_succ]
        refine ⟨hSx, ?_⟩
        clear hcv r4
        (refine takeH (i := 6) (v := .string ⟨R1.toArray⟩) rfl (by kernel_rfl) (by kernel_rfl) (by kernel_rfl) (fun _ _ _ h => h) (yields_val rfl (fun W hW => by (go_simp))) (by assumption) ?_; simp only [Act.put, List.setIfInBounds_toArray, List.set_cons_zero, List.set_cons_succ])
        (refine wpAnyH_all (rs := [9]) (by kernel_rfl) (by simp) (fun i hi => ?_); obtain rfl : i = 9 := by simpa using hi)
        refine wpOp_plain rfl rfl (fun K2 hK2 => ?_)
        refine wp_call_gen 93 #[.int .i64 n] (w1 := w3) (by go_simp) ((refZPut_any n Hn.out w3).mono ?_)
        rintro e w4 ⟨rfl, bb⟩
        refine ⟨_, rfl, ?_⟩
        refine hK2 _ _ ?_
        clear hK2 K2
        simp only [Act.put, List.setIfInBounds_toArray, List.set_cons_zero, List.set_cons_succ]
        have hS4 := stS.go hSx bb
        clear hSx bb
        refine ⟨hS4, ?_⟩
        (refine takeH (i := 10) (v := .string ⟨R2.toArray⟩) rfl (by kernel_rfl) (by kernel_rfl) (by kernel_rfl) (fun _ _ _ h => h) (yields_val rfl (fun W hW => by (go_simp))) (by assumption) ?_; simp only [Act.put, List.setIfInBounds_toArray, List.set_cons_zero, List.set_cons_succ])
        (refine takeH (i := 11) (v := .string ⟨R2.toArray⟩) rfl (by kernel_rfl) (by kernel_rfl) (by kernel_rfl) (fun _ _ _ h => h) (yields_val rfl (fun W hW => by (rfl))) (by assumption) ?_; simp only [Act.put, List.setIfInBounds_toArray, List.set_cons_zero, List.set_cons_succ])
        (refine takeH (i := 12) (v := .int .i64 0) rfl (by kernel_rfl) (by kernel_rfl) (by kernel_rfl) (fun _ _ _ h => h) (yields_val rfl (fun W hW => by (rfl))) (by assumption) ?_; simp only [Act.put, List.setIfInBounds_toArray, List.set_cons_zero, List.set_cons_succ])
        refine wpAnyH_done (by kernel_rfl) ?_ _
        clear hc1 hc2 hs1 hs1' hs2 hs2'
        go_wp2_with fail
        try rw [Exit.noGoto_ret]
        go_ret2
        exact ⟨ret_se HE.out rfl, T4.out _ (by assumption)⟩
      · refine wpOp_plain rfl rfl (fun K2 hK2 => ?_)
        refine wp_call_gen 93 #[.int .i64 n] (w1 := w3) (by go_simp) ((refZPut_any n Hn.out w3).mono ?_)
        rintro e w4 ⟨rfl, bb⟩
        refine ⟨_, rfl, ?_⟩
        refine hK2 _ _ ?_
        clear hK2 K2
        simp only [Act.put, List.setIfInBounds_toArray, List.set_cons_zero, List.set_cons_succ]
        have r4 := r4.below bb r4.lt
        have hS4 := stS.go hSx bb
        clear hSx bb
        refine ⟨hS4, ?_⟩
        (refine wpAnyH_all (rs := [5]) (by kernel_rfl) (by simp) (fun i hi => ?_); obtain rfl : i = 5 := by simpa using hi)
        refine wpOp_plain rfl rfl (fun K2 hK2 => ?_)
        refine wp_res_gen (.string ⟨#[b]⟩) (w1 := w4) (by have := hcv _ _ r4; go_simp) ?_
        refine hK2 _ _ ?_
        clear hK2 K2
        simp only [Act.put, List.setIfInBounds_toArray, List.set_cons_zero, List.set_cons_succ]
        refine ⟨hS4, ?_⟩
        clear hcv r4
        (refine takeH (i := 6) (v := .string ⟨R1.toArray⟩) rfl (by kernel_rfl) (by kernel_rfl) (by kernel_rfl) (fun _ _ _ h => h) (yields_val rfl (fun W hW => by (go_simp))) (by assumption) ?_; simp only [Act.put, List.setIfInBounds_toArray, List.set_cons_zero, List.set_cons_succ])
        (refine takeH (i := 10) (v := .string ⟨R2.toArray⟩) rfl (by kernel_rfl) (by kernel_rfl) (by kernel_rfl) (fun _ _ _ h => h) (yields_val rfl (fun W hW => by (go_simp))) (by assumption) ?_; simp only [Act.put, List.setIfInBounds_toArray, List.set_cons_zero, List.set_cons_succ])
        (refine takeH (i := 11) (v := .string ⟨R2.toArray⟩) rfl (by kernel_rfl) (by kernel_rfl) (by kernel_rfl) (fun _ _ _ h => h) (yields_val rfl (fun W hW => by (rfl))) (by assumption) ?_; simp only [Act.put, List.setIfInBounds_toArray, List.set_cons_zero, List.set_cons_succ])
        (refine takeH (i := 12) (v := .int .i64 0) rfl (by kernel_rfl) (by kernel_rfl) (by kernel_rfl) (fun _ _ _ h => h) (yields_val rfl (fun W hW => by (rfl))) (by assumption) ?_; simp only [Act.put, List.setIfInBounds_toArray, List.set_cons_zero, List.set_cons_succ])
        refine wpAnyH_done (by kernel_rfl) ?_ _
        clear hc1 hc2 hs1 hs1' hs2 hs2'
        go_wp2_with fail
        try rw [Exit.noGoto_ret]
        go_ret2
        exact ⟨ret_se HE.out rfl, T4.out _ (by assumption)⟩
    · refine wpOp_plain rfl rfl (fun K2 hK2 => ?_)
      refine wp_call_gen 93 #[.int .i64 n] (w1 := w2) (by go_simp) ((refZPut_any n Hn.out w2).mono ?_)
      rintro e w3 ⟨rfl, bb⟩
      refine ⟨_, rfl, ?_⟩
      refine hK2 _ _ ?_
      clear hK2 K2
      simp only [Act.put, List.setIfInBounds_toArray, List.set_cons_zero, List.set_cons_succ]
      have hS3 := stS.go hS2 bb
      clear hS2 bb
      refine ⟨hS3, ?_⟩
      (refine wpAnyH_all (rs := [4]) (by kernel_rfl) (by simp) (fun i hi => ?_); obtain rfl : i = 4 := by simpa using hi)
      refine wpOp_plain rfl rfl (fun K2 hK2 => ?_)
      refine wp_res_gen (.slice (some ⟨w3.heap.size, 0, none⟩) 1 1) (w1 := w3.alloc (.cells #[.int .u8 (b.toNat : Int)] 5)) (by go_simp) ?_
      refine hK2 _ _ ?_
      clear hK2 K2
      simp only [Act.put, List.setIfInBounds_toArray, List.set_cons_zero, List.set_cons_succ]
      have r4 := Row.new w3 5 #[.int .u8 (b.toNat : Int)]
      have hSx := St.alloc hS3 (.cells #[.int .u8 (b.toNat : Int)] 5)
      generalize w3.alloc (.cells #[.int .u8 (b.toNat : Int)] 5) = w4 at r4 hSx ⊢
      refine ⟨hSx, ?_⟩
      clear hmk hS3
      (refine wpAnyH_all (rs := [5]) (by kernel_rfl) (by simp) (fun i hi => ?_); obtain rfl : i = 5 := by simpa using hi)
      refine wpOp_plain rfl rfl (fun K2 hK2 => ?_)
      refine wp_res_gen (.string ⟨#[b]⟩) (w1 := w4) (by have := hcv _ _ r4; go_simp) ?_
      refine hK2 _ _ ?_
      clear hK2 K2
      simp only [Act.put, List.setIfInBounds_toArray, List.set_cons_zero, List.set_cons_succ]
      refine ⟨hSx, ?_⟩
      clear hcv r4
      (refine takeH (i := 6) (v := .string ⟨R1.toArray⟩) rfl (by kernel_rfl) (by kernel_rfl) (by kernel_rfl) (fun _ _ _ h => h) (yields_val rfl (fun W hW => by (go_simp))) (by assumption) ?_; simp only [Act.put, List.setIfInBounds_toArray, List.set_cons_zero, List.set_cons_succ])
      (refine takeH (i := 10) (v := .string ⟨R2.toArray⟩) rfl (by kernel_rfl) (by kernel_rfl) (by kernel_rfl) (fun _ _ _ h => h) (yields_val rfl (fun W hW => by (go_simp))) (by assumption) ?_; simp only [Act.put, List.setIfInBounds_toArray, List.set_cons_zero, List.set_cons_succ])
      (refine takeH (i := 11) (v := .string ⟨R2.toArray⟩) rfl (by kernel_rfl) (by kernel_rfl) (by kernel_rfl) (fun _ _ _ h => h) (yields_val rfl (fun W hW => by (rfl))) (by assumption) ?_; simp only [Act.put, List.setIfInBounds_toArray, List.set_cons_zero, List.set_cons_succ])
      (refine takeH (i := 12) (v := .int .i64 0) rfl (by kernel_rfl) (by kernel_rfl) (by kernel_rfl) (fun _ _ _ h => h) (yields_val rfl (fun W hW => by (rfl))) (by assumption) ?_; simp only [Act.put, List.setIfInBounds_toArray, List.set_cons_zero, List.set_cons_succ])
      refine wpAnyH_done (by kernel_rfl) ?_ _
      clear hc1 hc2 hs1 hs1' hs2 hs2'
      go_wp2_with fail
      try rw [Exit.noGoto_ret]
      go_ret2
      exact ⟨ret_se HE.out rfl, T4.out _ (by assumption)⟩
end Go.Proofs.YtcgglolckkeeiaaGreat
