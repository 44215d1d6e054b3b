/- Lemmas for CoAll. -/
import Derived.Test.YtcgglolckkeeiaaGreatZo24
import Derived.Test.YtcgglolckkeeiaaGreatZo8
import Derived.Test.YtcgglolckkeeiaaGreatZo7
set_option linter.unusedVariables false
set_option linter.unusedSimpArgs false
namespace Go.Proofs.YtcgglolckkeeiaaGreat
open Go.RowKit Go.Deep
theorem ret_se {a b : List UInt8} {c d : Int} (h1 : a = b) (h2 : c = d) : Ending.returned (.tuple #[.string ⟨a.toArray⟩, .int .i64 c]) = .returned (.tuple #[.string ⟨b.toArray⟩, .int .i64 d]) := by rw [h1, h2]
set_option maxRecDepth 100000 in
set_option maxHeartbeats 8000000 in
theorem dlPut_any (y : DlV) (w : World) (hy : DlOk w y) (hn : InI y.d.n) :
 Calls Tryz.prog 131 #[.agg y.cells] w fun e w' => e = .returned (.tuple #[.string ⟨(putDl y.d).1.toArray⟩, .int .i64 (putDl y.d).2]) ∧ Below w.heap.size w w' := by
 obtain ⟨A, cap, ⟨path, op, n⟩⟩ := y
 obtain ⟨ha, hla⟩ := hy
 simp only at ha hla hn
 unfold DlV.cells
 show Calls _ _ #[.agg #[.slice A path.length cap, .int .i64 op, .int .i64 n]] _ _
 have Ha := Lib.hid ha
 have Hn := Lib.hid hn
 have hlI : (path.length : Int) ≤ 1000000 := by omega
 obtain ⟨pd, hpd⟩ : ∃ pd, pd = putDl ⟨path, op, n⟩ := ⟨_, rfl⟩
 have HP := Lib.hid hpd
 show Calls _ _ _ _ (fun e w' => e = .returned (.tuple #[.string ⟨(putDl ⟨path, op, n⟩).1.toArray⟩, .int .i64 (putDl ⟨path, op, n⟩).2]) ∧ Below w.heap.size w w')
 rw [← hpd]
 have Hbad : Hid (¬ rightDl ⟨path, op, n⟩ = true → pd = ([], 17)) := Lib.hid (fun h => hpd.trans (if_neg h))
 have Hgood : Hid (rightDl ⟨path, op, n⟩ = true → pd = (encDl ⟨path, op, n⟩, 0)) := Lib.hid (fun h => hpd.trans (if_pos h))
 clear ha hn hpd HP hla
 go_enter Tryz.func131, Tryz.ntmps131
 go_wp2_with (refine at_box _ _ rfl ?_)
 refine Stop.to ?_
 refine wpList_box_gen rfl 42 _ rfl #[.slice A path.length cap, .int .i64 op, .int .i64 n] rfl ?_
 intro G Gw Gh Gr Gb
 have b1 := (Below.refl w.heap.size w).trans (Gb.mono Gh)
 obtain ⟨S, hSd⟩ : ∃ S, S = (fun W => Row W G 42 #[.slice A path.length cap, .int .i64 op, .int .i64 n] ∧ Rd W A (ints path) ∧ Below w.heap.size w W) := ⟨_, rfl⟩
 have stS : St S := by rw [hSd]; infer_instance
 have T0 : Hid (∀ W, S W → Row W G 42 #[.slice A path.length cap, .int .i64 op, .int .i64 n]) := by show ∀ W, _; rw [hSd]; exact fun W h => h.1
 have T1 : Hid (∀ W, S W → Rd W A (ints path)) := by show ∀ W, _; rw [hSd]; exact fun W h => h.2.1
 have T4 : Hid (∀ W, S W → Below w.heap.size w W) := by show ∀ W, _; rw [hSd]; exact fun W h => h.2.2
 have hS : S Gw := by rw [hSd]; exact ⟨Gr, Rd.go Ha.out b1, b1⟩
 have SMK : Hid (∀ W, Row W G 42 #[.slice A path.length cap, .int .i64 op, .int .i64 n] → Below w.heap.size w W → S W) := by show ∀ W, _; rw [hSd]; exact fun W h b => ⟨h, Rd.go Ha.out b, b⟩
 clear hSd Gb
 have lGw : G < Gw.heap.size := Gr.lt
 have c0 := Gr.cellv (i := 0) (v := .slice A path.length cap) rfl
 have c1 := Gr.cellv (i := 1) (v := .int .i64 op) rfl
 have c2 := Gr.cellv (i := 2) (v := .int .i64 n) rfl
 have HC := Lib.hid (contIn_any A cap path farZ Gw (fun W => S W ∧ Below Gw.heap.size Gw W) ⟨hS, Below.refl _ _⟩ (fun W h => T1.out W h.1) (fun W h => h.2) (fun x _ W _ => put1_any x W) (by omega))
 by_cases hl : path.length ≤ 30
 rotate_left
 · have hlI2 : ¬ (path.length : Int) ≤ 30 := by omega
   have HF := Hbad.out (fun h => hl (rightDl_iff.1 h).1)
   clear hl HC
   subst HF
   go_wp2_with fail
   try rw [Exit.noGoto_ret]
   go_ret2
   exact ⟨rfl, T4.out _ hS⟩
 have hlI2 : (path.length : Int) ≤ 30 := by omega
 by_cases hf : path.any farZ = true
 · have HF := Hbad.out (fun h => by
    simp only [rightDl, Bool.and_eq_true] at h
    rw [hf] at h; simp at h)
   rw [hf] at HC
   clear hf hl
   subst HF
   go_wp2_with fail
   refine HC.out.mono ?_
   rintro e w1 ⟨rfl, bb⟩
   go_wp2_with fail
   try rw [Exit.noGoto_ret]
   go_ret2
   exact ⟨rfl, (T4.out _ hS).trans (bb.mono (T4.out _ hS).size)⟩
 rw [Bool.not_eq_true] at hf
 rw [hf] at HC
 by_cases ho1 : op < 1
 · have HF := Hbad.out (fun h => by have := (rightDl_iff.1 h).2.2.1; simp only at this; omega)
   clear hf hl
   subst HF
   go_wp2_with fail
   refine HC.out.mono ?_
   rintro e w1 ⟨rfl, bb⟩
   have c1' := (Gr.below bb Gr.lt).cellv (i := 1) (v := .int .i64 op) rfl
   go_wp2_with fail
   try rw [Exit.noGoto_ret]
   go_ret2
   exact ⟨rfl, (T4.out _ hS).trans (bb.mono (T4.out _ hS).size)⟩
 by_cases ho2 : 7 < op
 · have HF := Hbad.out (fun h => by have := (rightDl_iff.1 h).2.2.2; simp only at this; omega)
   clear hf hl
   subst HF
   go_wp2_with fail
   refine HC.out.mono ?_
   rintro e w1 ⟨rfl, bb⟩
   have c1' := (Gr.below bb Gr.lt).cellv (i := 1) (v := .int .i64 op) rfl
   go_wp2_with fail
   try rw [Exit.noGoto_ret]
   go_ret2
   exact ⟨rfl, (T4.out _ hS).trans (bb.mono (T4.out _ hS).size)⟩
 have Hr : Hid (rightDl ⟨path, op, n⟩ = true) := Lib.hid (by unfold rightDl; rw [hf]; simp; omega)
 have HF := Hgood.out Hr.out
 clear hf
 subst HF
 go_wp2_with fail
 refine HC.out.mono ?_
 rintro e w1 ⟨rfl, bb⟩
 have hS1 := stS.go hS bb
 have r1 := T0.out _ hS1
 have c1' := r1.cellv (i := 1) (v := .int .i64 op) rfl
 have c0' := r1.cellv (i := 0) (v := .slice A path.length cap) rfl
 clear hS HC c0 c1 c2 Gr
 go_wp2_with fail
 have hwl : IntKind.u64.wrap (path.length : Int) = (path.length : Int) := by rw [IntKind.wrap_u64]; omega
 refine wp_region_held (S := S) (by kernel_rfl) ?_
 simp only [List.size_toArray, List.length_cons, List.length_nil, Nat.reduceAdd, Array.replicate_succ, Array.replicate_zero, List.push_toArray, List.nil_append, List.cons_append]
 show wpAnyH _ _ _ _ _ _ _ _ w1.drew
 have hS2 := St.drew hS1
 clear hS1 r1 c1' c0'
 have l1 : Gw.heap.size ≤ w1.drew.heap.size := bb.size
 have lG : G < Gw.heap.size := lGw
 clear bb lGw
 generalize w1.drew = w2 at hS2 l1 ⊢
 (refine takeH (i := 1) (v := .pointer (some ⟨G, 0, none⟩)) rfl (by kernel_rfl) (by kernel_rfl) (by kernel_rfl) (fun _ _ _ h => h) (yields_val rfl (fun W hW => by (go_simp))) (by assumption) ?_; simp only [Act.put, List.setIfInBounds_toArray, List.set_cons_zero, List.set_cons_succ])
 (refine takeH (i := 2) (v := .slice A path.length cap) rfl (by kernel_rfl) (by kernel_rfl) (by kernel_rfl) (fun _ _ _ h => h) (yields_val rfl (fun W hW => by ((have h := (T0.out W hW).cellv (i := 0) (v := .slice A path.length cap) rfl; go_simp)))) (by assumption) ?_; simp only [Act.put, List.setIfInBounds_toArray, List.set_cons_zero, List.set_cons_succ])
 (refine takeH (i := 3) (v := .int .i64 (path.length : Int)) rfl (by kernel_rfl) (by kernel_rfl) (by kernel_rfl) (fun _ _ _ h => h) (yields_val rfl (fun W hW => by (go_simp))) (by assumption) ?_; simp only [Act.put, List.setIfInBounds_toArray, List.set_cons_zero, List.set_cons_succ])
 (refine takeH (i := 4) (v := .int .u64 (path.length : Int)) rfl (by kernel_rfl) (by kernel_rfl) (by kernel_rfl) (fun _ _ _ h => h) (yields_val rfl (fun W hW => by (go_simp))) (by assumption) ?_; simp only [Act.put, List.setIfInBounds_toArray, List.set_cons_zero, List.set_cons_succ])
 (refine wpAnyH_all (rs := [0]) (by kernel_rfl) (by simp) (fun i hi => ?_); obtain rfl : i = 0 := by simpa using hi)
 refine wpOp_plain rfl rfl (fun K2 hK2 => ?_)
 refine wp_call_gen 87 #[] (w1 := w2) (by go_simp) ((wireNew_any w2).mono ?_)
 rintro e w3 ⟨rfl, h3, b3⟩
 refine ⟨_, rfl, ?_⟩
 refine hK2 _ _ ?_
 clear hK2 K2
 simp only [Act.put, List.setIfInBounds_toArray, List.set_cons_zero, List.set_cons_succ]
 have hS3 := stS.go hS2 b3
 obtain ⟨g, hg⟩ : ∃ g, g = w2.heap.size := ⟨_, rfl⟩
 have hB : G < g := by omega
 rw [← hg] at h3 ⊢
 clear hS2 b3 l1 hg
 refine ⟨hS3, ?_⟩
 (refine wpAnyH_all (rs := [5]) (by kernel_rfl) (by simp) (fun i hi => ?_); obtain rfl : i = 5 := by simpa using hi)
 refine wpOp_plain rfl rfl (fun K2 hK2 => ?_)
 refine wp_call_gen 88 #[.pointer (some ⟨g, 0, none⟩), .int .u64 (path.length : Int)] (w1 := w3) (by go_simp) ((num_any g g [] path.length (by simp) (by omega) w3 h3).mono ?_)
 rintro e w4 ⟨rfl, h4, e4⟩
 refine ⟨_, rfl, ?_⟩
 refine hK2 _ _ ?_
 clear hK2 K2
 simp only [Act.put, List.setIfInBounds_toArray, List.set_cons_zero, List.set_cons_succ]
 have hS4 : S w4 := SMK.out _ (e4.row (T0.out _ hS3) (by omega) (by decide)) ((T4.out _ hS3).trans ((e4.below (Nat.le_refl _) (by have := h3.lt; omega)).mono (by omega)))
 refine ⟨hS4, ?_⟩
 (refine takeH (i := 6) (v := .pointer (some ⟨g, 0, none⟩)) rfl (by kernel_rfl) (by kernel_rfl) (by kernel_rfl) (fun _ _ _ h => h) (yields_val rfl (fun W hW => by (rfl))) (by assumption) ?_; simp only [Act.put, List.setIfInBounds_toArray, List.set_cons_zero, List.set_cons_succ])
 refine wpAnyH_done (by kernel_rfl) ?_ _
 have r4 := T0.out _ hS4
 have c0' := r4.cellv (i := 0) (v := .slice A path.length cap) rfl
 simp only [List.nil_append] at h4
 clear h3 hS3 e4 r4
 have Hfar := Lib.hid (rightDl_iff.1 Hr.out).2.1
 have hop1 : (UInt8.ofNat op.toNat).toNat = op.toNat % 256 := by simp
 have hop : ((UInt8.ofNat op.toNat).toNat : Int) = op := by rw [hop1]; omega
 clear hop1
 have Hop := Lib.hid hop
 clear hop
 go_wp2_with fail
 go_loopw [37] (fun i wr => ∃ k : Nat, i = .int .i64 (k : Int) ∧ k ≤ path.length ∧ S wr ∧ Wr wr g g (lebL path.length ++ pathB (path.take k))) (fun i _ => path.length - (intOf i).toNat)
 case atStart => exact ⟨0, rfl, Nat.zero_le _, hS4, by simpa [pathB] using h4⟩
 case round =>
  clear hS4 h4 c0'
  obtain ⟨k, rfl, hk, hS, hw⟩ := hrel
  have hpb := pathB_len' (path.take k)
  have hll := lebL_len path.length
  rw [List.length_take] at hpb
  have Hlen : Hid ((lebL path.length ++ pathB (path.take k)).length ≤ 400) := Lib.hid (by rw [List.length_append]; omega)
  clear hpb hll
  by_cases hlt : k < path.length
  · obtain ⟨x, hx⟩ : ∃ x, path[k]? = some x := ⟨_, List.getElem?_eq_getElem hlt⟩
    obtain ⟨ad, had, hcx⟩ := rd_int_at (T1.out _ hS) hx
    have hxr := Hfar.out x (List.mem_of_getElem? hx)
    obtain ⟨xn, rfl⟩ := Int.eq_ofNat_of_zero_le hxr.1
    have hux : IntKind.u64.wrap (xn : Int) = (xn : Int) := by rw [IntKind.wrap_u64]; omega
    have hltI : (k : Int) < (path.length : Int) := by omega
    have Hx := Lib.hid hx
    clear hx hlt
    subst had
    go_wp2_with fail
    refine (num_any g g _ xn (by have := Hlen.out; omega) (by omega) wr hw).mono ?_
    rintro e w5 ⟨rfl, h5, e5⟩
    have hS5 : S w5 := SMK.out _ (e5.row (T0.out _ hS) (by omega) (by decide)) ((T4.out _ hS).trans ((e5.below (Nat.le_refl _) (by have := hw.lt; omega)).mono (by omega)))
    clear hS hw hcx e5
    go_wp2_with fail
    go_roundw
    case rel => exact ⟨k + 1, by go_num, by omega, hS5, by rw [take_snoc Hx.out, pathB_snoc, ← List.append_assoc, Int.toNat_natCast]; exact h5⟩
    case measure => simp [intOf]; omega
  · obtain rfl : k = path.length := by omega
    rw [List.take_length] at hw Hlen
    clear hlt hk
    go_wp2_with fail
    have hw8 : IntKind.u8.wrap op = ((UInt8.ofNat op.toNat).toNat : Int) := by rw [Hop.out, IntKind.wrap_u8]; omega
    refine wp_region_held (S := S) (by kernel_rfl) ?_
    simp only [List.size_toArray, List.length_cons, List.length_nil, Nat.reduceAdd, Array.replicate_succ, Array.replicate_zero, List.push_toArray, List.nil_append, List.cons_append]
    show wpAnyH _ _ _ _ _ _ _ _ wr.drew
    have hS2 := St.drew hS
    have hw2 : Wr wr.drew g g (lebL path.length ++ pathB path) := St.drew (S := fun W => Wr W g g (lebL path.length ++ pathB path)) hw
    clear hS hw
    generalize wr.drew = w2 at hS2 hw2 ⊢
    (refine takeH (i := 0) (v := .pointer (some ⟨g, 0, none⟩)) rfl (by kernel_rfl) (by kernel_rfl) (by kernel_rfl) (fun _ _ _ h => h) (yields_val rfl (fun W hW => by (rfl))) (by assumption) ?_; simp only [Act.put, List.setIfInBounds_toArray, List.set_cons_zero, List.set_cons_succ])
    (refine takeH (i := 1) (v := .pointer (some ⟨G, 1, none⟩)) rfl (by kernel_rfl) (by kernel_rfl) (by kernel_rfl) (fun _ _ _ h => h) (yields_val rfl (fun W hW => by (go_simp))) (by assumption) ?_; simp only [Act.put, List.setIfInBounds_toArray, List.set_cons_zero, List.set_cons_succ])
    (refine takeH (i := 2) (v := .int .i64 op) rfl (by kernel_rfl) (by kernel_rfl) (by kernel_rfl) (fun _ _ _ h => h) (yields_val rfl (fun W hW => by ((have h := (T0.out W hW).cellv (i := 1) (v := .int .i64 op) rfl; go_simp)))) (by assumption) ?_; simp only [Act.put, List.setIfInBounds_toArray, List.set_cons_zero, List.set_cons_succ])
    (refine takeH (i := 3) (v := .int .u8 ((UInt8.ofNat op.toNat).toNat : Int)) rfl (by kernel_rfl) (by kernel_rfl) (by kernel_rfl) (fun _ _ _ h => h) (yields_val rfl (fun W hW => by (go_simp))) (by assumption) ?_; simp only [Act.put, List.setIfInBounds_toArray, List.set_cons_zero, List.set_cons_succ])
    (refine takeH (i := 5) (v := .pointer (some ⟨G, 2, none⟩)) rfl (by kernel_rfl) (by kernel_rfl) (by kernel_rfl) (fun _ _ _ h => h) (yields_val rfl (fun W hW => by (go_simp))) (by assumption) ?_; simp only [Act.put, List.setIfInBounds_toArray, List.set_cons_zero, List.set_cons_succ])
    (refine takeH (i := 6) (v := .int .i64 n) rfl (by kernel_rfl) (by kernel_rfl) (by kernel_rfl) (fun _ _ _ h => h) (yields_val rfl (fun W hW => by ((have h := (T0.out W hW).cellv (i := 2) (v := .int .i64 n) rfl; go_simp)))) (by assumption) ?_; simp only [Act.put, List.setIfInBounds_toArray, List.set_cons_zero, List.set_cons_succ])
    (refine wpAnyH_all (rs := [4]) (by kernel_rfl) (by simp) (fun i hi => ?_); obtain rfl : i = 4 := by simpa using hi)
    refine wpOp_plain rfl rfl (fun K2 hK2 => ?_)
    refine wp_call_gen 133 #[.pointer (some ⟨g, 0, none⟩), .int .u8 ((UInt8.ofNat op.toNat).toNat : Int)] (w1 := w2) (by go_simp) ((wrByte_any g g _ (UInt8.ofNat op.toNat) (by have := Hlen.out; omega) w2 hw2).mono ?_)
    rintro e w3 ⟨rfl, h3, e3⟩
    refine ⟨_, rfl, ?_⟩
    refine hK2 _ _ ?_
    clear hK2 K2
    simp only [Act.put, List.setIfInBounds_toArray, List.set_cons_zero, List.set_cons_succ]
    have hS3 : S w3 := SMK.out _ (e3.row (T0.out _ hS2) (by omega) (by decide)) ((T4.out _ hS2).trans ((e3.below (Nat.le_refl _) (by have := hw2.lt; omega)).mono (by omega)))
    clear hS2 hw2 e3
    refine ⟨hS3, ?_⟩
    (refine wpAnyH_all (rs := [7]) (by kernel_rfl) (by simp) (fun i hi => ?_); obtain rfl : i = 7 := by simpa using hi)
    refine wpOp_plain rfl rfl (fun K2 hK2 => ?_)
    refine wp_call_gen 134 #[.pointer (some ⟨g, 0, none⟩), .int .i64 n] (w1 := w3) (by go_simp) ((int_any g g _ n (by have := Hlen.out; simp only [List.length_append, List.length_cons, List.length_nil] at this ⊢; omega) Hn.out w3 h3).mono ?_)
    rintro e w4 ⟨rfl, h4, e4⟩
    refine ⟨_, rfl, ?_⟩
    refine hK2 _ _ ?_
    clear hK2 K2
    simp only [Act.put, List.setIfInBounds_toArray, List.set_cons_zero, List.set_cons_succ]
    have hS4 : S w4 := SMK.out _ (e4.row (T0.out _ hS3) (by omega) (by decide)) ((T4.out _ hS3).trans ((e4.below (Nat.le_refl _) (by have := h3.lt; omega)).mono (by omega)))
    clear hS3 h3 e4
    refine ⟨hS4, ?_⟩
    obtain ⟨R, hR⟩ : ∃ R, R = lebL path.length ++ pathB path ++ [UInt8.ofNat op.toNat] ++ zz n := ⟨_, rfl⟩
    rw [← hR] at h4
    have HR := Lib.hid hR
    clear hR
    (refine wpAnyH_all (rs := [8]) (by kernel_rfl) (by simp) (fun i hi => ?_); obtain rfl : i = 8 := by simpa using hi)
    refine wpOp_plain rfl rfl (fun K2 hK2 => ?_)
    refine wp_call_gen 90 #[.pointer (some ⟨g, 0, none⟩)] (w1 := w4) (by go_simp) ((wrBytes_any g g _ w4 h4).mono ?_)
    rintro e w5 ⟨rfl, rfl⟩
    refine ⟨_, rfl, ?_⟩
    refine hK2 _ _ ?_
    clear hK2 K2
    simp only [Act.put, List.setIfInBounds_toArray, List.set_cons_zero, List.set_cons_succ]
    refine ⟨hS4, ?_⟩
    (refine takeH (i := 9) (v := .string ⟨R.toArray⟩) rfl (by kernel_rfl) (by kernel_rfl) (by kernel_rfl) (fun _ _ _ h => h) (yields_val rfl (fun W hW => by (rfl))) (by assumption) ?_; simp only [Act.put, List.setIfInBounds_toArray, List.set_cons_zero, List.set_cons_succ])
    (refine takeH (i := 10) (v := .int .i64 0) rfl (by kernel_rfl) (by kernel_rfl) (by kernel_rfl) (fun _ _ _ h => h) (yields_val rfl (fun W hW => by (rfl))) (by assumption) ?_; simp only [Act.put, List.setIfInBounds_toArray, List.set_cons_zero, List.set_cons_succ])
    refine wpAnyH_done (by kernel_rfl) ?_ _
    go_wp2_with fail
    try rw [Exit.noGoto_ret]
    go_ret2
    exact ⟨ret_se HR.out rfl, T4.out _ hS4⟩
end Go.Proofs.YtcgglolckkeeiaaGreat
namespace Go.Proofs.YtcgglolckkeeiaaGreat
open Go.RowKit Go.Deep
instance St.wreff {B g : Nat} {w : World} : St (fun W => WrEff B g w W) := ⟨fun h b => h.trans (WrEff.of_below b)⟩
set_option maxRecDepth 100000 in
set_option maxHeartbeats 8000000 in
theorem mtPut_any (B g : Nat) (l : List UInt8) (hl : l.length ≤ 800000) (x : MtV) (w : World) (hx : MtOk w x) (hn : InI x.m.d.n) (hv : InI x.m.value) (h : Wr w B g l) :
 Calls Tryz.prog 89 #[.agg x.cells.toArray, .pointer (some ⟨g, 0, none⟩)] w fun e w' => e = .returned (.bool (fineM x.m)) ∧ Wr w' B g (l ++ (if fineM x.m = true then encMt x.m else [])) ∧ WrEff B g w w' := by
 have Hx := Lib.hid hx
 have Hl := Lib.hid hl
 have Hv := Lib.hid hv
 have Hg : Hid (g < w.heap.size) := h.lt
 obtain ⟨pd, hpd⟩ : ∃ p, p = putDl x.m.d := ⟨_, rfl⟩
 have HP : Hid (∀ W, DlOk W x.dl → Calls Tryz.prog 131 #[.agg x.dl.cells] W fun e w' => e = .returned (.tuple #[.string ⟨pd.1.toArray⟩, .int .i64 pd.2]) ∧ Below W.heap.size W w') := Lib.hid (fun W hW => by
  have := dlPut_any x.dl W hW hn
  rw [show x.dl.d = x.m.d from rfl, ← hpd] at this
  exact this)
 have HR := Lib.hid (fun W hW => right_any x W hW)
 obtain ⟨fb, hfb⟩ : ∃ b, b = fineM x.m := ⟨_, rfl⟩
 rw [← hfb]
 obtain ⟨el, hel⟩ : ∃ el, el = if fb = true then encMt x.m else [] := ⟨_, rfl⟩
 rw [← hel]
 have Hel := Lib.hid hel
 have Hfb := Lib.hid hfb
 clear hel hfb
 clear hx hl hn hv
 go_enter Tryz.func89, Tryz.ntmps89
 go_wp2_with (refine at_box _ _ rfl ?_)
 refine Stop.to ?_
 refine wpList_box_gen rfl 116 _ rfl x.cells.toArray rfl ?_
 intro G Gw Gh Gr Gb
 have b1 := (Below.refl w.heap.size w).trans (Gb.mono Gh)
 have hw1 := h.go b1
 have hgG : g < G := Nat.lt_of_lt_of_le Hg.out Gh
 clear h Gb Gh
 go_wp2_with (refine wpList_load_at rfl 42 _ rfl ⟨G, 0, none⟩ rfl x.dl.cells.toList _ (mt_dl Gr) Tryz.underlying42 rfl (by kernel_rfl) ?_)
 refine (HP.out Gw (Hx.out.go b1).dl).mono ?_
 rintro e w2 ⟨rfl, b2⟩
 have r2 := Gr.below b2 Gr.lt
 have hw2 := hw1.go b2
 have bb := b1.trans (b2.mono b1.size)
 clear HP Gr b1 b2 hw1
 by_cases hr : rightDl x.m.d = true
 rotate_left
 · obtain rfl : pd = ([], 17) := hpd.trans (if_neg hr)
   obtain rfl : fb = false := Hfb.out.trans (by simp [fineM, hr])
   obtain rfl : el = [] := Hel.out
   clear hr hpd
   go_wp2_with fail
   go_ret
   exact ⟨rfl, by simpa using hw2, WrEff.of_below bb⟩
 obtain rfl : pd = (encDl x.m.d, 0) := hpd.trans (if_pos hr)
 clear hpd
 go_wp2_with (refine wpList_load_rowG rfl 116 _ rfl G rfl 116 x.cells.toArray (0, 0) _ r2 Tryz.underlying116 rfl (by kernel_rfl) ?_)
 refine (HR.out w2 (Hx.out.go bb)).mono ?_
 rintro e w3 ⟨rfl, b3⟩
 have r3 := r2.below b3 r2.lt
 have hw3 := hw2.go b3
 replace bb := bb.trans (b3.mono bb.size)
 clear HR r2 b3 hw2
 by_cases hz : rightZ x.m = true
 rotate_left
 · obtain rfl : fb = false := Hfb.out.trans (by simp [fineM, hz])
   obtain rfl : el = [] := Hel.out
   rw [Bool.not_eq_true] at hz
   rw [hz]
   clear hr
   go_wp2_with fail
   go_ret
   exact ⟨rfl, by simpa using hw3, WrEff.of_below bb⟩
 obtain rfl : fb = true := Hfb.out.trans (by simp [fineM, hr, hz])
 obtain rfl : el = encMt x.m := Hel.out
 rw [hz]
 have hdl := encDl_len hr
 have Htold := Lib.hid (fun hv => right_told hz hv)
 clear hr
 go_wp2_with fail
 obtain ⟨S, hSd⟩ : ∃ S, S = (fun W => Row W G 116 x.cells.toArray ∧ WrEff B g w W) := ⟨_, rfl⟩
 have stS : St S := by rw [hSd]; infer_instance
 have T0 : Hid (∀ W, S W → Row W G 116 x.cells.toArray) := by show ∀ W, _; rw [hSd]; exact fun W h => h.1
 have T4 : Hid (∀ W, S W → WrEff B g w W) := by show ∀ W, _; rw [hSd]; exact fun W h => h.2
 have SMK : Hid (∀ W, Row W G 116 x.cells.toArray → WrEff B g w W → S W) := by show ∀ W, _; rw [hSd]; exact fun W h b => ⟨h, b⟩
 have hS3 := SMK.out _ r3 (WrEff.of_below bb)
 clear hSd r3 bb
 have hver : 0 ≤ x.m.verdict ∧ x.m.verdict ≤ 2 := by
  by_cases h0 : x.m.verdict = 0
  · omega
  · have := (Htold.out h0).1; omega
 have hw8 : IntKind.u8.wrap x.m.verdict = ((UInt8.ofNat x.m.verdict.toNat).toNat : Int) := by rw [IntKind.wrap_u8, u8_small hver.1 (by omega)]; omega
 have Hll := Lib.hid (show (lebL (encDl x.m.d).length).length ≤ 10 from lebL_len _)
 refine wp_region_held (S := S) (by kernel_rfl) ?_
 simp only [List.size_toArray, List.length_cons, List.length_nil, Nat.reduceAdd, Array.replicate_succ, Array.replicate_zero, List.push_toArray, List.nil_append, List.cons_append]
 show wpAnyH _ _ _ _ _ _ _ _ w3.drew
 have hSw4 := St.drew hS3
 have h4 : Wr w3.drew B g l := St.drew (S := fun W => Wr W B g l) hw3
 clear hS3 hw3
 generalize w3.drew = w4 at hSw4 h4 ⊢
 (refine takeH (i := 0) (v := .pointer (some ⟨g, 0, none⟩)) rfl (by kernel_rfl) (by kernel_rfl) (by kernel_rfl) (fun _ _ _ h => h) (yields_val rfl (fun W hW => by (rfl))) (by assumption) ?_; simp only [Act.put, List.setIfInBounds_toArray, List.set_cons_zero, List.set_cons_succ])
 (refine takeH (i := 1) (v := .string ⟨(encDl x.m.d).toArray⟩) rfl (by kernel_rfl) (by kernel_rfl) (by kernel_rfl) (fun _ _ _ h => h) (yields_val rfl (fun W hW => by (rfl))) (by assumption) ?_; simp only [Act.put, List.setIfInBounds_toArray, List.set_cons_zero, List.set_cons_succ])
 (refine takeH (i := 3) (v := .pointer (some ⟨G, 3, none⟩)) rfl (by kernel_rfl) (by kernel_rfl) (by kernel_rfl) (fun _ _ _ h => h) (yields_val rfl (fun W hW => by (go_simp))) (by assumption) ?_; simp only [Act.put, List.setIfInBounds_toArray, List.set_cons_zero, List.set_cons_succ])
 (refine takeH (i := 4) (v := .int .i64 x.m.verdict) rfl (by kernel_rfl) (by kernel_rfl) (by kernel_rfl) (fun _ _ _ h => h) (yields_val rfl (fun W hW => by ((have h := (T0.out W hW).cellv (i := 3) (v := .int .i64 x.m.verdict) rfl; go_simp)))) (by assumption) ?_; simp only [Act.put, List.setIfInBounds_toArray, List.set_cons_zero, List.set_cons_succ])
 (refine takeH (i := 5) (v := .int .u8 ((UInt8.ofNat x.m.verdict.toNat).toNat : Int)) rfl (by kernel_rfl) (by kernel_rfl) (by kernel_rfl) (fun _ _ _ h => h) (yields_val rfl (fun W hW => by (go_simp))) (by assumption) ?_; simp only [Act.put, List.setIfInBounds_toArray, List.set_cons_zero, List.set_cons_succ])
 (refine wpAnyH_all (rs := [2]) (by kernel_rfl) (by simp) (fun i hi => ?_); obtain rfl : i = 2 := by simpa using hi)
 refine wpOp_plain rfl rfl (fun K2 hK2 => ?_)
 refine wp_call_gen 132 #[.pointer (some ⟨g, 0, none⟩), .string ⟨(encDl x.m.d).toArray⟩] (w1 := w4) (by go_simp) ((wrText_any B g l (encDl x.m.d) (by have := Hl.out; omega) (by omega) w4 h4).mono ?_)
 rintro e w5 ⟨rfl, h5, e9⟩
 refine ⟨_, rfl, ?_⟩
 refine hK2 _ _ ?_
 clear hK2 K2
 simp only [Act.put, List.setIfInBounds_toArray, List.set_cons_zero, List.set_cons_succ]
 have hSw5 : S w5 := SMK.out _ (e9.row (T0.out _ hSw4) (by omega) (by decide)) ((T4.out _ hSw4).trans e9)
 clear hSw4 h4 e9
 refine ⟨hSw5, ?_⟩
 (refine wpAnyH_all (rs := [6]) (by kernel_rfl) (by simp) (fun i hi => ?_); obtain rfl : i = 6 := by simpa using hi)
 refine wpOp_plain rfl rfl (fun K2 hK2 => ?_)
 refine wp_call_gen 133 #[.pointer (some ⟨g, 0, none⟩), .int .u8 ((UInt8.ofNat x.m.verdict.toNat).toNat : Int)] (w1 := w5) (by go_simp) ((wrByte_any B g _ (UInt8.ofNat x.m.verdict.toNat) (by have := Hl.out; have := Hll.out; simp only [List.length_append]; omega) w5 h5).mono ?_)
 rintro e w6 ⟨rfl, h6, e9⟩
 refine ⟨_, rfl, ?_⟩
 refine hK2 _ _ ?_
 clear hK2 K2
 simp only [Act.put, List.setIfInBounds_toArray, List.set_cons_zero, List.set_cons_succ]
 have hSw6 : S w6 := SMK.out _ (e9.row (T0.out _ hSw5) (by omega) (by decide)) ((T4.out _ hSw5).trans e9)
 clear hSw5 h5 e9
 refine ⟨hSw6, ?_⟩
 refine wpAnyH_done (by kernel_rfl) ?_ _
 have c3 := (T0.out _ hSw6).cellv (i := 3) (v := .int .i64 x.m.verdict) rfl
 obtain ⟨l6, hl6⟩ : ∃ l6, l6 = l ++ lebL (encDl x.m.d).length ++ encDl x.m.d ++ [UInt8.ofNat x.m.verdict.toNat] := ⟨_, rfl⟩
 rw [← hl6] at h6
 have Hl6 := Lib.hid hl6
 have H6len : Hid (l6.length ≤ 801000) := Lib.hid (by have := Hl.out; have := Hll.out; rw [hl6]; simp only [List.length_append, List.length_cons, List.length_nil]; omega)
 clear hl6
 by_cases h0 : x.m.verdict = 0
 · have hr0 : restM x.m = [] := if_pos h0
   have Hres : Hid (l ++ encMt x.m = l6) := Lib.hid (by rw [Hl6.out, encMt, hr0]; simp)
   rw [h0] at c3
   clear hw8 hr0
   go_wp2_with fail
   go_ret
   exact ⟨rfl, by rw [Hres.out]; exact h6, T4.out _ hSw6⟩
 obtain ⟨g1, g2, g3, g4, g5, g6⟩ := Htold.out h0
 have hr0 : restM x.m = tailM x.m := if_neg h0
 obtain ⟨tn, htn⟩ := Int.eq_ofNat_of_zero_le g2
 have Hres : Hid (l ++ encMt x.m = l6 ++ lebL tn ++ [UInt8.ofNat x.m.kind.toNat] ++ zz x.m.value ++ x.m.digest) := Lib.hid (by rw [Hl6.out, encMt, hr0, tailM, htn]; simp)
 have hwk : IntKind.u8.wrap x.m.kind = ((UInt8.ofNat x.m.kind.toNat).toNat : Int) := by rw [IntKind.wrap_u8, u8_small g5 (by omega)]; omega
 have hwt : IntKind.u64.wrap (tn : Int) = (tn : Int) := by rw [IntKind.wrap_u64]; omega
 have htb : tn ≤ 19 := by omega
 have hb0 : (x.m.verdict != 0) = true := by simpa using h0
 clear hw8 hr0 h0 g1 g2 g3 g5 g6 hver
 go_wp2_with fail
 refine wp_region_held (S := S) (by kernel_rfl) ?_
 simp only [List.size_toArray, List.length_cons, List.length_nil, Nat.reduceAdd, Array.replicate_succ, Array.replicate_zero, List.push_toArray, List.nil_append, List.cons_append]
 show wpAnyH _ _ _ _ _ _ _ _ w6.drew
 have hSw7 := St.drew hSw6
 have h7 : Wr w6.drew B g l6 := St.drew (S := fun W => Wr W B g l6) h6
 clear hSw6 h6 c3
 generalize w6.drew = w7 at hSw7 h7 ⊢
 have hds : (⟨x.m.digest.toArray⟩ : ByteArray).size = x.m.digest.length := by simp [ByteArray.size]
 (refine takeH (i := 0) (v := .pointer (some ⟨g, 0, none⟩)) rfl (by kernel_rfl) (by kernel_rfl) (by kernel_rfl) (fun _ _ _ h => h) (yields_val rfl (fun W hW => by (rfl))) (by assumption) ?_; simp only [Act.put, List.setIfInBounds_toArray, List.set_cons_zero, List.set_cons_succ])
 (refine takeH (i := 1) (v := .pointer (some ⟨G, 4, none⟩)) rfl (by kernel_rfl) (by kernel_rfl) (by kernel_rfl) (fun _ _ _ h => h) (yields_val rfl (fun W hW => by (go_simp))) (by assumption) ?_; simp only [Act.put, List.setIfInBounds_toArray, List.set_cons_zero, List.set_cons_succ])
 (refine takeH (i := 2) (v := .int .i64 (tn : Int)) rfl (by kernel_rfl) (by kernel_rfl) (by kernel_rfl) (fun _ _ _ h => h) (yields_val rfl (fun W hW => by ((have h := (T0.out W hW).cellv (i := 4) (v := .int .i64 x.m.test) rfl; rw [htn] at h; go_simp)))) (by assumption) ?_; simp only [Act.put, List.setIfInBounds_toArray, List.set_cons_zero, List.set_cons_succ])
 (refine takeH (i := 3) (v := .int .u64 (tn : Int)) rfl (by kernel_rfl) (by kernel_rfl) (by kernel_rfl) (fun _ _ _ h => h) (yields_val rfl (fun W hW => by (go_simp))) (by assumption) ?_; simp only [Act.put, List.setIfInBounds_toArray, List.set_cons_zero, List.set_cons_succ])
 (refine takeH (i := 5) (v := .pointer (some ⟨G, 5, none⟩)) rfl (by kernel_rfl) (by kernel_rfl) (by kernel_rfl) (fun _ _ _ h => h) (yields_val rfl (fun W hW => by (go_simp))) (by assumption) ?_; simp only [Act.put, List.setIfInBounds_toArray, List.set_cons_zero, List.set_cons_succ])
 (refine takeH (i := 6) (v := .pointer (some ⟨G, 5, none⟩)) rfl (by kernel_rfl) (by kernel_rfl) (by kernel_rfl) (fun _ _ _ h => h) (yields_val rfl (fun W hW => by (go_simp))) (by assumption) ?_; simp only [Act.put, List.setIfInBounds_toArray, List.set_cons_zero, List.set_cons_succ])
 (refine takeH (i := 7) (v := .int .i64 x.m.kind) rfl (by kernel_rfl) (by kernel_rfl) (by kernel_rfl) (fun _ _ _ h => h) (yields_val rfl (fun W hW => by ((have h := (T0.out W hW).cellv (i := 5) (v := .int .i64 x.m.kind) rfl; go_simp)))) (by assumption) ?_; simp only [Act.put, List.setIfInBounds_toArray, List.set_cons_zero, List.set_cons_succ])
 (refine takeH (i := 8) (v := .int .u8 ((UInt8.ofNat x.m.kind.toNat).toNat : Int)) rfl (by kernel_rfl) (by kernel_rfl) (by kernel_rfl) (fun _ _ _ h => h) (yields_val rfl (fun W hW => by (go_simp))) (by assumption) ?_; simp only [Act.put, List.setIfInBounds_toArray, List.set_cons_zero, List.set_cons_succ])
 (refine takeH (i := 10) (v := .pointer (some ⟨G, 5, none⟩)) rfl (by kernel_rfl) (by kernel_rfl) (by kernel_rfl) (fun _ _ _ h => h) (yields_val rfl (fun W hW => by (go_simp))) (by assumption) ?_; simp only [Act.put, List.setIfInBounds_toArray, List.set_cons_zero, List.set_cons_succ])
 (refine takeH (i := 11) (v := .pointer (some ⟨G, 6, none⟩)) rfl (by kernel_rfl) (by kernel_rfl) (by kernel_rfl) (fun _ _ _ h => h) (yields_val rfl (fun W hW => by (go_simp))) (by assumption) ?_; simp only [Act.put, List.setIfInBounds_toArray, List.set_cons_zero, List.set_cons_succ])
 (refine takeH (i := 12) (v := .int .i64 x.m.value) rfl (by kernel_rfl) (by kernel_rfl) (by kernel_rfl) (fun _ _ _ h => h) (yields_val rfl (fun W hW => by ((have h := (T0.out W hW).cellv (i := 6) (v := .int .i64 x.m.value) rfl; go_simp)))) (by assumption) ?_; simp only [Act.put, List.setIfInBounds_toArray, List.set_cons_zero, List.set_cons_succ])
 (refine takeH (i := 14) (v := .pointer (some ⟨G, 7, none⟩)) rfl (by kernel_rfl) (by kernel_rfl) (by kernel_rfl) (fun _ _ _ h => h) (yields_val rfl (fun W hW => by (go_simp))) (by assumption) ?_; simp only [Act.put, List.setIfInBounds_toArray, List.set_cons_zero, List.set_cons_succ])
 (refine takeH (i := 15) (v := .string ⟨x.m.digest.toArray⟩) rfl (by kernel_rfl) (by kernel_rfl) (by kernel_rfl) (fun _ _ _ h => h) (yields_val rfl (fun W hW => by ((have h := (T0.out W hW).cellv (i := 7) (v := .string ⟨x.m.digest.toArray⟩) rfl; go_simp)))) (by assumption) ?_; simp only [Act.put, List.setIfInBounds_toArray, List.set_cons_zero, List.set_cons_succ])
 (refine wpAnyH_all (rs := [4]) (by kernel_rfl) (by simp) (fun i hi => ?_); obtain rfl : i = 4 := by simpa using hi)
 refine wpOp_plain rfl rfl (fun K2 hK2 => ?_)
 refine wp_call_gen 88 #[.pointer (some ⟨g, 0, none⟩), .int .u64 (tn : Int)] (w1 := w7) (by go_simp) ((num_any B g l6 tn (by have := H6len.out; omega) (by omega) w7 h7).mono ?_)
 rintro e w8 ⟨rfl, h8, e9⟩
 refine ⟨_, rfl, ?_⟩
 refine hK2 _ _ ?_
 clear hK2 K2
 simp only [Act.put, List.setIfInBounds_toArray, List.set_cons_zero, List.set_cons_succ]
 have hSw8 : S w8 := SMK.out _ (e9.row (T0.out _ hSw7) (by omega) (by decide)) ((T4.out _ hSw7).trans e9)
 clear hSw7 h7 e9
 refine ⟨hSw8, ?_⟩
 (refine wpAnyH_all (rs := [9]) (by kernel_rfl) (by simp) (fun i hi => ?_); obtain rfl : i = 9 := by simpa using hi)
 refine wpOp_plain rfl rfl (fun K2 hK2 => ?_)
 refine wp_call_gen 133 #[.pointer (some ⟨g, 0, none⟩), .int .u8 ((UInt8.ofNat x.m.kind.toNat).toNat : Int)] (w1 := w8) (by go_simp) ((wrByte_any B g _ (UInt8.ofNat x.m.kind.toNat) (by have := H6len.out; have := lebL_len tn; simp only [List.length_append]; omega) w8 h8).mono ?_)
 rintro e w9 ⟨rfl, h9, e9⟩
 refine ⟨_, rfl, ?_⟩
 refine hK2 _ _ ?_
 clear hK2 K2
 simp only [Act.put, List.setIfInBounds_toArray, List.set_cons_zero, List.set_cons_succ]
 have hSw9 : S w9 := SMK.out _ (e9.row (T0.out _ hSw8) (by omega) (by decide)) ((T4.out _ hSw8).trans e9)
 clear hSw8 h8 e9
 refine ⟨hSw9, ?_⟩
 (refine wpAnyH_all (rs := [13]) (by kernel_rfl) (by simp) (fun i hi => ?_); obtain rfl : i = 13 := by simpa using hi)
 refine wpOp_plain rfl rfl (fun K2 hK2 => ?_)
 refine wp_call_gen 134 #[.pointer (some ⟨g, 0, none⟩), .int .i64 x.m.value] (w1 := w9) (by go_simp) ((int_any B g _ x.m.value (by have := H6len.out; have := lebL_len tn; simp only [List.length_append, List.length_cons, List.length_nil]; omega) Hv.out w9 h9).mono ?_)
 rintro e wa ⟨rfl, ha, e9⟩
 refine ⟨_, rfl, ?_⟩
 refine hK2 _ _ ?_
 clear hK2 K2
 simp only [Act.put, List.setIfInBounds_toArray, List.set_cons_zero, List.set_cons_succ]
 have hSwa : S wa := SMK.out _ (e9.row (T0.out _ hSw9) (by omega) (by decide)) ((T4.out _ hSw9).trans e9)
 clear hSw9 h9 e9
 refine ⟨hSwa, ?_⟩
 (refine wpAnyH_all (rs := [16]) (by kernel_rfl) (by simp) (fun i hi => ?_); obtain rfl : i = 16 := by simpa using hi)
 refine wpOp_plain rfl rfl (fun K2 hK2 => ?_)
 refine wp_call_gen 129 #[.pointer (some ⟨g, 0, none⟩), .string ⟨x.m.digest.toArray⟩] (w1 := wa) (by go_simp) ((raw_any B g _ ⟨x.m.digest.toArray⟩ (by have := H6len.out; have := lebL_len tn; have := zz_len x.m.value; simp only [List.length_append, List.length_cons, List.length_nil]; omega) (by omega) wa ha).mono ?_)
 rintro e wb ⟨rfl, hb, e9⟩
 refine ⟨_, rfl, ?_⟩
 refine hK2 _ _ ?_
 clear hK2 K2
 simp only [Act.put, List.setIfInBounds_toArray, List.set_cons_zero, List.set_cons_succ]
 have hSwb : S wb := SMK.out _ (e9.row (T0.out _ hSwa) (by omega) (by decide)) ((T4.out _ hSwa).trans e9)
 clear hSwa ha e9
 refine ⟨hSwb, ?_⟩
 refine wpAnyH_done (by kernel_rfl) ?_ _
 go_wp2_with fail
 go_ret
 exact ⟨rfl, by rw [Hres.out]; exact hb, T4.out _ hSwb⟩
end Go.Proofs.YtcgglolckkeeiaaGreat
namespace Go.Proofs.YtcgglolckkeeiaaGreat
open Go.RowKit Go.Deep
theorem wireNew_ex (w : World) :
 Calls Tryz.prog 87 #[] w fun e w' => ∃ g, e = .returned (.pointer (some ⟨g, 0, none⟩)) ∧ Wr w' g g [] ∧ Below w.heap.size w w' ∧ w.heap.size ≤ g :=
 (wireNew_any w).mono fun _ _ h => ⟨_, h.1, h.2.1, h.2.2, Nat.le_refl _⟩
theorem flat_snoc {l : List Mt} {k : Nat} {x : Mt} (hx : l[k]? = some x) : (l.take (k + 1)).flatMap encMt = (l.take k).flatMap encMt ++ encMt x := by rw [take_snoc hx]; simp
theorem flat_take_len {l : List Mt} {k : Nat} (h : (l.take k).all fineM = true) (hk : k ≤ 2000) : ((l.take k).flatMap encMt).length ≤ 770000 := by
 have h1 := flat_len h
 have h2 := List.length_take_le k l
 omega
set_option maxRecDepth 100000 in
set_option maxHeartbeats 8000000 in
theorem putMuts_any (A : Option Addr) (cap n : Nat) (l : List MtV) (w : World) (hn : n = l.length) (hr : Rd w A (mtsC l)) (hok : ∀ x ∈ l, MtOk w x) (hin : ∀ x ∈ l, InI x.m.d.n ∧ InI x.m.value) (hl : n ≤ 1000000) :
 Calls Tryz.prog 33 #[.slice A n cap] w fun e w' => e = .returned (.tuple #[.string ⟨(putMts (l.map MtV.m)).1.toArray⟩, .int .i64 (putMts (l.map MtV.m)).2]) ∧ Below w.heap.size w w' := by
 have Hn := Lib.hid hn
 have Hr := Lib.hid hr
 have Hok := Lib.hid hok
 have Hin := Lib.hid hin
 obtain ⟨ms, hms⟩ : ∃ ms, ms = l.map MtV.m := ⟨_, rfl⟩
 have Hms := Lib.hid hms
 rw [← hms]
 obtain ⟨pd, hpd⟩ : ∃ p, p = putMts ms := ⟨_, rfl⟩
 have Hpd := Lib.hid hpd
 rw [← hpd]
 have Hlen : Hid (ms.length = n) := Lib.hid (by rw [hms, hn]; simp)
 have hnI : (n : Int) ≤ 1000000 := by omega
 clear hn hr hok hin hms hpd hl
 by_cases h2 : n ≤ 2000
 rotate_left
 · obtain rfl : pd = ([], 24) := Hpd.out.trans (if_neg (fun h => h2 (by have := Hlen.out; omega)))
   have h2I : ¬ (n : Int) ≤ 2000 := by omega
   have h2J : (2000 : Int) < (n : Int) := by omega
   clear h2
   go_enter Tryz.func33, Tryz.ntmps33
   go_wp2_with fail
   go_ret2
   exact ⟨rfl, Below.refl _ _⟩
 have h2I : (n : Int) ≤ 2000 := by omega
 have h2J : ¬ (2000 : Int) < (n : Int) := by omega
 have hwn : IntKind.u64.wrap (n : Int) = (n : Int) := by rw [IntKind.wrap_u64]; omega
 go_enter Tryz.func33, Tryz.ntmps33
 go_wp2_with fail
 refine (wireNew_ex w).mono ?_
 rintro e w3 ⟨g, rfl, h3, b3, hwg⟩
 go_wp2_with fail
 refine (num_any g g [] n (by simp) (by omega) w3 h3).mono ?_
 rintro e w4 ⟨rfl, h4, e4⟩
 have b4 := b3.trans ((e4.below (Nat.le_refl _) (by have := h3.lt; omega)).mono hwg)
 rw [List.nil_append] at h4
 clear h3 e4 b3 hwn
 go_wp2_with fail
 go_loopw [18] (fun i wr => ∃ k : Nat, i = .int .i64 (k : Int) ∧ k ≤ n ∧ Hid ((ms.take k).all fineM = true) ∧ Wr wr g g (lebL n ++ (ms.take k).flatMap encMt) ∧ Below w.heap.size w wr) (fun i _ => n - (intOf i).toNat)
 case atStart => exact ⟨0, rfl, Nat.zero_le _, Lib.hid (by simp), by simpa using h4, b4⟩
 case round =>
  clear h4 b4
  obtain ⟨k, rfl, hk, Hall, hw, hb⟩ := hrel
  have Hlk : Hid ((lebL n ++ (ms.take k).flatMap encMt).length ≤ 780000) := Lib.hid (by
   have h1 := flat_take_len Hall.out (by omega)
   have h2 := lebL_len n
   rw [List.length_append]; omega)
  by_cases hlt : k < n
  · obtain ⟨x, hx⟩ : ∃ x, l[k]? = some x := ⟨_, List.getElem?_eq_getElem (by have := Hn.out; omega)⟩
    have hxm : ms[k]? = some x.m := by rw [Hms.out, List.getElem?_map, hx]; rfl
    obtain ⟨ad, had, hc⟩ := mt_at (Hr.out.go hb) hx
    have Hx := Lib.hid (List.mem_of_getElem? hx)
    have Hxm := Lib.hid hxm
    have hltI : (k : Int) < (n : Int) := by omega
    clear hx hxm hlt
    rw [had]
    have Hc := Lib.hid hc
    clear hc
    go_wp2_with (first | (refine wpList_load_at rfl 47 _ rfl (ad.add (k * 8)) rfl x.cells _ Hc.out Tryz.underlying47 rfl (by kernel_rfl) ?_) | (refine at_alloc _ rfl ?_))
    refine Stop.to ?_
    refine wpList_alloc_gen rfl 47 rfl _ _ (zero_mut _) rfl ?_
    intro D Dw Dh Dr Db
    have hwD := hw.go (Db.mono Dh)
    have hbD := hb.trans (Db.mono (by have := hb.size; omega))
    go_wp2_with (refine at_store _ _ _ rfl ?_)
    refine Stop.to ?_
    refine wpList_store_gen rfl 47 _ _ rfl D x.cells.toArray rfl rfl 47 _ Dr (by kernel_rfl) rfl (by simp [MtV.cells, Value.oneCell']) ?_
    intro w5 r5 o5
    have hgD : g < D := Nat.lt_of_lt_of_le hw.lt Dh
    have bD5 : Below wr.heap.size wr w5 := (Db.mono Dh).trans (o5.below Dh)
    have hw5 := hw.go bD5
    have hb5 := hb.trans (bD5.mono hb.size)
    clear Dr Db o5 hwD hbD bD5 hw hb
    go_wp2_with (refine wpList_load_row rfl 47 _ rfl D rfl 47 x.cells.toArray (0, 0) _ r5 Tryz.underlying47 rfl (by kernel_rfl) ?_)
    refine (mtPut_any g g _ (by have := Hlk.out; omega) x w5 ((Hok.out x Hx.out).go hb5) (Hin.out x Hx.out).1 (Hin.out x Hx.out).2 hw5).mono ?_
    rintro e w6 ⟨rfl, h6, e6⟩
    have b6 := hb5.trans ((e6.below (Nat.le_refl _) (by have := hw5.lt; omega)).mono hwg)
    clear r5 hw5 hb5 e6
    cases hf : fineM x.m
    · obtain rfl : pd = ([], 24) := Hpd.out.trans (if_neg (fun h => by
       have := List.all_eq_true.1 h.2 x.m (List.mem_of_getElem? Hxm.out)
       rw [hf] at this; cases this))
      clear h6
      go_wp2_with fail
      go_ret2
      exact ⟨rfl, b6⟩
    · rw [hf, if_pos rfl, List.append_assoc] at h6
      have Hn2 : Hid ((ms.take (k + 1)).all fineM = true) := Lib.hid (by rw [take_snoc Hxm.out, List.all_append, Hall.out]; simp [hf])
      clear hf
      go_wp2_with fail
      go_roundw
      case rel => exact ⟨k + 1, by go_num, by omega, Hn2, by rw [flat_snoc Hxm.out]; exact h6, b6⟩
      case measure => simp [intOf]; omega
  · obtain rfl : k = n := by omega
    have hall := Hall.out
    have ht : ms.take k = ms := List.take_of_length_le (by have := Hlen.out; omega)
    rw [ht] at hall hw
    have he : encMts ms = lebL k ++ ms.flatMap encMt := by rw [encMts, Hlen.out]
    obtain rfl : pd = (lebL k ++ ms.flatMap encMt, 0) := (Hpd.out.trans (if_pos ⟨by have := Hlen.out; omega, hall⟩)).trans (by rw [he])
    clear hlt hk ht hall he
    go_wp2_with fail
    refine (wrBytes_any g g _ wr hw).mono ?_
    rintro e w5 ⟨rfl, rfl⟩
    go_wp2_with fail
    go_ret2
    exact ⟨rfl, hb⟩
def Sc.ns (x : Sc) : List Int := [x.alive, x.killed, x.timeout]
def okN (n : Int) : Bool := decide (0 ≤ n) && decide (n ≤ 2000)
theorem okSc_iff {x : Sc} : okSc x ↔ x.ns.all okN = true := by
 simp [okSc, Sc.ns, okN]
def nsB (l : List Int) : List UInt8 := l.flatMap fun n => lebL n.toNat
theorem nsB_len (l : List Int) : (nsB l).length ≤ 10 * l.length := pathB_len' l
theorem encSc_ns (x : Sc) : encSc x = nsB x.ns := by simp [encSc, nsB, Sc.ns]
set_option maxRecDepth 100000 in
set_option maxHeartbeats 8000000 in
theorem putScore_any (x : Sc) (w : World) :
 Calls Tryz.prog 37 #[.agg x.cells] w fun e w' => e = .returned (.tuple #[.string ⟨(putSc x).1.toArray⟩, .int .i64 (putSc x).2]) ∧ Below w.heap.size w w' := by
 obtain ⟨pd, hpd⟩ : ∃ p, p = putSc x := ⟨_, rfl⟩
 have Hpd := Lib.hid hpd
 rw [← hpd]
 clear hpd
 go_enter Tryz.func37, Tryz.ntmps37
 go_wp2_with (refine at_box _ _ rfl ?_)
 refine Stop.to ?_
 refine wpList_box_gen rfl 29 _ rfl x.cells rfl ?_
 intro G Gw Gh Gr Gb
 have b1 := (Below.refl w.heap.size w).trans (Gb.mono Gh)
 clear Gb
 go_wp2_with fail
 refine (wireNew_ex Gw).mono ?_
 rintro e w3 ⟨g, rfl, h3, b3, hwg⟩
 have r3 := Gr.below b3 Gr.lt
 have bb := b1.trans (b3.mono b1.size)
 have hwg2 : w.heap.size ≤ g := Nat.le_trans b1.size hwg
 have c0 := r3.cellv (i := 0) (v := .int .i64 x.alive) rfl
 have c1 := r3.cellv (i := 1) (v := .int .i64 x.killed) rfl
 have c2 := r3.cellv (i := 2) (v := .int .i64 x.timeout) rfl
 clear Gr b1 b3 hwg
 go_wp2_with (refine at_slice _ _ _ rfl ?_)
 refine Stop.to ?_
 refine wpList_slice_gen rfl 22 3 _ rfl 3 #[.int .i64 x.alive, .int .i64 x.killed, .int .i64 x.timeout] (fun W => by kernel_rfl) ?_
 intro L Lw Lh Lr Lb
 have hgL : g < L := Nat.lt_of_lt_of_le h3.lt Lh
 have h4 := h3.go (Lb.mono Lh)
 have b4 := bb.trans (Lb.mono (Nat.le_trans bb.size Lh))
 have rL : Row Lw L 3 (ints x.ns).toArray := Lr
 clear h3 bb Lb Lr r3 c0 c1 c2
 go_wp2_with fail
 go_loopw [16] (fun i wr => ∃ k : Nat, i = .int .i64 (k : Int) ∧ k ≤ 3 ∧ Hid ((x.ns.take k).all okN = true) ∧ Wr wr g g (nsB (x.ns.take k)) ∧ Row wr L 3 (ints x.ns).toArray ∧ Below w.heap.size w wr) (fun i _ => 3 - (intOf i).toNat)
 case atStart => exact ⟨0, rfl, Nat.zero_le _, Lib.hid (by simp), by simpa [nsB] using h4, rL, b4⟩
 case round =>
  clear h4 b4 rL
  obtain ⟨k, rfl, hk, Hall, hw, hr, hb⟩ := hrel
  by_cases hlt : k < 3
  · obtain ⟨n, hx⟩ : ∃ n, x.ns[k]? = some n := ⟨_, List.getElem?_eq_getElem (by simpa [Sc.ns] using hlt)⟩
    have hc : wr.cell? ⟨L, k, none⟩ = some (.int .i64 n) := hr.cellv (by simp [ints, hx])
    have Hx := Lib.hid hx
    have hltI : (k : Int) < 3 := by omega
    have Hlk : Hid ((nsB (x.ns.take k)).length ≤ 100) := Lib.hid (by
     have h1 := nsB_len (x.ns.take k)
     have h2 := List.length_take_le k x.ns
     omega)
    clear hx hlt
    by_cases h0 : n < 0
    · obtain rfl : pd = ([], 22) := Hpd.out.trans (if_neg (fun h => by
       have := List.all_eq_true.1 (okSc_iff.1 h) n (List.mem_of_getElem? Hx.out)
       simp [okN] at this; omega))
      clear hw
      go_wp2_with fail
      go_ret2
      exact ⟨rfl, hb⟩
    by_cases h2 : 2000 < n
    · obtain rfl : pd = ([], 22) := Hpd.out.trans (if_neg (fun h => by
       have := List.all_eq_true.1 (okSc_iff.1 h) n (List.mem_of_getElem? Hx.out)
       simp [okN] at this; omega))
      clear hw
      go_wp2_with fail
      go_ret2
      exact ⟨rfl, hb⟩
    have hn0 : okN n = true := by simp [okN]; omega
    have Hn2 : Hid ((x.ns.take (k + 1)).all okN = true) := Lib.hid (by rw [take_snoc Hx.out, List.all_append, Hall.out]; simp [hn0])
    have Hn3 : Hid (nsB (x.ns.take (k + 1)) = nsB (x.ns.take k) ++ lebL n.toNat) := Lib.hid (by rw [take_snoc Hx.out]; simp [nsB])
    clear hn0
    obtain ⟨m, rfl⟩ := Int.eq_ofNat_of_zero_le (Int.not_lt.1 h0)
    have hum : IntKind.u64.wrap (m : Int) = (m : Int) := by rw [IntKind.wrap_u64]; omega
    rw [Int.toNat_natCast] at Hn3
    go_wp2_with fail
    refine (num_any g g _ m (by have := Hlk.out; omega) (by omega) wr hw).mono ?_
    rintro e w5 ⟨rfl, h5, e5⟩
    have r5 := e5.row hr (by omega) (by decide)
    have b5 := hb.trans ((e5.below (Nat.le_refl _) (by have := hw.lt; omega)).mono hwg2)
    clear hw hr hb e5 hc
    go_wp2_with fail
    go_roundw
    case rel => exact ⟨k + 1, by go_num, by omega, Hn2, by rw [Hn3.out]; exact h5, r5, b5⟩
    case measure => simp [intOf]; omega
  · obtain rfl : k = 3 := by omega
    have ht : x.ns.take 3 = x.ns := rfl
    rw [ht] at Hall hw
    obtain rfl : pd = (nsB x.ns, 0) := (Hpd.out.trans (if_pos (okSc_iff.2 Hall.out))).trans (by rw [encSc_ns])
    clear hlt hk ht Hall hr
    go_wp2_with fail
    refine (wrBytes_any g g _ wr hw).mono ?_
    rintro e w5 ⟨rfl, rfl⟩
    go_wp2_with fail
    go_ret2
    exact ⟨rfl, hb⟩
end Go.Proofs.YtcgglolckkeeiaaGreat
