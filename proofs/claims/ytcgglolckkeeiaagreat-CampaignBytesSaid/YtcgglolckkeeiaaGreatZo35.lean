/- Lemmas for CoAll. -/
import Derived.Test.YtcgglolckkeeiaaGreatZo34
import Derived.Test.YtcgglolckkeeiaaGreatZo25
set_option linter.unusedVariables false
set_option linter.unusedSimpArgs false
namespace Go.Proofs.YtcgglolckkeeiaaGreat
open Go.RowKit Go.Deep
theorem wp_cutG1 {P : Program} {c : Code} {a : Act} {w : World} {Q : Exit → Act → World → Prop} {F : World → Prop} {f : Nat → Act}
 (hreg : c.wp P (Ends fun _ a' w' => ∃ D : Nat, a' = f D ∧ F w') a w) (cont : ∀ D w', F w' → Q .normal (f D) w') : c.wp P Q a w :=
 Code.wp_mono (fun e a' w' h => by
  cases e with
  | normal =>
   obtain ⟨D, rfl, hF⟩ := (h : ∃ D : Nat, a' = f D ∧ F w')
   exact cont _ _ hF
  | _ => exact (h : False).elim) hreg
theorem conv_one (b : UInt8) (W : World) (g : Nat) (hr : Row W g 5 #[.int .u8 (b.toNat : Int)]) : (convert 120 9 (.slice (some ⟨g, 0, none⟩) 1 1)).run Tryz.prog W = .ok (.string ⟨#[b]⟩) W :=
 run_string_of_row (P := Tryz.prog) 120 9 5 5 Tryz.underlying120 Tryz.underlying5 Tryz.underlying9 (cap := 1) hr [b] (n := 1) rfl (fun j hj => by simp [u8s])
set_option maxRecDepth 100000 in
set_option maxHeartbeats 16000000 in
theorem refPutMuts_any (A : Option Addr) (cap n : Nat) (l : List MtV) (w : World) (hn : n = l.length) (hr : Rd w A (mtsC l)) (hok : ∀ x ∈ l, MtOk w x) (hin : ∀ x ∈ l, InI x.m.d.n ∧ InI x.m.value) (hl : n ≤ 1000000) :
 Calls Tryz.prog 34 #[.slice A n cap] w fun e w' => e = .returned (.tuple #[.string ⟨(putMts (l.map MtV.m)).1.toArray⟩, .int .i64 (putMts (l.map MtV.m)).2]) ∧ Below w.heap.size w w' := by
 have Hn := Lib.hid hn
 have Hr := Lib.hid hr
 have Hok := Lib.hid hok
 have Hin := Lib.hid hin
 obtain ⟨ms, hms⟩ : ∃ ms, ms = l.map MtV.m := ⟨_, rfl⟩
 have Hms := Lib.hid hms
 rw [← hms]
 obtain ⟨pd, hpd⟩ : ∃ p, p = putMts ms := ⟨_, rfl⟩
 have Hpd := Lib.hid hpd
 rw [← hpd]
 have Hlen : Hid (ms.length = n) := Lib.hid (by rw [hms, hn]; simp)
 have hnI : (n : Int) ≤ 1000000 := by omega
 clear hn hr hok hin hms hpd hl
 by_cases h2 : n ≤ 2000
 rotate_left
 · obtain rfl : pd = ([], 24) := Hpd.out.trans (if_neg (fun h => h2 (by have := Hlen.out; omega)))
   have h2I : ¬ (n : Int) ≤ 2000 := by omega
   have h2J : (2000 : Int) < (n : Int) := by omega
   clear h2
   go_enter Tryz.func34, Tryz.ntmps34
   go_wp2_with fail
   try rw [Exit.noGoto_ret]
   go_ret2
   exact ⟨rfl, Below.refl _ _⟩
 have h2I : (n : Int) ≤ 2000 := by omega
 have h2J : ¬ (2000 : Int) < (n : Int) := by omega
 have hwn : IntKind.u64.wrap (n : Int) = (n : Int) := by rw [IntKind.wrap_u64]; omega
 go_enter Tryz.func34, Tryz.ntmps34
 go_wp2_with fail
 refine (lebL_ref n (by omega) w).mono ?_
 rintro e w2 ⟨rfl, b2⟩
 clear hwn
 go_wp2_with fail
 go_loopw [4, 5] (fun q i wr => ∃ (k : Nat) (R : List UInt8), q = .string ⟨R.toArray⟩ ∧ i = .int .i64 (k : Int) ∧ k ≤ n ∧ Hid ((ms.take k).all fineM = true) ∧ Hid (R = lebL n ++ (ms.take k).flatMap encMt) ∧ Below w.heap.size w wr) (fun _ i _ => n - (intOf i).toNat)
 case atStart => exact ⟨0, lebL n, rfl, rfl, Nat.zero_le _, Lib.hid (by simp), Lib.hid (by simp), b2⟩
 case round =>
  clear b2
  obtain ⟨k, L0, rfl, rfl, hk, Hall, HR, hb⟩ := hrel
  have hL0 : L0.length ≤ 780000 := by
   have h1 := flat_take_len Hall.out (by omega)
   have h2 := lebL_len n
   rw [HR.out, List.length_append]; omega
  by_cases hlt : k < n
  · obtain ⟨x, hx⟩ : ∃ x, l[k]? = some x := ⟨_, List.getElem?_eq_getElem (by have := Hn.out; omega)⟩
    have hxm : ms[k]? = some x.m := by rw [Hms.out, List.getElem?_map, hx]; rfl
    obtain ⟨ad, had, hc⟩ := mt_at (Hr.out.go hb) hx
    have Hx := Lib.hid (List.mem_of_getElem? hx)
    have Hxm := Lib.hid hxm
    have Hv := Lib.hid (Hin.out x Hx.out).2
    have hltI : (k : Int) < (n : Int) := by omega
    clear hx hxm hlt
    rw [had]
    have Hc := Lib.hid hc
    clear hc
    go_wp2_with (first | (refine wpList_load_at rfl 47 _ rfl (ad.add (k * 8)) rfl x.cells _ Hc.out Tryz.underlying47 rfl (by kernel_rfl) ?_) | (refine at_alloc _ rfl ?_))
    refine Stop.to ?_
    refine wpList_alloc_gen rfl 47 rfl _ _ (zero_mut _) rfl ?_
    intro G Gw Gh Gr Gb
    go_wp2_with (refine at_store _ _ _ rfl ?_)
    refine Stop.to ?_
    refine wpList_store_gen rfl 47 _ _ rfl G x.cells.toArray rfl rfl 47 _ Gr (by kernel_rfl) rfl (by simp [MtV.cells, Value.oneCell']) ?_
    intro w1 r1 o1
    have bG : Below wr.heap.size wr w1 := (Gb.mono Gh).trans (o1.below Gh)
    have b1 := hb.trans (bG.mono hb.size)
    have hwG : w.heap.size ≤ G := Nat.le_trans hb.size Gh
    clear Gr Gb o1 bG hb
    obtain ⟨dp, hdp⟩ : ∃ p, p = putDl x.m.d := ⟨_, rfl⟩
    have HP := Lib.hid (refDlPut_any x.dl w1 ((Hok.out x Hx.out).go b1).dl (Hin.out x Hx.out).1)
    rw [show x.dl.d = x.m.d from rfl, ← hdp] at HP
    have HRt := Lib.hid (fun W hW => refRight_any x W hW)
    obtain ⟨fb, hfb⟩ : ∃ b, b = fineM x.m := ⟨_, rfl⟩
    have Hfb := Lib.hid hfb
    clear hfb
    have Hbad : Hid (fb = false → pd = ([], 24)) := Lib.hid (fun h => Hpd.out.trans (if_neg (fun h2 => by
     have := List.all_eq_true.1 h2.2 x.m (List.mem_of_getElem? Hxm.out)
     rw [← Hfb.out, h] at this; cases this)))
    go_wp2_with (refine wpList_load_at rfl 42 _ rfl ⟨G, 0, none⟩ rfl x.dl.cells.toList _ (mt_dl r1) Tryz.underlying42 rfl (by kernel_rfl) ?_)
    refine HP.out.mono ?_
    rintro e w2 ⟨rfl, b2⟩
    have r2 := r1.below b2 r1.lt
    have bb := b1.trans (b2.mono b1.size)
    clear HP r1 b1 b2
    by_cases hr : rightDl x.m.d = true
    rotate_left
    · obtain rfl : dp = ([], 17) := hdp.trans (if_neg hr)
      obtain rfl := Hbad.out (Hfb.out.trans (by simp [fineM, hr]))
      clear hr hdp
      go_wp2_with fail
      try rw [Exit.noGoto_ret]
      go_ret2
      exact ⟨rfl, bb⟩
    obtain rfl : dp = (encDl x.m.d, 0) := hdp.trans (if_pos hr)
    clear hdp
    go_wp2_with (refine wpList_load_rowG rfl 47 _ rfl G rfl 47 x.cells.toArray (0, 0) _ r2 Tryz.underlying47 rfl (by kernel_rfl) ?_)
    refine (HRt.out w2 ((Hok.out x Hx.out).go bb)).mono ?_
    rintro e w4 ⟨rfl, b3⟩
    have r4 := r2.below b3 r2.lt
    replace bb := bb.trans (b3.mono bb.size)
    clear HRt r2 b3
    by_cases hz : rightZ x.m = true
    rotate_left
    · obtain rfl := Hbad.out (Hfb.out.trans (by simp [fineM, hz]))
      rw [Bool.not_eq_true] at hz
      rw [hz]
      clear hr
      go_wp2_with fail
      try rw [Exit.noGoto_ret]
      go_ret2
      exact ⟨rfl, bb⟩
    have hff : fineM x.m = true := by simp [fineM, hr, hz]
    have Hn2 : Hid ((ms.take (k + 1)).all fineM = true) := Lib.hid (by rw [take_snoc Hxm.out, List.all_append, Hall.out]; simp [hff])
    rw [hz]
    have hdl := encDl_len hr
    have Htold := Lib.hid (fun hv => right_told hz hv)
    clear hr hff Hbad Hfb
    go_wp2_with fail
    obtain ⟨S, hSd⟩ : ∃ S, S = (fun W => Row W G 47 x.cells.toArray ∧ Below w.heap.size w W) := ⟨_, rfl⟩
    have stS : St S := by rw [hSd]; infer_instance
    have T0 : Hid (∀ W, S W → Row W G 47 x.cells.toArray) := by show ∀ W, _; rw [hSd]; exact fun W h => h.1
    have T4 : Hid (∀ W, S W → Below w.heap.size w W) := by show ∀ W, _; rw [hSd]; exact fun W h => h.2
    have hS4 : S w4 := by rw [hSd]; exact ⟨r4, bb⟩
    clear hSd r4 bb
    have hver : 0 ≤ x.m.verdict ∧ x.m.verdict ≤ 2 := by
     by_cases h0 : x.m.verdict = 0
     · omega
     · have := (Htold.out h0).1; omega
    have Hver := Lib.hid hver
    obtain ⟨dd, hdd⟩ : ∃ dd, dd = encDl x.m.d := ⟨_, rfl⟩
    rw [← hdd] at hdl ⊢
    have Hdd := Lib.hid hdd
    clear hdd
    obtain ⟨b, hbq⟩ : ∃ b, b = UInt8.ofNat x.m.verdict.toNat := ⟨_, rfl⟩
    have hw8 : IntKind.u8.wrap x.m.verdict = (b.toNat : Int) := by rw [hbq, IntKind.wrap_u8, u8_small hver.1 (by omega)]; omega
    have Hb := Lib.hid hbq
    clear hbq
    have hcv := conv_one b
    have hdsz : (⟨dd.toArray⟩ : ByteArray).size = dd.length := by simp [ByteArray.size]
    have hwd : IntKind.u64.wrap (dd.length : Int) = (dd.length : Int) := by rw [IntKind.wrap_u64]; omega
    have hll := lebL_len dd.length
    obtain ⟨L1, hL1⟩ : ∃ L1, L1 = L0 ++ lebL dd.length := ⟨_, rfl⟩
    obtain ⟨L2, hL2⟩ : ∃ L2, L2 = L1 ++ dd := ⟨_, rfl⟩
    obtain ⟨L3, hL3⟩ : ∃ L3, L3 = L2 ++ [b] := ⟨_, rfl⟩
    have l1 : L1.length ≤ 780010 := by rw [hL1, List.length_append]; omega
    have l2 : L2.length ≤ 780331 := by rw [hL2, List.length_append]; omega
    have l3 : L3.length ≤ 780332 := by rw [hL3, List.length_append]; simp; omega
    have hc1 := str_cat2 L0 (lebL dd.length)
    rw [← hL1] at hc1
    have hs1 : ¬ (9223372036854775807 < (L0.length : Int) + ((lebL dd.length).length : Int)) := by omega
    have ht1 : ¬ (9223372036854775807 < L0.length + (lebL dd.length).length) := by omega
    have hc2 := str_cat2 L1 dd
    rw [← hL2] at hc2
    have hs2 : ¬ (9223372036854775807 < (L1.length : Int) + (dd.length : Int)) := by omega
    have ht2 : ¬ (9223372036854775807 < L1.length + dd.length) := by omega
    have hc3 := str_cat2 L2 [b]
    rw [← hL3] at hc3
    have hs3 : ¬ (9223372036854775807 < (L2.length : Int) + 1) := by omega
    have ht3 : ¬ (9223372036854775807 < L2.length + 1) := by omega
    have HL3 : Hid (L3 = L0 ++ (lebL (encDl x.m.d).length ++ (encDl x.m.d ++ [UInt8.ofNat x.m.verdict.toNat]))) := Lib.hid (by rw [hL3, hL2, hL1, Hdd.out, Hb.out]; simp)
    clear hL1 hL2 hL3 hver
    apply wp_cutG1 (F := S)
    case hreg =>
     refine wp_region_held (S := S) (by kernel_rfl) ?_
     simp only [List.size_toArray, List.length_cons, List.length_nil, Nat.reduceAdd, Array.replicate_succ, Array.replicate_zero, List.push_toArray, List.nil_append, List.cons_append]
     show wpAnyH _ _ _ _ _ _ _ _ (w4).drew
     replace hS4 := St.drew hS4
     generalize (w4).drew = w5 at hS4 ⊢
     have hS5 := hS4
     (refine takeH (i := 0) (v := .string ⟨L0.toArray⟩) rfl (by kernel_rfl) (by kernel_rfl) (by kernel_rfl) (fun _ _ _ h => h) (yields_val rfl (fun W hW => by (rfl))) (by assumption) ?_; simp only [Act.put, List.setIfInBounds_toArray, List.set_cons_zero, List.set_cons_succ])
     (refine takeH (i := 1) (v := .string ⟨dd.toArray⟩) rfl (by kernel_rfl) (by kernel_rfl) (by kernel_rfl) (fun _ _ _ h => h) (yields_val rfl (fun W hW => by (rfl))) (by assumption) ?_; simp only [Act.put, List.setIfInBounds_toArray, List.set_cons_zero, List.set_cons_succ])
     (refine takeH (i := 2) (v := .int .i64 (dd.length : Int)) rfl (by kernel_rfl) (by kernel_rfl) (by kernel_rfl) (fun _ _ _ h => h) (yields_val rfl (fun W hW => by (go_simp))) (by assumption) ?_; simp only [Act.put, List.setIfInBounds_toArray, List.set_cons_zero, List.set_cons_succ])
     (refine takeH (i := 3) (v := .int .u64 (dd.length : Int)) rfl (by kernel_rfl) (by kernel_rfl) (by kernel_rfl) (fun _ _ _ h => h) (yields_val rfl (fun W hW => by (go_simp))) (by assumption) ?_; simp only [Act.put, List.setIfInBounds_toArray, List.set_cons_zero, List.set_cons_succ])
     (refine takeH (i := 6) (v := .string ⟨dd.toArray⟩) rfl (by kernel_rfl) (by kernel_rfl) (by kernel_rfl) (fun _ _ _ h => h) (yields_val rfl (fun W hW => by (rfl))) (by assumption) ?_; simp only [Act.put, List.setIfInBounds_toArray, List.set_cons_zero, List.set_cons_succ])
     (refine takeH (i := 8) (v := .pointer (some ⟨G, 3, none⟩)) rfl (by kernel_rfl) (by kernel_rfl) (by kernel_rfl) (fun _ _ _ h => h) (yields_val rfl (fun W hW => by (go_simp))) (by assumption) ?_; simp only [Act.put, List.setIfInBounds_toArray, List.set_cons_zero, List.set_cons_succ])
     (refine takeH (i := 9) (v := .int .i64 x.m.verdict) rfl (by kernel_rfl) (by kernel_rfl) (by kernel_rfl) (fun _ _ _ h => h) (yields_val rfl (fun W hW => by ((have h := (T0.out W hW).cellv (i := 3) (v := .int .i64 x.m.verdict) rfl; go_simp)))) (by assumption) ?_; simp only [Act.put, List.setIfInBounds_toArray, List.set_cons_zero, List.set_cons_succ])
     (refine takeH (i := 10) (v := .int .u8 (b.toNat : Int)) rfl (by kernel_rfl) (by kernel_rfl) (by kernel_rfl) (fun _ _ _ h => h) (yields_val rfl (fun W hW => by (go_simp))) (by assumption) ?_; simp only [Act.put, List.setIfInBounds_toArray, List.set_cons_zero, List.set_cons_succ])
     refine wpAnyH_all (rs := [4, 11]) (by kernel_rfl) (by simp) (fun i hi => ?_)
     simp only [List.mem_cons, List.not_mem_nil, or_false] at hi
     rcases hi with rfl | rfl
     · skip
       refine wpOp_plain rfl rfl (fun K2 hK2 => ?_)
       refine wp_call_gen 91 #[.int .u64 (dd.length : Int)] (w1 := w5) (by go_simp) ((lebL_ref dd.length (by omega) w5).mono ?_)
       rintro e y1 ⟨rfl, bb⟩
       refine ⟨_, rfl, ?_⟩
       refine hK2 _ _ ?_
       clear hK2 K2
       simp only [Act.put, List.setIfInBounds_toArray, List.set_cons_zero, List.set_cons_succ]
       have hSy1 := stS.go hS5 bb
       clear bb
       refine ⟨hSy1, ?_⟩
       (refine takeH (i := 5) (v := .string ⟨L1.toArray⟩) rfl (by kernel_rfl) (by kernel_rfl) (by kernel_rfl) (fun _ _ _ h => h) (yields_val rfl (fun W hW => by (go_simp))) (by assumption) ?_; simp only [Act.put, List.setIfInBounds_toArray, List.set_cons_zero, List.set_cons_succ])
       (refine takeH (i := 7) (v := .string ⟨L2.toArray⟩) rfl (by kernel_rfl) (by kernel_rfl) (by kernel_rfl) (fun _ _ _ h => h) (yields_val rfl (fun W hW => by (go_simp))) (by assumption) ?_; simp only [Act.put, List.setIfInBounds_toArray, List.set_cons_zero, List.set_cons_succ])
       (refine wpAnyH_all (rs := [11]) (by kernel_rfl) (by simp) (fun i hi => ?_); obtain rfl : i = 11 := by simpa using hi)
       refine wpOp_plain rfl rfl (fun K2 hK2 => ?_)
       have hmk : (Instr.buildSlice 120 1 #[(0, .int .u8 (b.toNat : Int))]).run Tryz.prog y1 = .ok (.slice (some ⟨y1.heap.size, 0, none⟩) 1 1) (y1.alloc (.cells #[.int .u8 (b.toNat : Int)] 5)) := by kernel_rfl
       refine wp_res_gen (.slice (some ⟨y1.heap.size, 0, none⟩) 1 1) (w1 := y1.alloc (.cells #[.int .u8 (b.toNat : Int)] 5)) (by go_simp) ?_
       refine hK2 _ _ ?_
       clear hK2 K2 hmk
       simp only [Act.put, List.setIfInBounds_toArray, List.set_cons_zero, List.set_cons_succ]
       have ry2 := Row.new y1 5 #[.int .u8 (b.toNat : Int)]
       have hSy2 := St.alloc hSy1 (.cells #[.int .u8 (b.toNat : Int)] 5)
       generalize y1.alloc (.cells #[.int .u8 (b.toNat : Int)] 5) = y2 at ry2 hSy2 ⊢
       generalize y1.heap.size = Dy2 at ry2 ⊢
       refine ⟨hSy2, ?_⟩
       (refine wpAnyH_all (rs := [12]) (by kernel_rfl) (by simp) (fun i hi => ?_); obtain rfl : i = 12 := by simpa using hi)
       refine wpOp_plain rfl rfl (fun K2 hK2 => ?_)
       refine wp_res_gen (.string ⟨#[b]⟩) (w1 := y2) (by have := hcv _ _ ry2; go_simp) ?_
       refine hK2 _ _ ?_
       clear hK2 K2
       simp only [Act.put, List.setIfInBounds_toArray, List.set_cons_zero, List.set_cons_succ]
       refine ⟨hSy2, ?_⟩
       (refine takeH (i := 13) (v := .string ⟨L3.toArray⟩) rfl (by kernel_rfl) (by kernel_rfl) (by kernel_rfl) (fun _ _ _ h => h) (yields_val rfl (fun W hW => by (go_simp))) (by assumption) ?_; simp only [Act.put, List.setIfInBounds_toArray, List.set_cons_zero, List.set_cons_succ])
       (refine takeH (i := 14) (v := .string ⟨L3.toArray⟩) rfl (by kernel_rfl) (by kernel_rfl) (by kernel_rfl) (fun _ _ _ h => h) (yields_val rfl (fun W hW => by (rfl))) (by assumption) ?_; simp only [Act.put, List.setIfInBounds_toArray, List.set_cons_zero, List.set_cons_succ])
       refine wpAnyH_done (by kernel_rfl) ?_ _
       refine ends_normal ?_
       exact ⟨Dy2, rfl, hSy2⟩
     · skip
       refine wpOp_plain rfl rfl (fun K2 hK2 => ?_)
       have hmk : (Instr.buildSlice 120 1 #[(0, .int .u8 (b.toNat : Int))]).run Tryz.prog w5 = .ok (.slice (some ⟨w5.heap.size, 0, none⟩) 1 1) (w5.alloc (.cells #[.int .u8 (b.toNat : Int)] 5)) := by kernel_rfl
       refine wp_res_gen (.slice (some ⟨w5.heap.size, 0, none⟩) 1 1) (w1 := w5.alloc (.cells #[.int .u8 (b.toNat : Int)] 5)) (by go_simp) ?_
       refine hK2 _ _ ?_
       clear hK2 K2 hmk
       simp only [Act.put, List.setIfInBounds_toArray, List.set_cons_zero, List.set_cons_succ]
       have ry3 := Row.new w5 5 #[.int .u8 (b.toNat : Int)]
       have hSy3 := St.alloc hS5 (.cells #[.int .u8 (b.toNat : Int)] 5)
       generalize w5.alloc (.cells #[.int .u8 (b.toNat : Int)] 5) = y3 at ry3 hSy3 ⊢
       generalize w5.heap.size = Dy3 at ry3 ⊢
       refine ⟨hSy3, ?_⟩
       refine wpAnyH_all (rs := [4, 12]) (by kernel_rfl) (by simp) (fun i hi => ?_)
       simp only [List.mem_cons, List.not_mem_nil, or_false] at hi
       rcases hi with rfl | rfl
       · skip
         refine wpOp_plain rfl rfl (fun K2 hK2 => ?_)
         refine wp_call_gen 91 #[.int .u64 (dd.length : Int)] (w1 := y3) (by go_simp) ((lebL_ref dd.length (by omega) y3).mono ?_)
         rintro e y4 ⟨rfl, bb⟩
         refine ⟨_, rfl, ?_⟩
         refine hK2 _ _ ?_
         clear hK2 K2
         simp only [Act.put, List.setIfInBounds_toArray, List.set_cons_zero, List.set_cons_succ]
         have hSy4 := stS.go hSy3 bb
         have ry4 := ry3.below bb ry3.lt
         clear bb
         refine ⟨hSy4, ?_⟩
         (refine takeH (i := 5) (v := .string ⟨L1.toArray⟩) rfl (by kernel_rfl) (by kernel_rfl) (by kernel_rfl) (fun _ _ _ h => h) (yields_val rfl (fun W hW => by (go_simp))) (by assumption) ?_; simp only [Act.put, List.setIfInBounds_toArray, List.set_cons_zero, List.set_cons_succ])
         (refine takeH (i := 7) (v := .string ⟨L2.toArray⟩) rfl (by kernel_rfl) (by kernel_rfl) (by kernel_rfl) (fun _ _ _ h => h) (yields_val rfl (fun W hW => by (go_simp))) (by assumption) ?_; simp only [Act.put, List.setIfInBounds_toArray, List.set_cons_zero, List.set_cons_succ])
         (refine wpAnyH_all (rs := [12]) (by kernel_rfl) (by simp) (fun i hi => ?_); obtain rfl : i = 12 := by simpa using hi)
         refine wpOp_plain rfl rfl (fun K2 hK2 => ?_)
         refine wp_res_gen (.string ⟨#[b]⟩) (w1 := y4) (by have := hcv _ _ ry4; go_simp) ?_
         refine hK2 _ _ ?_
         clear hK2 K2
         simp only [Act.put, List.setIfInBounds_toArray, List.set_cons_zero, List.set_cons_succ]
         refine ⟨hSy4, ?_⟩
         (refine takeH (i := 13) (v := .string ⟨L3.toArray⟩) rfl (by kernel_rfl) (by kernel_rfl) (by kernel_rfl) (fun _ _ _ h => h) (yields_val rfl (fun W hW => by (go_simp))) (by assumption) ?_; simp only [Act.put, List.setIfInBounds_toArray, List.set_cons_zero, List.set_cons_succ])
         (refine takeH (i := 14) (v := .string ⟨L3.toArray⟩) rfl (by kernel_rfl) (by kernel_rfl) (by kernel_rfl) (fun _ _ _ h => h) (yields_val rfl (fun W hW => by (rfl))) (by assumption) ?_; simp only [Act.put, List.setIfInBounds_toArray, List.set_cons_zero, List.set_cons_succ])
         refine wpAnyH_done (by kernel_rfl) ?_ _
         refine ends_normal ?_
         exact ⟨Dy3, rfl, hSy4⟩
       · skip
         refine wpOp_plain rfl rfl (fun K2 hK2 => ?_)
         refine wp_res_gen (.string ⟨#[b]⟩) (w1 := y3) (by have := hcv _ _ ry3; go_simp) ?_
         refine hK2 _ _ ?_
         clear hK2 K2
         simp only [Act.put, List.setIfInBounds_toArray, List.set_cons_zero, List.set_cons_succ]
         refine ⟨hSy3, ?_⟩
         (refine wpAnyH_all (rs := [4]) (by kernel_rfl) (by simp) (fun i hi => ?_); obtain rfl : i = 4 := by simpa using hi)
         refine wpOp_plain rfl rfl (fun K2 hK2 => ?_)
         refine wp_call_gen 91 #[.int .u64 (dd.length : Int)] (w1 := y3) (by go_simp) ((lebL_ref dd.length (by omega) y3).mono ?_)
         rintro e y5 ⟨rfl, bb⟩
         refine ⟨_, rfl, ?_⟩
         refine hK2 _ _ ?_
         clear hK2 K2
         simp only [Act.put, List.setIfInBounds_toArray, List.set_cons_zero, List.set_cons_succ]
         have hSy5 := stS.go hSy3 bb
         clear bb
         refine ⟨hSy5, ?_⟩
         (refine takeH (i := 5) (v := .string ⟨L1.toArray⟩) rfl (by kernel_rfl) (by kernel_rfl) (by kernel_rfl) (fun _ _ _ h => h) (yields_val rfl (fun W hW => by (go_simp))) (by assumption) ?_; simp only [Act.put, List.setIfInBounds_toArray, List.set_cons_zero, List.set_cons_succ])
         (refine takeH (i := 7) (v := .string ⟨L2.toArray⟩) rfl (by kernel_rfl) (by kernel_rfl) (by kernel_rfl) (fun _ _ _ h => h) (yields_val rfl (fun W hW => by (go_simp))) (by assumption) ?_; simp only [Act.put, List.setIfInBounds_toArray, List.set_cons_zero, List.set_cons_succ])
         (refine takeH (i := 13) (v := .string ⟨L3.toArray⟩) rfl (by kernel_rfl) (by kernel_rfl) (by kernel_rfl) (fun _ _ _ h => h) (yields_val rfl (fun W hW => by (go_simp))) (by assumption) ?_; simp only [Act.put, List.setIfInBounds_toArray, List.set_cons_zero, List.set_cons_succ])
         (refine takeH (i := 14) (v := .string ⟨L3.toArray⟩) rfl (by kernel_rfl) (by kernel_rfl) (by kernel_rfl) (fun _ _ _ h => h) (yields_val rfl (fun W hW => by (rfl))) (by assumption) ?_; simp only [Act.put, List.setIfInBounds_toArray, List.set_cons_zero, List.set_cons_succ])
         refine wpAnyH_done (by kernel_rfl) ?_ _
         refine ends_normal ?_
         exact ⟨Dy3, rfl, hSy5⟩
    case cont =>
     clear hS4 hc1 hs1 ht1 hc2 hs2 ht2 hc3 hs3 ht3 hcv hw8 hwd hll hdsz hdl
     rintro D w6 hS6
     have c3 := (T0.out _ hS6).cellv (i := 3) (v := .int .i64 x.m.verdict) rfl
     by_cases h0 : x.m.verdict = 0
     · have hr0 : restM x.m = [] := if_pos h0
       have HRn : Hid (L3 = lebL n ++ (ms.take (k + 1)).flatMap encMt) := Lib.hid (by rw [flat_snoc Hxm.out, ← List.append_assoc, ← HR.out, HL3.out, encMt, hr0])
       rw [h0] at c3
       clear hr0
       go_wp2_with fail
       go_roundw
       case rel => exact ⟨k + 1, L3, rfl, by go_num, by omega, Hn2, HRn, T4.out _ hS6⟩
       case measure => simp [intOf]; omega
     obtain ⟨g1, g2, g3, g4, g5, g6⟩ := Htold.out h0
     have hr0 : restM x.m = tailM x.m := if_neg h0
     obtain ⟨tn, htn⟩ := Int.eq_ofNat_of_zero_le g2
     obtain ⟨b, hbq⟩ : ∃ b, b = UInt8.ofNat x.m.kind.toNat := ⟨_, rfl⟩
     have hw8 : IntKind.u8.wrap x.m.kind = (b.toNat : Int) := by rw [hbq, IntKind.wrap_u8, u8_small g5 (by omega)]; omega
     have hcv := conv_one b
     have hwt : IntKind.u64.wrap (tn : Int) = (tn : Int) := by rw [IntKind.wrap_u64]; omega
     have htb : tn ≤ 19 := by omega
     have hb0 : (x.m.verdict != 0) = true := by simpa using h0
     have hll := lebL_len tn
     have hzl := zz_len x.m.value
     obtain ⟨L4, hL4⟩ : ∃ L4, L4 = L3 ++ lebL tn := ⟨_, rfl⟩
     obtain ⟨L5, hL5⟩ : ∃ L5, L5 = L4 ++ [b] := ⟨_, rfl⟩
     obtain ⟨L6, hL6⟩ : ∃ L6, L6 = L5 ++ zz x.m.value := ⟨_, rfl⟩
     obtain ⟨L7, hL7⟩ : ∃ L7, L7 = L6 ++ x.m.digest := ⟨_, rfl⟩
     have l4 : L4.length ≤ 780342 := by rw [hL4, List.length_append]; omega
     have l5 : L5.length ≤ 780343 := by rw [hL5, List.length_append]; simp; omega
     have l6 : L6.length ≤ 780353 := by rw [hL6, List.length_append]; omega
     have hc4 := str_cat2 L3 (lebL tn)
     rw [← hL4] at hc4
     have hs4 : ¬ (9223372036854775807 < (L3.length : Int) + ((lebL tn).length : Int)) := by omega
     have ht4 : ¬ (9223372036854775807 < L3.length + (lebL tn).length) := by omega
     have hc5 := str_cat2 L4 [b]
     rw [← hL5] at hc5
     have hs5 : ¬ (9223372036854775807 < (L4.length : Int) + 1) := by omega
     have ht5 : ¬ (9223372036854775807 < L4.length + 1) := by omega
     have hc6 := str_cat2 L5 (zz x.m.value)
     rw [← hL6] at hc6
     have hs6 : ¬ (9223372036854775807 < (L5.length : Int) + ((zz x.m.value).length : Int)) := by omega
     have ht6 : ¬ (9223372036854775807 < L5.length + (zz x.m.value).length) := by omega
     have hc7 := str_cat2 L6 x.m.digest
     rw [← hL7] at hc7
     have hs7 : ¬ (9223372036854775807 < (L6.length : Int) + (x.m.digest.length : Int)) := by omega
     have ht7 : ¬ (9223372036854775807 < L6.length + x.m.digest.length) := by omega
     have hq7 : L6.length ≤ 9223372036854775775 := by omega
     have HRn : Hid (L7 = lebL n ++ (ms.take (k + 1)).flatMap encMt) := Lib.hid (by rw [flat_snoc Hxm.out, ← List.append_assoc, ← HR.out, hL7, hL6, hL5, hL4, HL3.out, encMt, hr0, tailM, htn, hbq]; simp)
     clear hL4 hL5 hL6 hL7 hr0 h0 g1 g2 g3 g5 g6 hbq
     go_wp2_with fail
     clear c3
     apply wp_cutG1 (F := S)
     case hreg =>
      refine wp_region_held (S := S) (by kernel_rfl) ?_
      simp only [List.size_toArray, List.length_cons, List.length_nil, Nat.reduceAdd, Array.replicate_succ, Array.replicate_zero, List.push_toArray, List.nil_append, List.cons_append]
      show wpAnyH _ _ _ _ _ _ _ _ (w6).drew
      replace hS6 := St.drew hS6
      generalize (w6).drew = w7 at hS6 ⊢
      have hS7 := hS6
      (refine takeH (i := 0) (v := .string ⟨L3.toArray⟩) rfl (by kernel_rfl) (by kernel_rfl) (by kernel_rfl) (fun _ _ _ h => h) (yields_val rfl (fun W hW => by (rfl))) (by assumption) ?_; simp only [Act.put, List.setIfInBounds_toArray, List.set_cons_zero, List.set_cons_succ])
      (refine takeH (i := 1) (v := .pointer (some ⟨G, 4, none⟩)) rfl (by kernel_rfl) (by kernel_rfl) (by kernel_rfl) (fun _ _ _ h => h) (yields_val rfl (fun W hW => by (go_simp))) (by assumption) ?_; simp only [Act.put, List.setIfInBounds_toArray, List.set_cons_zero, List.set_cons_succ])
      (refine takeH (i := 2) (v := .int .i64 (tn : Int)) rfl (by kernel_rfl) (by kernel_rfl) (by kernel_rfl) (fun _ _ _ h => h) (yields_val rfl (fun W hW => by ((have h := (T0.out W hW).cellv (i := 4) (v := .int .i64 x.m.test) rfl; rw [htn] at h; go_simp)))) (by assumption) ?_; simp only [Act.put, List.setIfInBounds_toArray, List.set_cons_zero, List.set_cons_succ])
      (refine takeH (i := 3) (v := .int .u64 (tn : Int)) rfl (by kernel_rfl) (by kernel_rfl) (by kernel_rfl) (fun _ _ _ h => h) (yields_val rfl (fun W hW => by (go_simp))) (by assumption) ?_; simp only [Act.put, List.setIfInBounds_toArray, List.set_cons_zero, List.set_cons_succ])
      (refine takeH (i := 6) (v := .pointer (some ⟨G, 5, none⟩)) rfl (by kernel_rfl) (by kernel_rfl) (by kernel_rfl) (fun _ _ _ h => h) (yields_val rfl (fun W hW => by (go_simp))) (by assumption) ?_; simp only [Act.put, List.setIfInBounds_toArray, List.set_cons_zero, List.set_cons_succ])
      (refine takeH (i := 7) (v := .pointer (some ⟨G, 5, none⟩)) rfl (by kernel_rfl) (by kernel_rfl) (by kernel_rfl) (fun _ _ _ h => h) (yields_val rfl (fun W hW => by (go_simp))) (by assumption) ?_; simp only [Act.put, List.setIfInBounds_toArray, List.set_cons_zero, List.set_cons_succ])
      (refine takeH (i := 8) (v := .int .i64 x.m.kind) rfl (by kernel_rfl) (by kernel_rfl) (by kernel_rfl) (fun _ _ _ h => h) (yields_val rfl (fun W hW => by ((have h := (T0.out W hW).cellv (i := 5) (v := .int .i64 x.m.kind) rfl; go_simp)))) (by assumption) ?_; simp only [Act.put, List.setIfInBounds_toArray, List.set_cons_zero, List.set_cons_succ])
      (refine takeH (i := 9) (v := .int .u8 (b.toNat : Int)) rfl (by kernel_rfl) (by kernel_rfl) (by kernel_rfl) (fun _ _ _ h => h) (yields_val rfl (fun W hW => by (go_simp))) (by assumption) ?_; simp only [Act.put, List.setIfInBounds_toArray, List.set_cons_zero, List.set_cons_succ])
      (refine takeH (i := 13) (v := .pointer (some ⟨G, 5, none⟩)) rfl (by kernel_rfl) (by kernel_rfl) (by kernel_rfl) (fun _ _ _ h => h) (yields_val rfl (fun W hW => by (go_simp))) (by assumption) ?_; simp only [Act.put, List.setIfInBounds_toArray, List.set_cons_zero, List.set_cons_succ])
      (refine takeH (i := 14) (v := .pointer (some ⟨G, 6, none⟩)) rfl (by kernel_rfl) (by kernel_rfl) (by kernel_rfl) (fun _ _ _ h => h) (yields_val rfl (fun W hW => by (go_simp))) (by assumption) ?_; simp only [Act.put, List.setIfInBounds_toArray, List.set_cons_zero, List.set_cons_succ])
      (refine takeH (i := 15) (v := .int .i64 x.m.value) rfl (by kernel_rfl) (by kernel_rfl) (by kernel_rfl) (fun _ _ _ h => h) (yields_val rfl (fun W hW => by ((have h := (T0.out W hW).cellv (i := 6) (v := .int .i64 x.m.value) rfl; go_simp)))) (by assumption) ?_; simp only [Act.put, List.setIfInBounds_toArray, List.set_cons_zero, List.set_cons_succ])
      (refine takeH (i := 18) (v := .pointer (some ⟨G, 7, none⟩)) rfl (by kernel_rfl) (by kernel_rfl) (by kernel_rfl) (fun _ _ _ h => h) (yields_val rfl (fun W hW => by (go_simp))) (by assumption) ?_; simp only [Act.put, List.setIfInBounds_toArray, List.set_cons_zero, List.set_cons_succ])
      (refine takeH (i := 19) (v := .string ⟨x.m.digest.toArray⟩) rfl (by kernel_rfl) (by kernel_rfl) (by kernel_rfl) (fun _ _ _ h => h) (yields_val rfl (fun W hW => by ((have h := (T0.out W hW).cellv (i := 7) (v := .string ⟨x.m.digest.toArray⟩) rfl; go_simp)))) (by assumption) ?_; simp only [Act.put, List.setIfInBounds_toArray, List.set_cons_zero, List.set_cons_succ])
      refine wpAnyH_all (rs := [4, 10]) (by kernel_rfl) (by simp) (fun i hi => ?_)
      simp only [List.mem_cons, List.not_mem_nil, or_false] at hi
      rcases hi with rfl | rfl
      · skip
        refine wpOp_plain rfl rfl (fun K2 hK2 => ?_)
        refine wp_call_gen 91 #[.int .u64 (tn : Int)] (w1 := w7) (by go_simp) ((lebL_ref tn (by omega) w7).mono ?_)
        rintro e z1 ⟨rfl, bb⟩
        refine ⟨_, rfl, ?_⟩
        refine hK2 _ _ ?_
        clear hK2 K2
        simp only [Act.put, List.setIfInBounds_toArray, List.set_cons_zero, List.set_cons_succ]
        have hSz1 := stS.go hS7 bb
        clear bb
        refine ⟨hSz1, ?_⟩
        (refine takeH (i := 5) (v := .string ⟨L4.toArray⟩) rfl (by kernel_rfl) (by kernel_rfl) (by kernel_rfl) (fun _ _ _ h => h) (yields_val rfl (fun W hW => by (go_simp))) (by assumption) ?_; simp only [Act.put, List.setIfInBounds_toArray, List.set_cons_zero, List.set_cons_succ])
        refine wpAnyH_all (rs := [10, 16]) (by kernel_rfl) (by simp) (fun i hi => ?_)
        simp only [List.mem_cons, List.not_mem_nil, or_false] at hi
        rcases hi with rfl | rfl
        · skip
          refine wpOp_plain rfl rfl (fun K2 hK2 => ?_)
          have hmk : (Instr.buildSlice 120 1 #[(0, .int .u8 (b.toNat : Int))]).run Tryz.prog z1 = .ok (.slice (some ⟨z1.heap.size, 0, none⟩) 1 1) (z1.alloc (.cells #[.int .u8 (b.toNat : Int)] 5)) := by kernel_rfl
          refine wp_res_gen (.slice (some ⟨z1.heap.size, 0, none⟩) 1 1) (w1 := z1.alloc (.cells #[.int .u8 (b.toNat : Int)] 5)) (by go_simp) ?_
          refine hK2 _ _ ?_
          clear hK2 K2 hmk
          simp only [Act.put, List.setIfInBounds_toArray, List.set_cons_zero, List.set_cons_succ]
          have rz2 := Row.new z1 5 #[.int .u8 (b.toNat : Int)]
          have hSz2 := St.alloc hSz1 (.cells #[.int .u8 (b.toNat : Int)] 5)
          generalize z1.alloc (.cells #[.int .u8 (b.toNat : Int)] 5) = z2 at rz2 hSz2 ⊢
          generalize z1.heap.size = Dz2 at rz2 ⊢
          refine ⟨hSz2, ?_⟩
          refine wpAnyH_all (rs := [11, 16]) (by kernel_rfl) (by simp) (fun i hi => ?_)
          simp only [List.mem_cons, List.not_mem_nil, or_false] at hi
          rcases hi with rfl | rfl
          · skip
            refine wpOp_plain rfl rfl (fun K2 hK2 => ?_)
            refine wp_res_gen (.string ⟨#[b]⟩) (w1 := z2) (by have := hcv _ _ rz2; go_simp) ?_
            refine hK2 _ _ ?_
            clear hK2 K2
            simp only [Act.put, List.setIfInBounds_toArray, List.set_cons_zero, List.set_cons_succ]
            refine ⟨hSz2, ?_⟩
            (refine takeH (i := 12) (v := .string ⟨L5.toArray⟩) rfl (by kernel_rfl) (by kernel_rfl) (by kernel_rfl) (fun _ _ _ h => h) (yields_val rfl (fun W hW => by (go_simp))) (by assumption) ?_; simp only [Act.put, List.setIfInBounds_toArray, List.set_cons_zero, List.set_cons_succ])
            (refine wpAnyH_all (rs := [16]) (by kernel_rfl) (by simp) (fun i hi => ?_); obtain rfl : i = 16 := by simpa using hi)
            refine wpOp_plain rfl rfl (fun K2 hK2 => ?_)
            refine wp_call_gen 93 #[.int .i64 x.m.value] (w1 := z2) (by go_simp) ((refZPut_any x.m.value Hv.out z2).mono ?_)
            rintro e z3 ⟨rfl, bb⟩
            refine ⟨_, rfl, ?_⟩
            refine hK2 _ _ ?_
            clear hK2 K2
            simp only [Act.put, List.setIfInBounds_toArray, List.set_cons_zero, List.set_cons_succ]
            have hSz3 := stS.go hSz2 bb
            clear bb
            refine ⟨hSz3, ?_⟩
            (refine takeH (i := 17) (v := .string ⟨L6.toArray⟩) rfl (by kernel_rfl) (by kernel_rfl) (by kernel_rfl) (fun _ _ _ h => h) (yields_val rfl (fun W hW => by (go_simp))) (by assumption) ?_; simp only [Act.put, List.setIfInBounds_toArray, List.set_cons_zero, List.set_cons_succ])
            (refine takeH (i := 20) (v := .string ⟨L7.toArray⟩) rfl (by kernel_rfl) (by kernel_rfl) (by kernel_rfl) (fun _ _ _ h => h) (yields_val rfl (fun W hW => by (go_simp))) (by assumption) ?_; simp only [Act.put, List.setIfInBounds_toArray, List.set_cons_zero, List.set_cons_succ])
            (refine takeH (i := 21) (v := .string ⟨L7.toArray⟩) rfl (by kernel_rfl) (by kernel_rfl) (by kernel_rfl) (fun _ _ _ h => h) (yields_val rfl (fun W hW => by (rfl))) (by assumption) ?_; simp only [Act.put, List.setIfInBounds_toArray, List.set_cons_zero, List.set_cons_succ])
            refine wpAnyH_done (by kernel_rfl) ?_ _
            refine ends_normal ?_
            exact ⟨Dz2, rfl, hSz3⟩
          · skip
            refine wpOp_plain rfl rfl (fun K2 hK2 => ?_)
            refine wp_call_gen 93 #[.int .i64 x.m.value] (w1 := z2) (by go_simp) ((refZPut_any x.m.value Hv.out z2).mono ?_)
            rintro e z4 ⟨rfl, bb⟩
            refine ⟨_, rfl, ?_⟩
            refine hK2 _ _ ?_
            clear hK2 K2
            simp only [Act.put, List.setIfInBounds_toArray, List.set_cons_zero, List.set_cons_succ]
            have hSz4 := stS.go hSz2 bb
            have rz4 := rz2.below bb rz2.lt
            clear bb
            refine ⟨hSz4, ?_⟩
            (refine wpAnyH_all (rs := [11]) (by kernel_rfl) (by simp) (fun i hi => ?_); obtain rfl : i = 11 := by simpa using hi)
            refine wpOp_plain rfl rfl (fun K2 hK2 => ?_)
            refine wp_res_gen (.string ⟨#[b]⟩) (w1 := z4) (by have := hcv _ _ rz4; go_simp) ?_
            refine hK2 _ _ ?_
            clear hK2 K2
            simp only [Act.put, List.setIfInBounds_toArray, List.set_cons_zero, List.set_cons_succ]
            refine ⟨hSz4, ?_⟩
            (refine takeH (i := 12) (v := .string ⟨L5.toArray⟩) rfl (by kernel_rfl) (by kernel_rfl) (by kernel_rfl) (fun _ _ _ h => h) (yields_val rfl (fun W hW => by (go_simp))) (by assumption) ?_; simp only [Act.put, List.setIfInBounds_toArray, List.set_cons_zero, List.set_cons_succ])
            (refine takeH (i := 17) (v := .string ⟨L6.toArray⟩) rfl (by kernel_rfl) (by kernel_rfl) (by kernel_rfl) (fun _ _ _ h => h) (yields_val rfl (fun W hW => by (go_simp))) (by assumption) ?_; simp only [Act.put, List.setIfInBounds_toArray, List.set_cons_zero, List.set_cons_succ])
            (refine takeH (i := 20) (v := .string ⟨L7.toArray⟩) rfl (by kernel_rfl) (by kernel_rfl) (by kernel_rfl) (fun _ _ _ h => h) (yields_val rfl (fun W hW => by (go_simp))) (by assumption) ?_; simp only [Act.put, List.setIfInBounds_toArray, List.set_cons_zero, List.set_cons_succ])
            (refine takeH (i := 21) (v := .string ⟨L7.toArray⟩) rfl (by kernel_rfl) (by kernel_rfl) (by kernel_rfl) (fun _ _ _ h => h) (yields_val rfl (fun W hW => by (rfl))) (by assumption) ?_; simp only [Act.put, List.setIfInBounds_toArray, List.set_cons_zero, List.set_cons_succ])
            refine wpAnyH_done (by kernel_rfl) ?_ _
            refine ends_normal ?_
            exact ⟨Dz2, rfl, hSz4⟩
        · skip
          refine wpOp_plain rfl rfl (fun K2 hK2 => ?_)
          refine wp_call_gen 93 #[.int .i64 x.m.value] (w1 := z1) (by go_simp) ((refZPut_any x.m.value Hv.out z1).mono ?_)
          rintro e z5 ⟨rfl, bb⟩
          refine ⟨_, rfl, ?_⟩
          refine hK2 _ _ ?_
          clear hK2 K2
          simp only [Act.put, List.setIfInBounds_toArray, List.set_cons_zero, List.set_cons_succ]
          have hSz5 := stS.go hSz1 bb
          clear bb
          refine ⟨hSz5, ?_⟩
          (refine wpAnyH_all (rs := [10]) (by kernel_rfl) (by simp) (fun i hi => ?_); obtain rfl : i = 10 := by simpa using hi)
          refine wpOp_plain rfl rfl (fun K2 hK2 => ?_)
          have hmk : (Instr.buildSlice 120 1 #[(0, .int .u8 (b.toNat : Int))]).run Tryz.prog z5 = .ok (.slice (some ⟨z5.heap.size, 0, none⟩) 1 1) (z5.alloc (.cells #[.int .u8 (b.toNat : Int)] 5)) := by kernel_rfl
          refine wp_res_gen (.slice (some ⟨z5.heap.size, 0, none⟩) 1 1) (w1 := z5.alloc (.cells #[.int .u8 (b.toNat : Int)] 5)) (by go_simp) ?_
          refine hK2 _ _ ?_
          clear hK2 K2 hmk
          simp only [Act.put, List.setIfInBounds_toArray, List.set_cons_zero, List.set_cons_succ]
          have rz6 := Row.new z5 5 #[.int .u8 (b.toNat : Int)]
          have hSz6 := St.alloc hSz5 (.cells #[.int .u8 (b.toNat : Int)] 5)
          generalize z5.alloc (.cells #[.int .u8 (b.toNat : Int)] 5) = z6 at rz6 hSz6 ⊢
          generalize z5.heap.size = Dz6 at rz6 ⊢
          refine ⟨hSz6, ?_⟩
          (refine wpAnyH_all (rs := [11]) (by kernel_rfl) (by simp) (fun i hi => ?_); obtain rfl : i = 11 := by simpa using hi)
          refine wpOp_plain rfl rfl (fun K2 hK2 => ?_)
          refine wp_res_gen (.string ⟨#[b]⟩) (w1 := z6) (by have := hcv _ _ rz6; go_simp) ?_
          refine hK2 _ _ ?_
          clear hK2 K2
          simp only [Act.put, List.setIfInBounds_toArray, List.set_cons_zero, List.set_cons_succ]
          refine ⟨hSz6, ?_⟩
          (refine takeH (i := 12) (v := .string ⟨L5.toArray⟩) rfl (by kernel_rfl) (by kernel_rfl) (by kernel_rfl) (fun _ _ _ h => h) (yields_val rfl (fun W hW => by (go_simp))) (by assumption) ?_; simp only [Act.put, List.setIfInBounds_toArray, List.set_cons_zero, List.set_cons_succ])
          (refine takeH (i := 17) (v := .string ⟨L6.toArray⟩) rfl (by kernel_rfl) (by kernel_rfl) (by kernel_rfl) (fun _ _ _ h => h) (yields_val rfl (fun W hW => by (go_simp))) (by assumption) ?_; simp only [Act.put, List.setIfInBounds_toArray, List.set_cons_zero, List.set_cons_succ])
          (refine takeH (i := 20) (v := .string ⟨L7.toArray⟩) rfl (by kernel_rfl) (by kernel_rfl) (by kernel_rfl) (fun _ _ _ h => h) (yields_val rfl (fun W hW => by (go_simp))) (by assumption) ?_; simp only [Act.put, List.setIfInBounds_toArray, List.set_cons_zero, List.set_cons_succ])
          (refine takeH (i := 21) (v := .string ⟨L7.toArray⟩) rfl (by kernel_rfl) (by kernel_rfl) (by kernel_rfl) (fun _ _ _ h => h) (yields_val rfl (fun W hW => by (rfl))) (by assumption) ?_; simp only [Act.put, List.setIfInBounds_toArray, List.set_cons_zero, List.set_cons_succ])
          refine wpAnyH_done (by kernel_rfl) ?_ _
          refine ends_normal ?_
          exact ⟨Dz6, rfl, hSz6⟩
      · skip
        refine wpOp_plain rfl rfl (fun K2 hK2 => ?_)
        have hmk : (Instr.buildSlice 120 1 #[(0, .int .u8 (b.toNat : Int))]).run Tryz.prog w7 = .ok (.slice (some ⟨w7.heap.size, 0, none⟩) 1 1) (w7.alloc (.cells #[.int .u8 (b.toNat : Int)] 5)) := by kernel_rfl
        refine wp_res_gen (.slice (some ⟨w7.heap.size, 0, none⟩) 1 1) (w1 := w7.alloc (.cells #[.int .u8 (b.toNat : Int)] 5)) (by go_simp) ?_
        refine hK2 _ _ ?_
        clear hK2 K2 hmk
        simp only [Act.put, List.setIfInBounds_toArray, List.set_cons_zero, List.set_cons_succ]
        have rz7 := Row.new w7 5 #[.int .u8 (b.toNat : Int)]
        have hSz7 := St.alloc hS7 (.cells #[.int .u8 (b.toNat : Int)] 5)
        generalize w7.alloc (.cells #[.int .u8 (b.toNat : Int)] 5) = z7 at rz7 hSz7 ⊢
        generalize w7.heap.size = Dz7 at rz7 ⊢
        refine ⟨hSz7, ?_⟩
        refine wpAnyH_all (rs := [4, 11]) (by kernel_rfl) (by simp) (fun i hi => ?_)
        simp only [List.mem_cons, List.not_mem_nil, or_false] at hi
        rcases hi with rfl | rfl
        · skip
          refine wpOp_plain rfl rfl (fun K2 hK2 => ?_)
          refine wp_call_gen 91 #[.int .u64 (tn : Int)] (w1 := z7) (by go_simp) ((lebL_ref tn (by omega) z7).mono ?_)
          rintro e z8 ⟨rfl, bb⟩
          refine ⟨_, rfl, ?_⟩
          refine hK2 _ _ ?_
          clear hK2 K2
          simp only [Act.put, List.setIfInBounds_toArray, List.set_cons_zero, List.set_cons_succ]
          have hSz8 := stS.go hSz7 bb
          have rz8 := rz7.below bb rz7.lt
          clear bb
          refine ⟨hSz8, ?_⟩
          (refine takeH (i := 5) (v := .string ⟨L4.toArray⟩) rfl (by kernel_rfl) (by kernel_rfl) (by kernel_rfl) (fun _ _ _ h => h) (yields_val rfl (fun W hW => by (go_simp))) (by assumption) ?_; simp only [Act.put, List.setIfInBounds_toArray, List.set_cons_zero, List.set_cons_succ])
          refine wpAnyH_all (rs := [11, 16]) (by kernel_rfl) (by simp) (fun i hi => ?_)
          simp only [List.mem_cons, List.not_mem_nil, or_false] at hi
          rcases hi with rfl | rfl
          · skip
            refine wpOp_plain rfl rfl (fun K2 hK2 => ?_)
            refine wp_res_gen (.string ⟨#[b]⟩) (w1 := z8) (by have := hcv _ _ rz8; go_simp) ?_
            refine hK2 _ _ ?_
            clear hK2 K2
            simp only [Act.put, List.setIfInBounds_toArray, List.set_cons_zero, List.set_cons_succ]
            refine ⟨hSz8, ?_⟩
            (refine takeH (i := 12) (v := .string ⟨L5.toArray⟩) rfl (by kernel_rfl) (by kernel_rfl) (by kernel_rfl) (fun _ _ _ h => h) (yields_val rfl (fun W hW => by (go_simp))) (by assumption) ?_; simp only [Act.put, List.setIfInBounds_toArray, List.set_cons_zero, List.set_cons_succ])
            (refine wpAnyH_all (rs := [16]) (by kernel_rfl) (by simp) (fun i hi => ?_); obtain rfl : i = 16 := by simpa using hi)
            refine wpOp_plain rfl rfl (fun K2 hK2 => ?_)
            refine wp_call_gen 93 #[.int .i64 x.m.value] (w1 := z8) (by go_simp) ((refZPut_any x.m.value Hv.out z8).mono ?_)
            rintro e z9 ⟨rfl, bb⟩
            refine ⟨_, rfl, ?_⟩
            refine hK2 _ _ ?_
            clear hK2 K2
            simp only [Act.put, List.setIfInBounds_toArray, List.set_cons_zero, List.set_cons_succ]
            have hSz9 := stS.go hSz8 bb
            clear bb
            refine ⟨hSz9, ?_⟩
            (refine takeH (i := 17) (v := .string ⟨L6.toArray⟩) rfl (by kernel_rfl) (by kernel_rfl) (by kernel_rfl) (fun _ _ _ h => h) (yields_val rfl (fun W hW => by (go_simp))) (by assumption) ?_; simp only [Act.put, List.setIfInBounds_toArray, List.set_cons_zero, List.set_cons_succ])
            (refine takeH (i := 20) (v := .string ⟨L7.toArray⟩) rfl (by kernel_rfl) (by kernel_rfl) (by kernel_rfl) (fun _ _ _ h => h) (yields_val rfl (fun W hW => by (go_simp))) (by assumption) ?_; simp only [Act.put, List.setIfInBounds_toArray, List.set_cons_zero, List.set_cons_succ])
            (refine takeH (i := 21) (v := .string ⟨L7.toArray⟩) rfl (by kernel_rfl) (by kernel_rfl) (by kernel_rfl) (fun _ _ _ h => h) (yields_val rfl (fun W hW => by (rfl))) (by assumption) ?_; simp only [Act.put, List.setIfInBounds_toArray, List.set_cons_zero, List.set_cons_succ])
            refine wpAnyH_done (by kernel_rfl) ?_ _
            refine ends_normal ?_
            exact ⟨Dz7, rfl, hSz9⟩
          · skip
            refine wpOp_plain rfl rfl (fun K2 hK2 => ?_)
            refine wp_call_gen 93 #[.int .i64 x.m.value] (w1 := z8) (by go_simp) ((refZPut_any x.m.value Hv.out z8).mono ?_)
            rintro e z10 ⟨rfl, bb⟩
            refine ⟨_, rfl, ?_⟩
            refine hK2 _ _ ?_
            clear hK2 K2
            simp only [Act.put, List.setIfInBounds_toArray, List.set_cons_zero, List.set_cons_succ]
            have hSz10 := stS.go hSz8 bb
            have rz10 := rz8.below bb rz8.lt
            clear bb
            refine ⟨hSz10, ?_⟩
            (refine wpAnyH_all (rs := [11]) (by kernel_rfl) (by simp) (fun i hi => ?_); obtain rfl : i = 11 := by simpa using hi)
            refine wpOp_plain rfl rfl (fun K2 hK2 => ?_)
            refine wp_res_gen (.string ⟨#[b]⟩) (w1 := z10) (by have := hcv _ _ rz10; go_simp) ?_
            refine hK2 _ _ ?_
            clear hK2 K2
            simp only [Act.put, List.setIfInBounds_toArray, List.set_cons_zero, List.set_cons_succ]
            refine ⟨hSz10, ?_⟩
            (refine takeH (i := 12) (v := .string ⟨L5.toArray⟩) rfl (by kernel_rfl) (by kernel_rfl) (by kernel_rfl) (fun _ _ _ h => h) (yields_val rfl (fun W hW => by (go_simp))) (by assumption) ?_; simp only [Act.put, List.setIfInBounds_toArray, List.set_cons_zero, List.set_cons_succ])
            (refine takeH (i := 17) (v := .string ⟨L6.toArray⟩) rfl (by kernel_rfl) (by kernel_rfl) (by kernel_rfl) (fun _ _ _ h => h) (yields_val rfl (fun W hW => by (go_simp))) (by assumption) ?_; simp only [Act.put, List.setIfInBounds_toArray, List.set_cons_zero, List.set_cons_succ])
            (refine takeH (i := 20) (v := .string ⟨L7.toArray⟩) rfl (by kernel_rfl) (by kernel_rfl) (by kernel_rfl) (fun _ _ _ h => h) (yields_val rfl (fun W hW => by (go_simp))) (by assumption) ?_; simp only [Act.put, List.setIfInBounds_toArray, List.set_cons_zero, List.set_cons_succ])
            (refine takeH (i := 21) (v := .string ⟨L7.toArray⟩) rfl (by kernel_rfl) (by kernel_rfl) (by kernel_rfl) (fun _ _ _ h => h) (yields_val rfl (fun W hW => by (rfl))) (by assumption) ?_; simp only [Act.put, List.setIfInBounds_toArray, List.set_cons_zero, List.set_cons_succ])
            refine wpAnyH_done (by kernel_rfl) ?_ _
            refine ends_normal ?_
            exact ⟨Dz7, rfl, hSz10⟩
        · skip
          refine wpOp_plain rfl rfl (fun K2 hK2 => ?_)
          refine wp_res_gen (.string ⟨#[b]⟩) (w1 := z7) (by have := hcv _ _ rz7; go_simp) ?_
          refine hK2 _ _ ?_
          clear hK2 K2
          simp only [Act.put, List.setIfInBounds_toArray, List.set_cons_zero, List.set_cons_succ]
          refine ⟨hSz7, ?_⟩
          (refine wpAnyH_all (rs := [4]) (by kernel_rfl) (by simp) (fun i hi => ?_); obtain rfl : i = 4 := by simpa using hi)
          refine wpOp_plain rfl rfl (fun K2 hK2 => ?_)
          refine wp_call_gen 91 #[.int .u64 (tn : Int)] (w1 := z7) (by go_simp) ((lebL_ref tn (by omega) z7).mono ?_)
          rintro e z11 ⟨rfl, bb⟩
          refine ⟨_, rfl, ?_⟩
          refine hK2 _ _ ?_
          clear hK2 K2
          simp only [Act.put, List.setIfInBounds_toArray, List.set_cons_zero, List.set_cons_succ]
          have hSz11 := stS.go hSz7 bb
          clear bb
          refine ⟨hSz11, ?_⟩
          (refine takeH (i := 5) (v := .string ⟨L4.toArray⟩) rfl (by kernel_rfl) (by kernel_rfl) (by kernel_rfl) (fun _ _ _ h => h) (yields_val rfl (fun W hW => by (go_simp))) (by assumption) ?_; simp only [Act.put, List.setIfInBounds_toArray, List.set_cons_zero, List.set_cons_succ])
          (refine takeH (i := 12) (v := .string ⟨L5.toArray⟩) rfl (by kernel_rfl) (by kernel_rfl) (by kernel_rfl) (fun _ _ _ h => h) (yields_val rfl (fun W hW => by (go_simp))) (by assumption) ?_; simp only [Act.put, List.setIfInBounds_toArray, List.set_cons_zero, List.set_cons_succ])
          (refine wpAnyH_all (rs := [16]) (by kernel_rfl) (by simp) (fun i hi => ?_); obtain rfl : i = 16 := by simpa using hi)
          refine wpOp_plain rfl rfl (fun K2 hK2 => ?_)
          refine wp_call_gen 93 #[.int .i64 x.m.value] (w1 := z11) (by go_simp) ((refZPut_any x.m.value Hv.out z11).mono ?_)
          rintro e z12 ⟨rfl, bb⟩
          refine ⟨_, rfl, ?_⟩
          refine hK2 _ _ ?_
          clear hK2 K2
          simp only [Act.put, List.setIfInBounds_toArray, List.set_cons_zero, List.set_cons_succ]
          have hSz12 := stS.go hSz11 bb
          clear bb
          refine ⟨hSz12, ?_⟩
          (refine takeH (i := 17) (v := .string ⟨L6.toArray⟩) rfl (by kernel_rfl) (by kernel_rfl) (by kernel_rfl) (fun _ _ _ h => h) (yields_val rfl (fun W hW => by (go_simp))) (by assumption) ?_; simp only [Act.put, List.setIfInBounds_toArray, List.set_cons_zero, List.set_cons_succ])
          (refine takeH (i := 20) (v := .string ⟨L7.toArray⟩) rfl (by kernel_rfl) (by kernel_rfl) (by kernel_rfl) (fun _ _ _ h => h) (yields_val rfl (fun W hW => by (go_simp))) (by assumption) ?_; simp only [Act.put, List.setIfInBounds_toArray, List.set_cons_zero, List.set_cons_succ])
          (refine takeH (i := 21) (v := .string ⟨L7.toArray⟩) rfl (by kernel_rfl) (by kernel_rfl) (by kernel_rfl) (fun _ _ _ h => h) (yields_val rfl (fun W hW => by (rfl))) (by assumption) ?_; simp only [Act.put, List.setIfInBounds_toArray, List.set_cons_zero, List.set_cons_succ])
          refine wpAnyH_done (by kernel_rfl) ?_ _
          refine ends_normal ?_
          exact ⟨Dz7, rfl, hSz12⟩
     case cont =>
      clear hS6 hc4 hs4 ht4 hc5 hs5 ht5 hc6 hs6 ht6 hc7 hs7 ht7 hcv hw8 hwt hll hzl
      rintro D2 w8 hS8
      go_wp2_with fail
      go_roundw
      case rel => exact ⟨k + 1, L7, rfl, by go_num, by omega, Hn2, HRn, T4.out _ hS8⟩
      case measure => simp [intOf]; omega
  · obtain rfl : k = n := by omega
    have hall := Hall.out
    have ht : ms.take k = ms := List.take_of_length_le (by have := Hlen.out; omega)
    rw [ht] at hall HR
    have he : encMts ms = lebL k ++ ms.flatMap encMt := by rw [encMts, Hlen.out]
    obtain rfl : pd = (L0, 0) := (Hpd.out.trans (if_pos ⟨by have := Hlen.out; omega, hall⟩)).trans (by rw [he, ← HR.out])
    clear hlt hk ht hall he
    go_wp2_with fail
    try rw [Exit.noGoto_ret]
    go_ret2
    exact ⟨rfl, hb⟩
end Go.Proofs.YtcgglolckkeeiaaGreat
