/- Lemmas for DirectMutantsP. -/
import Derived.Test.YtdcmppdhdcjpfaaGreatZp13
import Derived.Test.YtdcmppdhdcjpfaaGreatZp19
import Derived.Test.YtdcmppdhdcjpfaaGreatZp2
import Derived.Test.YtdcmppdhdcjpfaaGreatZp7
import Derived.Test.YtdcmppdhdcjpfaaGreatZp3
import Derived.Test.YtdcmppdhdcjpfaaGreatZp4
import Derived.Test.YtdcmppdhdcjpfaaGreatZp1
import Derived.Maps.AppendAt
import Derived.Deep.Cut
set_option linter.unusedVariables false
set_option linter.unusedSimpArgs false
set_option maxRecDepth 100000
set_option maxHeartbeats 16000000
namespace Go.Proofs.YtdcmppdhdcjpfaaGreat
open Go.RowKit Go.Deep
theorem AaP (w : World) : Calls Tryz.prog 15 #[] w fun e w' => e = .returned (.bool true) ∧ Below w.heap.size w w' := by
 go_enter Tryz.func15, Tryz.ntmps15
 obtain ⟨S0, hSd⟩ : ∃ S : World → Prop, S = (fun W => Below w.heap.size w W) := ⟨_, rfl⟩
 have st0 : St S0 := by rw [hSd]; infer_instance
 have F_low : Hid (∀ W, S0 W → Below w.heap.size w W) := by show ∀ W, _; rw [hSd]; exact fun W h => h
 have HS0 : Hid (S0 w) := by show S0 w; rw [hSd]; exact Below.refl _ _
 clear hSd
 go_wp2_with (refine ZH _ _ _ rfl ?_)
 refine Stop.to ?_
 refine QC rfl 22 1 _ rfl 3 (Qg [0]).toArray (Jj Tryz.underlying22 Abg (by decide) (by decide) (by kernel_rfl)) ?_
 intro G_1 w_2 hG rG bG
 have hprev := st0.go HS0.out (bG.mono hG)
 obtain ⟨S1, hSd⟩ : ∃ S : World → Prop, S = (fun W => S0 W ∧ Row W G_1 3 (Qg [0]).toArray) := ⟨_, rfl⟩
 have st1 : St S1 := by rw [hSd]; infer_instance
 have D1 : Hid (∀ W, S1 W → S0 W) := by show ∀ W, _; rw [hSd]; exact fun W h => h.1
 have F_v1 : Hid (∀ W, S1 W → Row W G_1 3 (Qg [0]).toArray) := by show ∀ W, _; rw [hSd]; exact fun W h => h.2
 have HS1 : Hid (S1 w_2) := by show S1 w_2; rw [hSd]; exact ⟨hprev, rG⟩
 clear hSd
 clear hprev HS0 hG rG bG
 go_wp2_with (refine ZH _ _ _ rfl ?_)
 refine Stop.to ?_
 refine QC rfl 23 5 _ rfl 85 (bodyW.flatMap Nd.cells).toArray (Jj Tryz.underlying23 AfO (by decide) (by decide) (by kernel_rfl)) ?_
 intro G_3 w_4 hG rG bG
 have hprev := st1.go HS1.out (bG.mono hG)
 obtain ⟨S2, hSd⟩ : ∃ S : World → Prop, S = (fun W => S1 W ∧ Row W G_3 85 (bodyW.flatMap Nd.cells).toArray) := ⟨_, rfl⟩
 have st2 : St S2 := by rw [hSd]; infer_instance
 have D2 : Hid (∀ W, S2 W → S1 W) := by show ∀ W, _; rw [hSd]; exact fun W h => h.1
 have F_n1 : Hid (∀ W, S2 W → Row W G_3 85 (bodyW.flatMap Nd.cells).toArray) := by show ∀ W, _; rw [hSd]; exact fun W h => h.2
 have HS2 : Hid (S2 w_4) := by show S2 w_4; rw [hSd]; exact ⟨hprev, rG⟩
 clear hSd
 clear hprev HS1 hG rG bG
 have hok := Afs (F_v1.out _ (D2.out _ HS2.out)) (F_n1.out _ HS2.out)
 go_wp2_with (refine Qy _ rfl ?_)
 refine Stop.to ?_
 refine Qi rfl 25 rfl _ _ Acu rfl ?_
 intro G_6 w_7 hG rG bG
 go_wp2_with (refine Ql _ _ _ rfl ?_)
 refine Stop.to ?_
 refine Qj rfl 25 _ _ rfl G_6 (pW G_1 G_3).cells rfl rfl 25 _ rG (by kernel_rfl) rfl (AdW _) ?_
 intro w_8 rH oH
 have bH : Below (w_4).heap.size w_4 w_8 := (bG.mono hG).trans (oH.below hG)
 have hprev := st2.go HS2.out (bH)
 obtain ⟨S3, hSd⟩ : ∃ S : World → Prop, S = (fun W => S2 W ∧ Row W G_6 25 (pW G_1 G_3).cells) := ⟨_, rfl⟩
 have st3 : St S3 := by rw [hSd]; infer_instance
 have D3 : Hid (∀ W, S3 W → S2 W) := by show ∀ W, _; rw [hSd]; exact fun W h => h.1
 have F_P1 : Hid (∀ W, S3 W → Row W G_6 25 (pW G_1 G_3).cells) := by show ∀ W, _; rw [hSd]; exact fun W h => h.2
 have HS3 : Hid (S3 w_8) := by show S3 w_8; rw [hSd]; exact ⟨hprev, rH⟩
 clear hSd
 clear hprev HS2 hG rG bG rH oH bH
 clear hok
 have hokAll : Hid (∀ W, S3 W → (pW G_1 G_3).ok W) := by show ∀ W, _; exact fun W hW => Afs (F_v1.out _ (D2.out _ (D3.out _ hW))) (F_n1.out _ (D3.out _ hW))
 have F_ok1 := hokAll
 clear hokAll
 go_wp2_with (first | (refine wpList_load_row rfl 25 _ rfl G_6 rfl 25 (pW G_1 G_3).cells (0, 0) _ (F_P1.out _ HS3.out) Tryz.underlying25 rfl (by kernel_rfl) ?_) | (refine ZH _ _ _ rfl ?_))
 refine Stop.to ?_
 refine QC rfl 22 1 _ rfl 3 (Qg [4]).toArray (Jj Tryz.underlying22 Abg (by decide) (by decide) (by kernel_rfl)) ?_
 intro G_9 w_10 hG rG bG
 have hprev := st3.go HS3.out (bG.mono hG)
 obtain ⟨S4, hSd⟩ : ∃ S : World → Prop, S = (fun W => S3 W ∧ Row W G_9 3 (Qg [4]).toArray) := ⟨_, rfl⟩
 have st4 : St S4 := by rw [hSd]; infer_instance
 have D4 : Hid (∀ W, S4 W → S3 W) := by show ∀ W, _; rw [hSd]; exact fun W h => h.1
 have F_a_r : Hid (∀ W, S4 W → Row W G_9 3 (Qg [4]).toArray) := by show ∀ W, _; rw [hSd]; exact fun W h => h.2
 have HS4 : Hid (S4 w_10) := by show S4 w_10; rw [hSd]; exact ⟨hprev, rG⟩
 clear hSd
 clear hprev HS3 hG rG bG
 go_wp2_with fail
 refine (VH (pW G_1 G_3) (some ⟨G_9, 0, none⟩) 1 [4] 5 w_10 (by show 5 ≤ 1000; omega) (by decide) (F_ok1.out _ (D4.out _ HS4.out)) (EQ (F_a_r.out _ HS4.out)) (by simp [InI])).mono ?_
 rintro e w_11 ⟨A_r, cap_r, rfl, hrd, _, _, _, bb⟩
 rw [AfR (F_ok1.out _ (D4.out _ HS4.out))] at hrd ⊢
 rw [show QW (pW G_1 G_3) (List.length ([4] : List Int)) 5 = 0 from by first | (rw [XO]; done) | (rw [XO]; rfl)]
 have hprev := st4.go HS4.out (bb)
 replace HS4 := Lh hprev
 clear hprev bb hrd
 go_wp2_with (refine Qy _ rfl ?_)
 refine Stop.to ?_
 refine Qi rfl 40 rfl _ _ ZE rfl ?_
 intro G_12 w_13 hG rG bG
 go_wp2_with (refine Ql _ _ _ rfl ?_)
 refine Stop.to ?_
 refine Qj rfl 40 _ _ rfl G_12 #[.int .i64 0, .int .i64 5, .int .i64 5, .slice A_r 0 cap_r] rfl rfl 40 _ rG (by kernel_rfl) rfl (JW _ _ _ rfl) ?_
 intro w_14 rH oH
 have bH : Below (w_11).heap.size w_11 w_14 := (bG.mono hG).trans (oH.below hG)
 have hprev := st4.go HS4.out (bH)
 obtain ⟨S5, hSd⟩ : ∃ S : World → Prop, S = (fun W => S4 W ∧ Row W G_12 40 #[.int .i64 0, .int .i64 5, .int .i64 5, .slice A_r 0 cap_r]) := ⟨_, rfl⟩
 have st5 : St S5 := by rw [hSd]; infer_instance
 have D5 : Hid (∀ W, S5 W → S4 W) := by show ∀ W, _; rw [hSd]; exact fun W h => h.1
 have F_r : Hid (∀ W, S5 W → Row W G_12 40 #[.int .i64 0, .int .i64 5, .int .i64 5, .slice A_r 0 cap_r]) := by show ∀ W, _; rw [hSd]; exact fun W h => h.2
 have HS5 : Hid (S5 w_14) := by show S5 w_14; rw [hSd]; exact ⟨hprev, rH⟩
 clear hSd
 clear hprev HS4 hG rG bG rH oH bH
 go_wp2_with (refine wpList_load_row rfl 25 _ rfl G_6 rfl 25 (pW G_1 G_3).cells (0, 0) _ (F_P1.out _ (D4.out _ (D5.out _ HS5.out))) Tryz.underlying25 rfl (by kernel_rfl) ?_)
 refine (VH (pW G_1 G_3) none 0 [] 4 w_14 (by show 5 ≤ 1000; omega) (by decide) (F_ok1.out _ (D4.out _ (D5.out _ HS5.out))) (Rd.nil _ _) (by simp)).mono ?_
 rintro e w_15 ⟨A_g, cap_g, rfl, hrd, _, _, _, bb⟩
 rw [Aft] at hrd ⊢
 rw [show QW (pW G_1 G_3) (List.length ([] : List Int)) 4 = 18 from by first | (rw [XO]; done) | (rw [XO]; rfl)]
 have hprev := st5.go HS5.out (bb)
 replace HS5 := Lh hprev
 clear hprev bb hrd
 go_wp2_with (refine Qy _ rfl ?_)
 refine Stop.to ?_
 refine Qi rfl 40 rfl _ _ ZE rfl ?_
 intro G_16 w_17 hG rG bG
 go_wp2_with (refine Ql _ _ _ rfl ?_)
 refine Stop.to ?_
 refine Qj rfl 40 _ _ rfl G_16 #[.int .i64 0, .int .i64 0, .int .i64 0, .slice A_g 0 cap_g] rfl rfl 40 _ rG (by kernel_rfl) rfl (JW _ _ _ rfl) ?_
 intro w_18 rH oH
 have bH : Below (w_15).heap.size w_15 w_18 := (bG.mono hG).trans (oH.below hG)
 have hprev := st5.go HS5.out (bH)
 obtain ⟨S6, hSd⟩ : ∃ S : World → Prop, S = (fun W => S5 W ∧ Row W G_16 40 #[.int .i64 0, .int .i64 0, .int .i64 0, .slice A_g 0 cap_g]) := ⟨_, rfl⟩
 have st6 : St S6 := by rw [hSd]; infer_instance
 have D6 : Hid (∀ W, S6 W → S5 W) := by show ∀ W, _; rw [hSd]; exact fun W h => h.1
 have F_g : Hid (∀ W, S6 W → Row W G_16 40 #[.int .i64 0, .int .i64 0, .int .i64 0, .slice A_g 0 cap_g]) := by show ∀ W, _; rw [hSd]; exact fun W h => h.2
 have HS6 : Hid (S6 w_18) := by show S6 w_18; rw [hSd]; exact ⟨hprev, rH⟩
 clear hSd
 clear hprev HS5 hG rG bG rH oH bH
 go_wp2_with (refine Ab5 37 _ rfl ?_)
 refine Stop.to ?_
 refine J8 S6 3 HS6.out ?_
 simp only [List.take_succ_cons, List.take_zero, List.drop_succ_cons, List.drop_zero]
 (refine Ja rfl 37 _ rfl (⟨G_12, 0, none⟩) rfl (El 0 5) _ (fun W hW => Yu (r := ⟨0, 5, 5, A_r, cap_r, []⟩) (F_r.out _ (D6.out _ hW))) Tryz.underlying37 rfl (by kernel_rfl) ?_; simp only [Act.put, Qa, Qb, Qc])
 (refine Qh rfl ?_ (fun W hW => ?_) ?_; rotate_left; (focus (go_simp; exact rfl)); simp only [Act.put, Qa, Qb, Qc])
 refine Qh rfl (.bool true) (fun W _ => Z5 rfl _ (run_eqGuard_agg _ _ _ _ _ _ _ (by kernel_rfl)) (by exact (KB 0 5 0 5) W)) ?_
 simp only [Act.put, Qa, Qb, Qc]
 refine QJ fun W9 hW9 => ?_
 have HT6 := Lh hW9
 clear HS6 hW9
 have HS6 := HT6
 clear HT6
 have r2 := (F_r.out _ (D6.out _ HS6.out)).cellv (i := 2) (v := .int .i64 5) rfl
 go_wp2_with (first | (refine ZA rfl 25 _ rfl G_6 rfl 25 (pW G_1 G_3).cells (0, 0) _ (F_P1.out _ (D4.out _ (D5.out _ (D6.out _ HS6.out)))) Tryz.underlying25 rfl (by kernel_rfl) ?_) | (refine ZH _ _ _ rfl ?_))
 refine Stop.to ?_
 refine QC rfl 22 1 _ rfl 3 (Qg [4]).toArray (Jj Tryz.underlying22 Abg (by decide) (by decide) (by kernel_rfl)) ?_
 intro G_19 w_20 hG rG bG
 have hprev := st6.go HS6.out (bG.mono hG)
 obtain ⟨S7, hSd⟩ : ∃ S : World → Prop, S = (fun W => S6 W ∧ Row W G_19 3 (Qg [4]).toArray) := ⟨_, rfl⟩
 have st7 : St S7 := by rw [hSd]; infer_instance
 have D7 : Hid (∀ W, S7 W → S6 W) := by show ∀ W, _; rw [hSd]; exact fun W h => h.1
 have F_b0 : Hid (∀ W, S7 W → Row W G_19 3 (Qg [4]).toArray) := by show ∀ W, _; rw [hSd]; exact fun W h => h.2
 have HS7 : Hid (S7 w_20) := by show S7 w_20; rw [hSd]; exact ⟨hprev, rG⟩
 clear hSd
 clear hprev HS6 hG rG bG
 clear r2
 go_wp2_with fail
 refine (AaF (pW G_1 G_3) (some ⟨G_19, 0, none⟩) 1 [4] 4 w_20 (by show 5 ≤ 1000; omega) (by decide) (F_ok1.out _ (D4.out _ (D5.out _ (D6.out _ (D7.out _ HS7.out))))) (EQ (F_b0.out _ HS7.out)) (by simp [InI])).mono ?_
 rintro e w_21 ⟨rfl, bb⟩
 rw [AfS (F_ok1.out _ (D4.out _ (D5.out _ (D6.out _ (D7.out _ HS7.out))))), show AfB ⟨[4], [[]], 0, 4, [], some (4, 0)⟩ = .agg (El 4 0).toArray from rfl]
 have hprev := st7.go HS7.out (bb)
 replace HS7 := Lh hprev
 clear hprev bb
 go_wp2_with (refine Yg 37 _ rfl ?_)
 refine Stop.to ?_
 refine J8 S7 2 HS7.out ?_
 simp only [List.take_succ_cons, List.take_zero, List.drop_succ_cons, List.drop_zero]
 (refine Qh rfl ?_ (fun W hW => ?_) ?_; rotate_left; (focus (go_simp; exact rfl)); simp only [Act.put, Qa, Qb, Qc])
 refine Qh rfl (.bool true) (fun W _ => Z5 rfl _ (run_eqGuard_agg _ _ _ _ _ _ _ (by kernel_rfl)) (by exact (KB 4 0 4 0) W)) ?_
 simp only [Act.put, Qa, Qb, Qc]
 refine QJ fun W9 hW9 => ?_
 have HT7 := Lh hW9
 clear HS7 hW9
 have HS7 := HT7
 clear HT7
 go_wp2_with (refine ZA rfl 25 _ rfl G_6 rfl 25 (pW G_1 G_3).cells (0, 0) _ (F_P1.out _ (D4.out _ (D5.out _ (D6.out _ (D7.out _ HS7.out))))) Tryz.underlying25 rfl (by kernel_rfl) ?_)
 refine (AaF (pW G_1 G_3) none 0 [] 4 W9 (by show 5 ≤ 1000; omega) (by decide) (F_ok1.out _ (D4.out _ (D5.out _ (D6.out _ (D7.out _ HS7.out))))) (Rd.nil _ _) (by simp)).mono ?_
 rintro e w_22 ⟨rfl, bb⟩
 rw [Aft, show AfB Ach = .agg (El 0 0).toArray from rfl]
 have hprev := st7.go HS7.out (bb)
 replace HS7 := Lh hprev
 clear hprev bb
 go_wp2_with (refine Yg 37 _ rfl ?_)
 refine Stop.to ?_
 refine J8 S7 2 HS7.out ?_
 simp only [List.take_succ_cons, List.take_zero, List.drop_succ_cons, List.drop_zero]
 (refine Qh rfl ?_ (fun W hW => ?_) ?_; rotate_left; (focus (go_simp; exact rfl)); simp only [Act.put, Qa, Qb, Qc])
 refine Qh rfl (.bool true) (fun W _ => Z5 rfl _ (run_eqGuard_agg _ _ _ _ _ _ _ (by kernel_rfl)) (by exact (KB 0 0 0 0) W)) ?_
 simp only [Act.put, Qa, Qb, Qc]
 refine QJ fun W9 hW9 => ?_
 have HT7 := Lh hW9
 clear HS7 hW9
 have HS7 := HT7
 clear HT7
 go_wp2_with fail
 go_ret
 exact ⟨rfl, (F_low.out _ (D1.out _ (D2.out _ (D3.out _ (D4.out _ (D5.out _ (D6.out _ (D7.out _ HS7.out))))))))⟩
theorem Acs (p : PgV) (aa : Option Addr) (acap n : Nat) (fuel : Int) (w : World) : Calls Tryz.prog 16 #[.agg p.cells, .slice aa n acap, .int .i64 fuel] w fun e w' => e = .returned (.bool (Ex p n fuel)) ∧ Below w.heap.size w w' := by
 go_enter Tryz.func16, Tryz.ntmps16
 go_wp2_with (refine Qq _ _ rfl ?_)
 refine Stop.to ?_
 refine Qe rfl 25 _ rfl p.cells rfl ?_
 intro G w1 hG r1 b1
 have b1 := (Below.refl w.heap.size w).trans (b1.mono hG)
 clear hG
 have Hr1 := Lh r1
 clear r1
 go_wp2_with (refine wpList_load_row rfl 25 _ rfl G rfl 25 p.cells (0, 0) _ Hr1.out Tryz.underlying25 rfl (by kernel_rfl) ?_)
 refine (AeV p w1).mono ?_
 rintro e w2 ⟨rfl, b2⟩
 have Hb2 := Lh (b1.trans (b2.mono b1.size))
 generalize hq : Aea p = q
 have Hq := Lh hq
 clear hq b1 b2 Hr1
 cases q
 · go_wp2_with fail
   go_ret
   exact ⟨KS (by unfold Ex; rw [Hq.out]; simp; try omega), Hb2.out⟩
 by_cases h1 : n ≤ 40
 rotate_left
 · have h1' : ¬ (n : Int) ≤ 40 := by omega
   have h1'' : 40 < (n : Int) := by omega
   have H1 := Lh h1
   clear h1
   go_wp2_with fail
   go_ret
   exact ⟨KS (by have h1 := H1.out; unfold Ex; rw [Hq.out]; simp; intro; omega), Hb2.out⟩
 have h1' : (n : Int) ≤ 40 := by omega
 have H1 := Lh h1
 clear h1
 by_cases h2 : fuel ≤ 400
 · go_wp2_with fail
   go_ret
   exact ⟨KS (by have h1 := H1.out; unfold Ex; rw [Hq.out]; simp; omega), Hb2.out⟩
 have h2' : 400 < fuel := by omega
 by_cases h3 : 10000 < fuel
 · clear h2
   go_wp2_with fail
   go_ret
   exact ⟨KS (by have h1 := H1.out; unfold Ex; rw [Hq.out]; simp; omega), Hb2.out⟩
 · have h3' : fuel ≤ 10000 := by omega
   have H2 := Lh h2
   have H3 := Lh h3
   clear h2 h3
   go_wp2_with fail
   go_ret
   exact ⟨KS (by have h1 := H1.out; have h2 := H2.out; have h3 := H3.out; unfold Ex; rw [Hq.out]; simp; omega), Hb2.out⟩
end Go.Proofs.YtdcmppdhdcjpfaaGreat
namespace Go.Proofs.YtdcmppdhdcjpfaaGreat
open Go.ChangeShapes Go.WideShapes Go.RowKit Go.Deep
theorem Abq : Tryz.prog.cellsOf 85 = 2 := by kernel_rfl
theorem AbE : Tryz.prog.cellsOf 25 = 3 := by kernel_rfl
theorem Abf : Tryz.prog.cellsOf 22 = 1 := by kernel_rfl
theorem Aae : Tryz.prog.cellsOf 23 = 1 := by kernel_rfl
structure IntsV where
 addr : Option Addr
 cap : Nat
 l : List Int
def IntsV.val (r : IntsV) : Value := .slice r.addr r.l.length r.cap
structure IntsV.ok (r : IntsV) (w : World) : Prop where
 len : r.l.length ≤ r.cap
 cap : r.cap ≤ maxLen
 nil : r.addr = none → r.cap = 0
 reads : Rd w r.addr (Qg r.l)
 all : ∀ x ∈ r.l, InI x
theorem IntsV.ok.go {r : IntsV} {w w' : World} (h : r.ok w) (b : Below w.heap.size w w') : r.ok w' := ⟨h.len, h.cap, h.nil, h.reads.go b, h.all⟩
instance St.intsok {r : IntsV} : St (fun W => r.ok W) := ⟨fun h b => h.go b⟩
def PgV.val (p : PgV) : Value := .agg p.cells
section
variable {H : Type} {enc : TypeId × Value → H} {w : World} {base : Nat} {spare : Nat → Bool} {held : Bool}
theorem Ac5 {fuel : Nat} {cs : List Value} {x : DataW H × List MemPlace} (h : DataW.trod enc Tryz.prog w base spare held fuel 3 cs = some x) : ∃ n : Int, cs = [.int .i64 n] ∧ InI n := by
 obtain ⟨n, e, h⟩ := Yl Tryz.underlying3 h
 exact ⟨n, e, h⟩
theorem Adb {fuel : Nat} {cs : List Value} {x : DataW H × List MemPlace} (h : DataW.trod enc Tryz.prog w base spare held fuel 85 cs = some x) : ∃ e : Nd, cs = e.cells ∧ InI e.tag ∧ InI e.n := by
 obtain ⟨hl, n, hf⟩ := UN Tryz.underlying85 h
 have hl2 : cs.length = 2 := hl.trans Abq
 match cs, hl2 with
 | [a, b], _ =>
  obtain ⟨_, h0⟩ := hf 0 _ rfl
  obtain ⟨_, h1⟩ := hf 1 _ rfl
  obtain ⟨n0, e0, w0⟩ := Yl Tryz.underlying3 h0
  obtain ⟨n1, e1, w1⟩ := Yl Tryz.underlying3 h1
  simp [VF] at e0 e1
  exact ⟨⟨n0, n1⟩, by rw [e0, e1]; rfl, w0, w1⟩
theorem AcM (l : List Int) : l.flatMap (fun n => [Value.int .i64 n]) = Qg l := by
 induction l with
 | nil => rfl
 | cons a l ih => rw [List.flatMap_cons, ih]; rfl
theorem UH {fuel : Nat} {cs : List Value} {x : DataW H × List MemPlace} (h : DataW.trod enc Tryz.prog w base spare held fuel 22 cs = some x) : ∃ r : IntsV, r.ok w ∧ cs = [r.val] := by
 obtain ⟨A, cap, xss, rfl, h1, h2, hA, h3, h4, h5⟩ := Vq Tryz.underlying22 h
 obtain ⟨l, rfl, hok⟩ := Va (fun n : Int => [Value.int .i64 n]) InI xss (fun xs hxs => by obtain ⟨n, y, hy⟩ := h5 xs hxs; exact Ac5 hy)
 rw [List.length_map] at h1
 refine ⟨⟨A, cap, l⟩, ⟨h1, h2, hA, ?_, hok⟩, by rw [List.length_map]; rfl⟩
 rw [← List.flatMap_def, AcM] at h4
 exact h4
theorem Aaj {fuel : Nat} {cs : List Value} {x : DataW H × List MemPlace} (h : DataW.trod enc Tryz.prog w base spare held fuel 23 cs = some x) :
 ∃ (A : Option Addr) (cap : Nat) (l : List Nd), cs = [.slice A l.length cap] ∧ l.length ≤ cap ∧ cap ≤ maxLen ∧ (A = none → cap = 0) ∧ Rd w A (l.flatMap Nd.cells) ∧ ∀ e ∈ l, InI e.tag ∧ InI e.n := by
 obtain ⟨A, cap, xss, rfl, h1, h2, hA, h3, h4, h5⟩ := Vq Tryz.underlying23 h
 obtain ⟨l, rfl, hok⟩ := Va Nd.cells (fun e => InI e.tag ∧ InI e.n) xss (fun xs hxs => by obtain ⟨n, y, hy⟩ := h5 xs hxs; exact Adb hy)
 rw [List.length_map] at h1
 exact ⟨A, cap, l, by rw [List.length_map], h1, h2, hA, by rw [List.flatMap_def]; exact h4, hok⟩
theorem Aby {fuel : Nat} {cs : List Value} {x : DataW H × List MemPlace} (h : DataW.trod enc Tryz.prog w base spare held fuel 25 cs = some x) : ∃ p : PgV, p.ok w ∧ cs = p.cells.toList := by
 obtain ⟨hl, n, hf⟩ := UN Tryz.underlying25 h
 have hl3 : cs.length = 3 := hl.trans AbE
 match cs, hl3 with
 | [a, b, c], _ =>
  obtain ⟨_, h0⟩ := hf 0 _ rfl
  obtain ⟨_, h1⟩ := hf 1 _ rfl
  obtain ⟨_, h2⟩ := hf 2 _ rfl
  obtain ⟨n0, e0, w0⟩ := Yl Tryz.underlying3 h0
  obtain ⟨r, hr, e1⟩ := UH h1
  obtain ⟨A, cap, l, e2, g1, g2, g3, g4, g5⟩ := Aaj h2
  simp [VF, Abf, Aae] at e0 e1 e2
  exact ⟨⟨n0, r.addr, r.cap, r.l, A, cap, l⟩, ⟨w0, hr.len, hr.cap, hr.nil, hr.reads, hr.all, g1, g2, g3, g4, g5⟩, by rw [e0, e1, e2]; rfl⟩
theorem AcK {r : Go.Reach} {b0 : Nat} {v : Value} {d : DataW H} {p : List MemPlace} (hv : Value.okWide Tryz.prog w r b0 22 v) (h : DataW.Trod enc Tryz.prog w base spare held 22 v d p) : ∃ r : IntsV, r.ok w ∧ v = r.val := by
 obtain ⟨a, len, cap, rfl⟩ := okWide_slice Tryz.underlying22 hv
 obtain ⟨fuel, hx⟩ := h
 obtain ⟨r, hr, e⟩ := UH hx
 have e2 : [Value.slice a len cap] = [r.val] := e
 injection e2 with e2
 exact ⟨r, hr, e2⟩
theorem Acn {r : Go.Reach} {b0 : Nat} {v : Value} {d : DataW H} {p : List MemPlace} (hv : Value.okWide Tryz.prog w r b0 25 v) (h : DataW.Trod enc Tryz.prog w base spare held 25 v d p) : ∃ p : PgV, p.ok w ∧ v = p.val := by
 obtain ⟨cs, rfl, fuel, x, hx⟩ := AdR Tryz.underlying25 hv h
 obtain ⟨p, hp, rfl⟩ := Aby hx
 exact ⟨p, hp, rfl⟩
end
end Go.Proofs.YtdcmppdhdcjpfaaGreat
namespace Go.Proofs.YtdcmppdhdcjpfaaGreat
open Go.RowKit Go.Deep
def Ms.kind (s : Ms) : Int := (s.out.getD (0, 0)).1
end Go.Proofs.YtdcmppdhdcjpfaaGreat
namespace Go.Proofs.YtdcmppdhdcjpfaaGreat
def Zx (a b : Int) : Int := if a < b then -1 else if b < a then 1 else 0
def Zj : List Int → List Int → Int
 | [], [] => 0
 | [], _ :: _ => -1
 | _ :: _, [] => 1
 | a :: xs, b :: ys => if Zx a b ≠ 0 then Zx a b else Zj xs ys
structure Dl where
 path : List Int
 op : Int
 n : Int
def orI (a b : Int) : Int := if a ≠ 0 then a else b
def Ka (d e : Dl) : Int := orI (Zj d.path e.path) (orI (Zx d.op e.op) (Zx d.n e.n))
theorem XJ (a : Int) : Zx a a = 0 := by unfold Zx; rw [if_neg (by omega), if_neg (by omega)]
theorem cmpI_eq {a b : Int} : Zx a b = 0 ↔ a = b := by
 unfold Zx
 constructor
 · intro h; split at h
   · cases h
   · split at h
     · cases h
     · omega
 · rintro rfl; rw [if_neg (by omega), if_neg (by omega)]
theorem cmpI_lt {a b : Int} : Zx a b < 0 ↔ a < b := by
 unfold Zx
 split
 · simp_all
 · split <;> simp <;> omega
theorem Uy (a b : Int) : Zx b a = -Zx a b := by
 unfold Zx
 repeat' split
 all_goals omega
theorem Eg (a b : Int) : Zx a b = -1 ∨ Zx a b = 0 ∨ Zx a b = 1 := by
 unfold Zx
 repeat' split
 all_goals simp
theorem Vt : ∀ a : List Int, Zj a a = 0
 | [] => rfl
 | x :: xs => by rw [Zj, XJ, if_neg (by simp), Vt xs]
theorem cmpL_eq : ∀ {a b : List Int}, Zj a b = 0 ↔ a = b
 | [], [] => by simp [Zj]
 | [], _ :: _ => by simp [Zj]
 | _ :: _, [] => by simp [Zj]
 | a :: xs, b :: ys => by
  rw [Zj]
  by_cases h : Zx a b = 0
  · rw [if_neg (by simpa using h), cmpL_eq, cmpI_eq.1 h]; simp
  · rw [if_pos h]
    constructor
    · intro e; exact absurd e h
    · intro e; injection e with e1 e2; exact absurd (cmpI_eq.2 e1) h
theorem ET : ∀ (a b : List Int), Zj b a = -Zj a b
 | [], [] => by simp [Zj]
 | [], _ :: _ => by simp [Zj]
 | _ :: _, [] => by simp [Zj]
 | a :: xs, b :: ys => by
  rw [Zj, Zj, Uy a b]
  by_cases h : Zx a b = 0
  · rw [if_neg (by omega), if_neg (by omega), ET xs ys]
  · rw [if_pos (by omega), if_pos h]
theorem Aca : ∀ (a b : List Int), Zj a b = -1 ∨ Zj a b = 0 ∨ Zj a b = 1
 | [], [] => by simp [Zj]
 | [], _ :: _ => by simp [Zj]
 | _ :: _, [] => by simp [Zj]
 | a :: xs, b :: ys => by
  rw [Zj]
  split
  · exact Eg a b
  · exact Aca xs ys
theorem UQ : ∀ {a b c : List Int}, Zj a b < 0 → Zj b c < 0 → Zj a c < 0
 | [], [], _, h, _ => by simp [Zj] at h
 | [], b :: ys, [], _, h => by simp [Zj] at h
 | [], b :: ys, c :: zs, _, _ => by simp [Zj]
 | a :: xs, [], _, h, _ => by simp [Zj] at h
 | a :: xs, b :: ys, [], _, h => by simp [Zj] at h
 | a :: xs, b :: ys, c :: zs, h1, h2 => by
  rw [Zj] at h1 h2 ⊢
  by_cases e1 : Zx a b = 0
  · rw [if_neg (by simpa using e1)] at h1
    have := cmpI_eq.1 e1
    subst this
    by_cases e2 : Zx a c = 0
    · rw [if_neg (by simpa using e2)] at h2 ⊢
      exact UQ h1 h2
    · rw [if_pos e2] at h2 ⊢
      exact h2
  · rw [if_pos e1] at h1
    by_cases e2 : Zx b c = 0
    · have := cmpI_eq.1 e2
      subst this
      rw [if_pos e1]; exact h1
    · rw [if_pos e2] at h2
      have h3 : Zx a c < 0 := cmpI_lt.2 (Int.lt_trans (cmpI_lt.1 h1) (cmpI_lt.1 h2))
      rw [if_pos (by omega)]; exact h3
theorem Adz {a b : Int} : orI a b = 0 ↔ a = 0 ∧ b = 0 := by
 unfold orI
 split
 · rename_i h; exact ⟨fun e => absurd e h, fun e => e.1⟩
 · rename_i h; exact ⟨fun e => ⟨by omega, e⟩, fun e => e.2⟩
theorem cmpD_eq {d e : Dl} : Ka d e = 0 ↔ d = e := by
 unfold Ka
 rw [Adz, Adz, cmpL_eq, cmpI_eq, cmpI_eq]
 cases d; cases e
 simp
theorem VE (d : Dl) : Ka d d = 0 := cmpD_eq.2 rfl
theorem Ab0 (a b : Int) : orI (-a) (-b) = -orI a b := by
 unfold orI
 by_cases h : a = 0
 · rw [if_neg (by omega), if_neg (by omega)]
 · rw [if_pos (by omega), if_pos h]
theorem AdB (d e : Dl) : Ka e d = -Ka d e := by
 unfold Ka
 rw [ET, Uy d.op, Uy d.n, Ab0, Ab0]
theorem Adm {a b : Int} (h1 : a = -1 ∨ a = 0 ∨ a = 1) (h2 : b = -1 ∨ b = 0 ∨ b = 1) : orI a b = -1 ∨ orI a b = 0 ∨ orI a b = 1 := by
 unfold orI; split <;> assumption
theorem Aev (d e : Dl) : Ka d e = -1 ∨ Ka d e = 0 ∨ Ka d e = 1 := Adm (Aca _ _) (Adm (Eg _ _) (Eg _ _))
theorem AbK {d e f : Dl} (h1 : Ka d e < 0) (h2 : Ka e f < 0) : Ka d f < 0 := by
 unfold Ka orI at *
 by_cases a1 : Zj d.path e.path = 0
 · rw [if_neg (by simpa using a1)] at h1
   rw [cmpL_eq.1 a1]
   by_cases a2 : Zj e.path f.path = 0
   · rw [if_neg (by simpa using a2)] at h2 ⊢
     by_cases b1 : Zx d.op e.op = 0
     · rw [if_neg (by simpa using b1)] at h1
       rw [cmpI_eq.1 b1]
       by_cases b2 : Zx e.op f.op = 0
       · rw [if_neg (by simpa using b2)] at h2 ⊢
         exact cmpI_lt.2 (Int.lt_trans (cmpI_lt.1 h1) (cmpI_lt.1 h2))
       · rw [if_pos b2] at h2 ⊢; exact h2
     · rw [if_pos b1] at h1
       by_cases b2 : Zx e.op f.op = 0
       · rw [← cmpI_eq.1 b2, if_pos b1]; exact h1
       · rw [if_pos b2] at h2
         have h3 : Zx d.op f.op < 0 := cmpI_lt.2 (Int.lt_trans (cmpI_lt.1 h1) (cmpI_lt.1 h2))
         rw [if_pos (by omega)]; exact h3
   · rw [if_pos a2] at h2 ⊢; exact h2
 · rw [if_pos a1] at h1
   by_cases a2 : Zj e.path f.path = 0
   · rw [← cmpL_eq.1 a2, if_pos a1]; exact h1
   · rw [if_pos a2] at h2
     have h3 := UQ h1 h2
     rw [if_pos (by omega)]; exact h3
def XL : List Dl → Prop
 | [] => True
 | [_] => True
 | a :: b :: l => Ka a b < 0 ∧ XL (b :: l)
theorem Abw {a : Dl} {l : List Dl} (h : XL (a :: l)) : XL l := by
 cases l with
 | nil => trivial
 | cons b l => exact h.2
theorem UE : ∀ {l : List Dl} {a b : Dl}, XL (a :: l) → b ∈ l → Ka a b < 0
 | [], _, _, _, h => by simp at h
 | c :: l, a, b, hr, h => by
  rcases List.mem_cons.1 h with rfl | h
  · exact hr.1
  · exact AbK hr.1 (UE hr.2 h)
theorem Yx : ∀ {l : List Dl} {i j : Nat} {a b : Dl}, XL l → l[i]? = some a → l[j]? = some b → i < j → Ka a b < 0
 | [], _, _, _, _, _, h, _, _ => by simp at h
 | c :: l, 0, 0, _, _, _, _, _, h => by omega
 | c :: l, 0, j + 1, a, b, hr, h1, h2, _ => by
  simp at h1 h2
  subst h1
  exact UE hr (List.mem_of_getElem? h2)
 | c :: l, i + 1, 0, _, _, _, _, _, h => by omega
 | c :: l, i + 1, j + 1, a, b, hr, h1, h2, h => Yx (Abw hr) (by simpa using h1) (by simpa using h2) (by omega)
end Go.Proofs.YtdcmppdhdcjpfaaGreat
namespace Go.Proofs.YtdcmppdhdcjpfaaGreat
open Go.RowKit Go.Deep
theorem ZC {a b : Int} (h : a = b) : Ending.returned (.int .i64 a) = .returned (.int .i64 b) := by rw [h]
theorem Ab6 (a : Int) (w : World) : Calls Tryz.prog 236 #[.int .i64 a] w fun e w' => e = .returned (.bool false) ∧ w = w' := by
 have h : (a != a) = false := by simp
 go_enter Tryz.func236, Tryz.ntmps236
 go_wp2
 go_ret
 exact ⟨KS (by simp), rfl⟩
theorem Yk (a b : Int) (w : World) : Calls Tryz.prog 162 #[.int .i64 a, .int .i64 b] w fun e w' => e = .returned (.int .i64 (Zx a b)) ∧ w = w' := by
 go_enter Tryz.func162, Tryz.ntmps162
 go_wp2_with fail
 refine (Ab6 _ _).mono ?_
 rintro e w1 ⟨rfl, rfl⟩
 go_wp2_with fail
 refine (Ab6 _ _).mono ?_
 rintro e w1 ⟨rfl, rfl⟩
 by_cases h1 : a < b
 · go_wp2
   go_ret
   exact ⟨ZC (by unfold Zx; rw [if_pos h1]), rfl⟩
 · by_cases h2 : b < a
   · go_wp2
     go_ret
     exact ⟨ZC (by unfold Zx; rw [if_neg (show ¬ a < b by omega), if_pos (show b < a by omega)]), rfl⟩
   · go_wp2
     go_ret
     exact ⟨ZC (by unfold Zx; rw [if_neg (show ¬ a < b by omega), if_neg (show ¬ b < a by omega)]), rfl⟩
theorem AcZ {a b : List Int} {k : Nat} {x y : Int} (h : a.take k = b.take k) (hx : a[k]? = some x) (hy : b[k]? = some y) (hc : Zx x y ≠ 0) : Zj a b = Zx x y := by
 have ha : a = a.take k ++ x :: a.drop (k + 1) := by
  obtain ⟨hl, e⟩ := List.getElem?_eq_some_iff.1 hx
  rw [← e, ← List.drop_eq_getElem_cons hl, List.take_append_drop]
 have hb : b = b.take k ++ y :: b.drop (k + 1) := by
  obtain ⟨hl, e⟩ := List.getElem?_eq_some_iff.1 hy
  rw [← e, ← List.drop_eq_getElem_cons hl, List.take_append_drop]
 rw [ha, hb, h]
 generalize b.take k = c
 clear h ha hb hx hy
 induction c with
 | nil => rw [List.nil_append, List.nil_append, Zj, if_pos hc]
 | cons z c ih => rw [List.cons_append, List.cons_append, Zj, XJ, if_neg (by simp)]; exact ih
theorem AaK : ∀ {a b : List Int} {k : Nat}, a.take k = b.take k → (k = a.length ∨ k = b.length) → k ≤ a.length → k ≤ b.length → Zj a b = Zx (a.length : Int) (b.length : Int)
 | [], [], _, _, _, _, _ => by simp [Zj, Zx]
 | [], _ :: _, _, _, _, _, _ => by simp [Zj, Zx] <;> omega
 | _ :: _, [], _, _, _, _, _ => by simp [Zj, Zx] <;> omega
 | x :: xs, y :: ys, 0, h, hk, _, _ => by simp at hk
 | x :: xs, y :: ys, k + 1, h, hk, h1, h2 => by
  simp only [List.take_succ_cons, List.cons.injEq] at h
  obtain ⟨rfl, h⟩ := h
  rw [Zj, XJ, if_neg (by simp), AaK h (by simpa using hk) (by simpa using h1) (by simpa using h2)]
  unfold Zx
  simp only [List.length_cons]
  repeat' split
  all_goals omega
theorem AaL (A B : Option Addr) (c d : Nat) (a b : List Int) (w : World) (ha : Rd w A (Qg a)) (hb : Rd w B (Qg b)) (hla : a.length ≤ 1000000) (hlb : b.length ≤ 1000000) :
 Calls Tryz.prog 161 #[.slice A a.length c, .slice B b.length d] w fun e w' => e = .returned (.int .i64 (Zj a b)) ∧ Below w.heap.size w w' := by
 obtain ⟨S, hSd⟩ : ∃ S, S = (fun W => Rd W A (Qg a) ∧ Rd W B (Qg b) ∧ Below w.heap.size w W) := ⟨_, rfl⟩
 have stS : St S := by rw [hSd]; infer_instance
 have S0' : Hid (∀ W, S W → Rd W A (Qg a)) := by show ∀ W, _; rw [hSd]; exact fun W h => h.1
 have S1' : Hid (∀ W, S W → Rd W B (Qg b)) := by show ∀ W, _; rw [hSd]; exact fun W h => h.2.1
 have S2' : Hid (∀ W, S W → Below w.heap.size w W) := by show ∀ W, _; rw [hSd]; exact fun W h => h.2.2
 have hS : S w := by rw [hSd]; exact ⟨ha, hb, Below.refl _ _⟩
 clear hSd ha hb
 obtain ⟨m, hm⟩ : ∃ m : Nat, m = Nat.min a.length b.length := ⟨_, rfl⟩
 have hm1 : m ≤ a.length ∧ m ≤ b.length ∧ (m = a.length ∨ m = b.length) := by
  have h : m = min a.length b.length := hm
  omega
 clear hm
 go_enter Tryz.func161, Tryz.ntmps161
 go_wp2_with fail
 all_goals
  go_loopw [12] (fun i wr => ∃ k : Nat, i = .int .i64 (k : Int) ∧ k ≤ m ∧ Hid (a.take k = b.take k) ∧ S wr) (fun i _ => m - (intOf i).toNat)
  case atStart => exact ⟨0, by simp, Nat.zero_le _, by simp [Hid], hS⟩
  case round =>
   clear hS
   obtain ⟨k, rfl, hk, Hk, hS⟩ := hrel
   by_cases hkn : k < m
   · have hkn' : (k : Int) < (m : Int) := by omega
     obtain ⟨e, he⟩ : ∃ e, a[k]? = some e := ⟨_, List.getElem?_eq_getElem (by omega)⟩
     obtain ⟨f, hf⟩ : ∃ f, b[k]? = some f := ⟨_, List.getElem?_eq_getElem (by omega)⟩
     obtain ⟨ad, had, _⟩ := QR (S0'.out _ hS) he
     obtain ⟨bd, hbd, _⟩ := QR (S1'.out _ hS) hf
     subst had hbd
     have Hca : Hid (∀ W, S W → W.cell? (ad.add k) = some (.int .i64 e)) := fun W h => by
      obtain ⟨ad', h1, h2⟩ := QR (S0'.out _ h) he
      injection h1 with h1; subst h1; exact h2
     have Hcb : Hid (∀ W, S W → W.cell? (bd.add k) = some (.int .i64 f)) := fun W h => by
      obtain ⟨ad', h1, h2⟩ := QR (S1'.out _ h) hf
      injection h1 with h1; subst h1; exact h2
     have He := Lh he
     have Hf := Lh hf
     have hka : (k : Int) < (a.length : Int) := by omega
     have hkb : (k : Int) < (b.length : Int) := by omega
     have ewk : IntKind.i64.wrap ((k : Int) + 1) = (k : Int) + 1 := IntWalk.i64_in _ (by omega)
     clear he hf
     go_wp2_with fail
     refine ZR S (by kernel_rfl) (by kernel_rfl) (St.drew hS) ?_
     clear hS
     iterate 3 (refine Qh rfl ?_ (fun W hW => ?_) ?_; rotate_left; (focus (go_simp; exact rfl)); simp only [Act.put, Qa, Qb, Qc])
     (refine Qh rfl ?_ (fun W hW => ?_) ?_; rotate_left; (focus (have c := Hca.out W hW; go_simp; exact rfl)); simp only [Act.put, Qa, Qb, Qc])
     iterate 3 (refine Qh rfl ?_ (fun W hW => ?_) ?_; rotate_left; (focus (go_simp; exact rfl)); simp only [Act.put, Qa, Qb, Qc])
     (refine Qh rfl ?_ (fun W hW => ?_) ?_; rotate_left; (focus (have c := Hcb.out W hW; go_simp; exact rfl)); simp only [Act.put, Qa, Qb, Qc])
     (refine Q0 rfl 162 _ (fun W => by (go_simp; try rfl)) (.int .i64 (Zx e f)) (fun W hW => (Yk e f W).mono fun e w' h => ⟨h.1, by rw [← h.2]; exact Below.refl _ _⟩) ?_; simp only [Act.put, Qa, Qb, Qc])
     (refine Qh rfl ?_ (fun W hW => ?_) ?_; rotate_left; (focus (go_simp; exact rfl)); simp only [Act.put, Qa, Qb, Qc])
     refine QJ fun W hS => ?_
     by_cases hef : Zx e f = 0
     · have hnn : (Zx e f != 0) = false := by simp [hef]
       have Hst : Hid (a.take (k + 1) = b.take (k + 1)) := by
        show _ = _
        rw [List.take_add_one, List.take_add_one, Hk.out, He.out, Hf.out, cmpI_eq.1 hef]
       clear Hca Hcb He Hf Hk hef
       go_wp2_with fail
       go_roundw
       case rel => exact ⟨k + 1, by go_num, by omega, Hst, hS⟩
       case measure => simp [intOf]; omega
     · have hnn : (Zx e f != 0) = true := by simpa using hef
       have Hc := Lh (AcZ Hk.out He.out Hf.out hef)
       clear Hca Hcb He Hf Hk hef
       go_wp2_with fail
       go_ret
       exact ⟨ZC Hc.out.symm, S2'.out _ hS⟩
   · obtain rfl : k = m := by omega
     have Hc := Lh (AaK Hk.out hm1.2.2 hm1.1 hm1.2.1)
     (first | have hkm : ¬ ((k : Int) < (b.length : Int)) := by omega | have hkm : ¬ ((k : Int) < (a.length : Int)) := by omega)
     clear hkn hk Hk
     go_wp2_with fail
     refine (Yk _ _ _).mono ?_
     rintro e w1 ⟨rfl, rfl⟩
     go_wp2_with fail
     go_ret
     exact ⟨ZC Hc.out.symm, S2'.out _ hS⟩
theorem Xd {W' : World} {B g size : Nat} {e : TypeId} (hB : B ≤ g) (h : Row W' g e #[]) : W'.ownsRow B e size (.slice (some ⟨g, 0, none⟩) 0 0) 0 [] :=
 ⟨by simp, .inr ⟨g, 0, #[], rfl, hB, h, Nat.le_refl _, Nat.zero_le _, by simp, by simp⟩⟩
theorem Q3 {P : Program} {o : Oper} {w w1 : World} {ρ : Operand → Value} {t : TypeId} {n : Nat} (ps : List (Nat × Operand)) (ho : o.op = .buildSlice t n ps.toArray) {v : Value} (hv : (Instr.buildSlice t n (ps.map fun (i, x) => (i, ρ x)).toArray).run P w = .ok v w1) : (execOp ρ o).run P w = .ok (.value v) w1 := by
 simp only [execOp, ho, Sem.run_bind, List.map_toArray, hv, Result.andThen_ok, Sem.run_pure]
theorem Zc {P : Program} {o : Oper} {w w1 : World} {ρ : Operand → Value} {s x : Operand} {t : TypeId} (ho : o.op = .call { callee := .builtin .append, args := #[s, x], argTypes := #[t, t] }) {v : Value} (hv : (Builtin.append_ #[t, t] o.type #[ρ s, ρ x]).run P w = .ok v w1) : (execOp ρ o).run P w = .ok (.value v) w1 := by
 unfold execOp
 simp only [ho, resolve, invoke, builtin, Sem.run_bind, Sem.run_pure, Result.andThen_ok, List.map_toArray, List.map_cons, List.map_nil, hv]
theorem Ug {P : Program} {w : World} {base size n c : Nat} {t ty e : TypeId} {i : TypeInfo} {v : Value} {xs : List Value} (ht : P.underlying t = some (.slice e)) (hi : P.info? e = some i) (hown : w.ownsRow base e size v n xs) : (Builtin.append_ #[t, t] ty #[v, .slice none 0 c]).run P w = .ok v w := by
 rcases hown.2 with ⟨rfl, rfl⟩ | ⟨g, cap, cur, rfl, _, _, hnc, _⟩
 · simp [Builtin.append_, run_underlying ht, sizeOf, typeInfo, hi, Builtin.lenOf, Builtin.firstCells]
 · simp [Builtin.append_, run_underlying ht, sizeOf, typeInfo, hi, Builtin.lenOf, Builtin.firstCells, hnc, storeCells]
theorem Jd {P : Program} (t e : TypeId) (z : Value) (size bytes : Nat) (ht : P.underlying t = some (.slice e)) (hinf : (P.info? e).map (fun i => (i.zero, i.size, i.bytes)) = some (some z, size, bytes)) (hzs : z.cells.size = size) (hsz : 0 < size) (hby : bytes ≤ 100)
 {W : World} {B n m cap : Nat} {v : Value} {xs cs : List Value} {A : Option Addr} (hown : W.ownsRow B e size v n xs) (hB : B ≤ W.heap.size) (hr : Rd W A cs) (hlen : cs.length = m * size) (h1 : ∀ u ∈ cs, u.oneCell' = true) (hA : A = none → m = 0) (hb : n + m ≤ 1000000) :
 ∃ v' W', (Builtin.append_ #[t, t] t #[v, .slice A m cap]).run P W = .ok v' W' ∧ W'.ownsRow B e size v' (n + m) (xs ++ cs) ∧ W.grownBy W' v.ownBlock ∧ (v'.ownBlock = v.ownBlock ∨ v'.ownBlock = some W.heap.size) := by
 obtain ⟨i0, hi0, hz0, hz1, hz2⟩ := info_parts hinf
 rcases A with _ | ad
 · have h0 := hA rfl
   subst h0
   have hl : cs = [] := List.eq_nil_of_length_eq_zero (by simpa using hlen)
   subst hl
   exact ⟨v, W, Ug ht hi0 hown, by simpa using hown, World.grownBy.refl _ _, .inl rfl⟩
 · obtain ⟨v', W', h1, h2, h3, _, h5⟩ := run_append_own_at (P := P) W B t t e i0 z size bytes ht hi0 hz0 hz1 hz2 hzs hsz v n xs hown ad m cap cs hlen
    (fun j u hj => by obtain ⟨ad', e, hc⟩ := hr j u hj; injection e with e; subst e; exact hc) h1 (by unfold maxLen; omega) (by have := Nat.mul_le_mul hb hby; omega) hB
   exact ⟨v', W', h1, h2, h3, h5⟩
end Go.Proofs.YtdcmppdhdcjpfaaGreat
