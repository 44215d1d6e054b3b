/- Lemmas for VerdictMoreP. -/
import Derived.Test.YtdcmppdhdcjpfaaGreatZr1
import Derived.Test.YtdcmppdhdcjpfaaGreatZr20
import Derived.Test.YtdcmppdhdcjpfaaGreatZr17
set_option linter.unusedVariables false
set_option linter.unusedSimpArgs false
set_option maxRecDepth 100000
set_option maxHeartbeats 16000000
namespace Go.Proofs.YtdcmppdhdcjpfaaGreat
open Go.RowKit Go.Deep
theorem Ahs (g J cap i B : Nat) (l : List Nd) (y : Nd) (cur : Array Value) (w : World) (hg : Row w g 85 cur) (hs : cur.size = cap * 2) (ht : cur.toList.take (l.length * 2) = l.flatMap Nd.cells) (hn : l.length ≤ cap) (hc : cap ≤ maxLen) (hl : l.length ≤ 1000) (hi : i < l.length) (hJ : Row w J 85 #[.int .i64 y.tag, .int .i64 y.n]) (hne : J ≠ g) (hB : B ≤ g) :
 Calls Tryz.prog 185 #[.slice (some ⟨g, 0, none⟩) l.length cap, .int .i64 (i : Int), .slice (some ⟨J, 0, none⟩) 1 1] w fun e w' => ∃ v, e = .returned v ∧ w'.ownsRow B 85 2 v (l.take i ++ y :: l.drop i).length ((l.take i ++ y :: l.drop i).flatMap Nd.cells) ∧ Below B w w' := by
 have hlen : (l.take i ++ y :: l.drop i).length = l.length + 1 := by rw [List.length_append, List.length_cons, List.length_take, List.length_drop]; omega
 by_cases h : l.length + 1 ≤ cap
 · refine (Ab3 g J cap i l y cur w hg hs ht h hc hl hi hJ hne B hB).mono ?_
   rintro e w' ⟨rfl, ⟨cur', h1, h2, h3⟩, b⟩
   exact ⟨_, rfl, ⟨by rw [ZQ, hlen], .inr ⟨g, cap, cur', by rw [hlen], hB, h1, by omega, hc, h2, by rw [hlen]; exact h3⟩⟩, b⟩
 · obtain rfl : cap = l.length := by omega
   have ht2 : cur.toList = l.flatMap Nd.cells := by rw [← ht, List.take_of_length_le (by rw [Array.length_toList, hs]; exact Nat.le_refl _)]
   have hgl := hg.lt
   refine (Ab2 g J i l y cur w hg hs ht2 hl hi hJ).mono ?_
   rintro e w' ⟨N, G, cur', rfl, hN, hG, hGm, h1, h2, h3, b⟩
   exact ⟨_, rfl, ⟨by rw [ZQ, hlen], .inr ⟨N, G, cur', by rw [hlen], by omega, h1, by omega, hGm, h2, by rw [hlen]; exact h3⟩⟩, b.mono (by omega)⟩
theorem YF : (Tryz.prog.info? 85).map (fun i => (i.zero, i.size)) = some (some (.agg #[.int .i64 0, .int .i64 0]), 2) := by kernel_rfl
theorem AfP (p : PgV) (q : Nat) (t : Tr) (w : World) (hat : At p.body q t) (hbl : p.body.length ≤ 1000) (hok : p.ok w) (h : t.root.tag = 23 ∨ t.root.tag = 24) (hq : q + 1 < p.body.length) :
 Calls Tryz.prog 114 #[.agg (Zw p q 0)] w fun e w' => NdsR (p.body.take (q + 1) ++ (⟨6, 0⟩ :: p.body.drop (q + 1))) w w' e := by
 have Hn : Hid (∀ W, Below w.heap.size w W → Calls Tryz.prog 182 #[.agg (Zw p q 0)] W fun e w' => e = .returned (.agg #[.int .i64 t.root.tag, .int .i64 t.root.n]) ∧ Below W.heap.size W w') := fun W b => Kv p q 0 t.root W hat.root (hok.go b)
 have Hc0 : Hid (∀ W, Below w.heap.size w W → Calls Tryz.prog 186 #[.slice p.ba p.body.length p.bcap] W fun e w' => NdsR p.body W w' e) := fun W b => Va p.ba p.bcap p.body W (hok.go b).brd (fun e => List.eq_nil_of_length_eq_zero (by have h1 := hok.blen; have h2 := hok.bnil e; omega)) (by omega)
 have Hi : Hid (∀ (g J cap B : Nat) (cur : Array Value) (W : World), Row W g 85 cur → cur.size = cap * 2 → cur.toList.take (p.body.length * 2) = p.body.flatMap Nd.cells → p.body.length ≤ cap → cap ≤ maxLen → Row W J 85 #[.int .i64 6, .int .i64 0] → J ≠ g → B ≤ g →
  Calls Tryz.prog 185 #[.slice (some ⟨g, 0, none⟩) p.body.length cap, .int .i64 ((q : Int) + 1), .slice (some ⟨J, 0, none⟩) 1 1] W fun e w' => ∃ v, e = .returned v ∧ w'.ownsRow B 85 2 v (p.body.take (q + 1) ++ ⟨6, 0⟩ :: p.body.drop (q + 1)).length ((p.body.take (q + 1) ++ ⟨6, 0⟩ :: p.body.drop (q + 1)).flatMap Nd.cells) ∧ Below B W w') := fun g J cap B cur W h1 h2 h3 h4 h5 h6 h7 h8 =>
  Ahs g J cap (q + 1) B p.body ⟨6, 0⟩ cur W h1 h2 h3 h4 h5 hbl hq h6 h7 h8
 obtain ⟨k, hk⟩ : ∃ k, k = t.root.tag := ⟨_, rfl⟩
 obtain ⟨m, hm⟩ : ∃ m, m = t.root.n := ⟨_, rfl⟩
 obtain ⟨r, hr⟩ : ∃ r, r = p.body.take (q + 1) ++ (⟨6, 0⟩ :: p.body.drop (q + 1)) := ⟨_, rfl⟩
 have hqI : (q : Int) ≤ 1000 := by omega
 have Hne : Hid (¬ p.body.length = 0) := by show ¬ _; omega
 rw [← hk] at h
 rw [← hk, ← hm] at Hn
 rw [← hr] at Hi ⊢
 have f0 := X6 k m
 clear hk hm hr hat hbl hok hq
 go_enter Tryz.func114, Tryz.ntmps114
 go_wp2_with (refine Qp _ _ rfl ?_)
 refine Stop.to ?_
 refine Qf rfl 176 _ rfl (Zw p q 0) rfl ?_
 intro G Gw Gh Gr Gb
 have b1 := (Below.refl w.heap.size w).trans (Gb.mono Gh)
 have Hc := Lh (Hn.out _ b1)
 clear Gb Gh Hn
 go_wp2_with (refine wpList_load_row rfl 176 _ rfl G rfl 176 (Zw p q 0) (0, 0) _ Gr Tryz.underlying176 rfl (by kernel_rfl) ?_)
 refine Hc.out.mono ?_
 rintro e w1 ⟨rfl, b2⟩
 have Gr3 := Gr.below b2 Gr.lt
 have b4 := b1.trans (b2.mono b1.size)
 have g2 := Gr3.cellv (i := 2) (v := .slice p.ba p.body.length p.bcap) rfl
 have g3 := Gr3.cellv (i := 3) (v := .int .i64 q) rfl
 have g4 := Gr3.cellv (i := 4) (v := .int .i64 0) rfl
 clear Gr b1 b2 Hc
 rcases h with rfl | rfl
 all_goals
  go_wp2_with fail
  skip
 · obtain ⟨S, hSd⟩ : ∃ S, S = (fun W => Row W G 176 (Zw p q 0) ∧ Below w.heap.size w W) := ⟨_, rfl⟩
   have stS : St S := by rw [hSd]; infer_instance
   have U0 : Hid (∀ W, S W → Row W G 176 (Zw p q 0)) := by show ∀ W, _; rw [hSd]; exact fun W h => h.1
   have U1 : Hid (∀ W, S W → Below w.heap.size w W) := by show ∀ W, _; rw [hSd]; exact fun W h => h.2
   have UMK : Hid (∀ W, Row W G 176 (Zw p q 0) → Below w.heap.size w W → S W) := by show ∀ W, _; rw [hSd]; exact fun W h h2 => ⟨h, h2⟩
   have hS3 := UMK.out _ Gr3 b4
   clear hSd Gr3 b4 g2 g3 g4 f0
   refine wp_region_held (S := S) (by kernel_rfl) ?_
   simp only [List.size_toArray, List.length_cons, List.length_nil, Nat.reduceAdd, Array.replicate_succ, Array.replicate_zero, List.push_toArray, List.nil_append, List.cons_append]
   show wpAnyH _ _ _ _ _ _ _ _ (w1).drew
   obtain ⟨V0, hV0⟩ : ∃ V0, V0 = (w1).drew := ⟨_, rfl⟩
   rw [← hV0]
   have hS0 : S V0 := by rw [hV0]; exact St.drew hS3
   clear hV0 hS3
   have ewq : IntKind.i64.wrap ((q : Int) + 1) = (q : Int) + 1 := IntWalk.i64_in _ (by omega)
   (refine tkH 0 (.pointer (some ⟨G, 0, none⟩)) rfl (Qd rfl (fun W hW => by (go_simp))) ?_; simp only [Act.put, Qa, Qb, Qc])
   (refine tkH 1 (.pointer (some ⟨G, 2, none⟩)) rfl (Qd rfl (fun W hW => by (go_simp))) ?_; simp only [Act.put, Qa, Qb, Qc])
   (refine tkH 2 (.slice p.ba p.body.length p.bcap) rfl (Qd rfl (fun W hW => by ((have c := (U0.out _ hW).cellv (i := 2) (v := .slice p.ba p.body.length p.bcap) rfl; go_simp)))) ?_; simp only [Act.put, Qa, Qb, Qc])
   (refine tkH 4 (.pointer (some ⟨G, 3, none⟩)) rfl (Qd rfl (fun W hW => by (go_simp))) ?_; simp only [Act.put, Qa, Qb, Qc])
   (refine tkH 5 (.int .i64 (q : Int)) rfl (Qd rfl (fun W hW => by ((have c := (U0.out _ hW).cellv (i := 3) (v := .int .i64 q) rfl; go_simp)))) ?_; simp only [Act.put, Qa, Qb, Qc])
   (refine tkH 6 (.int .i64 ((q : Int) + 1)) rfl (Qd rfl (fun W hW => by (go_simp))) ?_; simp only [Act.put, Qa, Qb, Qc])
   (refine tkH 7 (.agg #[.int .i64 6, .int .i64 0]) rfl (Qd rfl (fun W hW => by (go_simp))) ?_; simp only [Act.put, Qa, Qb, Qc])
   refine wpAnyH_all (rs := [3, 8]) (by kernel_rfl) (by simp) (fun i hi => ?_)
   have hi2 : i = 3 ∨ i = 8 := by simpa using hi
   clear hi
   rcases hi2 with rfl | rfl
   · refine Qe rfl rfl (fun K2 hK2 => ?_)
     refine Qx 186 #[.slice p.ba p.body.length p.bcap] (w1 := V0) (by go_simp) ((Hc0.out V0 (U1.out _ hS0)).mono ?_)
     rintro e V1 ⟨v, rfl, ⟨_, h0 | ⟨g, cap, cur, rfl, hb, hr, hc, hm, hs, ht⟩⟩, b1⟩
     · exact absurd h0.2 Hne.out
     refine ⟨_, rfl, ?_⟩
     refine hK2 _ _ ?_
     clear hK2 K2
     simp only [Act.put, Qa, Qb, Qc]
     have hS1 := stS.go hS0 b1
     have s1 := b1.size
     have hrR : Row V1 g 85 cur := hr
     have hgl := hrR.lt
     have hGl := (U0.out _ hS0).lt
     have hlow := (U1.out _ hS0).size
     clear b1 hS0
     refine ⟨hS1, ?_⟩
     (refine wpAnyH_all (rs := [8]) (by kernel_rfl) (by simp) (fun i hi => ?_); obtain rfl : i = 8 := by simpa using hi)
     refine Qe rfl rfl (fun K2 hK2 => ?_)
     refine Qj (.slice (some ⟨V1.heap.size, 0, none⟩) 1 1) (Qn [(0, .tmp 25)] rfl (ZH (cells := #[.int .i64 6, .int .i64 0]) Tryz.underlying23 YF (by decide) (by decide) (by kernel_rfl) V1)) ?_
     refine hK2 _ _ ?_
     clear hK2 K2
     simp only [Act.put, Qa, Qb, Qc]
     obtain ⟨M, hM⟩ : ∃ M, M = V1.heap.size := ⟨_, rfl⟩
     obtain ⟨V2, hV2⟩ : ∃ V2, V2 = V1.alloc (.cells #[.int .i64 6, .int .i64 0] 85) := ⟨_, rfl⟩
     have Mr : Row V2 M 85 #[.int .i64 6, .int .i64 0] := by rw [hV2, hM]; exact Row.new _ _ _
     have Mb : Below V1.heap.size V1 V2 := by rw [hV2]; exact (Below.refl _ _).alloc (Nat.le_refl _) _
     rw [← hM, ← hV2]
     have hSx := stS.go hS1 Mb
     have hMg : M ≠ g := by omega
     have hr2 := hrR.below Mb hgl
     clear hrR
     clear hM hV2 hS1 Mb
     refine ⟨hSx, ?_⟩
     have hr1 := hr2
     have hGB : G < V0.heap.size := hGl
     have Hins := Lh (Hi.out g M cap V0.heap.size cur V2 hr1 hs ht hc hm Mr hMg hb)
     (refine wpAnyH_all (rs := [9]) (by kernel_rfl) (by simp) (fun i hi => ?_); obtain rfl : i = 9 := by simpa using hi)
     refine Qe rfl rfl (fun K2 hK2 => ?_)
     refine Qx 185 #[.slice (some ⟨g, 0, none⟩) p.body.length cap, .int .i64 ((q : Int) + 1), .slice (some ⟨M, 0, none⟩) 1 1] (w1 := V2) (by go_simp) (Hins.out.mono ?_)
     rintro e V3 ⟨v3, rfl, own3, b3⟩
     refine ⟨_, rfl, ?_⟩
     refine hK2 _ _ ?_
     clear hK2 K2
     simp only [Act.put, Qa, Qb, Qc]
     have hS9 : S V3 := UMK.out _ ((U0.out _ hSx).below b3 hGB) ((U1.out _ hSx).trans (b3.mono hlow))
     have own4 := QI own3 hlow
     obtain ⟨r3, hr3⟩ : ∃ r3, r3 = r.length := ⟨_, rfl⟩
     rw [← hr3] at own4 own3
     obtain ⟨A4, c4, rfl⟩ := Zd own3
     have HF := Lh (And.intro own4 (U1.out _ hS9))
     have HN := Lh hr3
     refine ⟨hS9, ?_⟩
     clear own3 own4 hr3 b3 hr1 hs ht hc hm hSx Hins hGB hr Mr
     (refine tkH 10 (.slice A4 r3 c4) rfl (Qd rfl (fun W hW => by (go_simp))) ?_; simp only [Act.put, Qa, Qb, Qc])
     refine wpAnyH_done (by kernel_rfl) ?_ _
     clear hS9
     go_wp2_with fail
     go_ret
     exact ⟨_, rfl, by rw [← HN.out]; exact HF.out.1, HF.out.2⟩
   · refine Qe rfl rfl (fun K2 hK2 => ?_)
     refine Qj (.slice (some ⟨V0.heap.size, 0, none⟩) 1 1) (Qn [(0, .tmp 25)] rfl (ZH (cells := #[.int .i64 6, .int .i64 0]) Tryz.underlying23 YF (by decide) (by decide) (by kernel_rfl) V0)) ?_
     refine hK2 _ _ ?_
     clear hK2 K2
     simp only [Act.put, Qa, Qb, Qc]
     obtain ⟨M, hM⟩ : ∃ M, M = V0.heap.size := ⟨_, rfl⟩
     obtain ⟨V2, hV2⟩ : ∃ V2, V2 = V0.alloc (.cells #[.int .i64 6, .int .i64 0] 85) := ⟨_, rfl⟩
     have Mr : Row V2 M 85 #[.int .i64 6, .int .i64 0] := by rw [hV2, hM]; exact Row.new _ _ _
     have Mb : Below V0.heap.size V0 V2 := by rw [hV2]; exact (Below.refl _ _).alloc (Nat.le_refl _) _
     rw [← hM, ← hV2]
     have hS1 := stS.go hS0 Mb
     clear hM hV2 hS0 Mb
     refine ⟨hS1, ?_⟩
     (refine wpAnyH_all (rs := [3]) (by kernel_rfl) (by simp) (fun i hi => ?_); obtain rfl : i = 3 := by simpa using hi)
     refine Qe rfl rfl (fun K2 hK2 => ?_)
     refine Qx 186 #[.slice p.ba p.body.length p.bcap] (w1 := V2) (by go_simp) ((Hc0.out V2 (U1.out _ hS1)).mono ?_)
     rintro e V1 ⟨v, rfl, ⟨_, h0 | ⟨g, cap, cur, rfl, hb, hr, hc, hm, hs, ht⟩⟩, b1⟩
     · exact absurd h0.2 Hne.out
     refine ⟨_, rfl, ?_⟩
     refine hK2 _ _ ?_
     clear hK2 K2
     simp only [Act.put, Qa, Qb, Qc]
     have hSx := stS.go hS1 b1
     have hMl := Mr.lt
     have hGl := (U0.out _ hS1).lt
     have hlow := (U1.out _ hS1).size
     replace Mr := Mr.below b1 hMl
     have hMg : M ≠ g := by omega
     clear b1 hS1
     refine ⟨hSx, ?_⟩
     have hr1 := hr
     have hGB : G < V2.heap.size := hGl
     have Hins := Lh (Hi.out g M cap V2.heap.size cur V1 hr1 hs ht hc hm Mr hMg hb)
     (refine wpAnyH_all (rs := [9]) (by kernel_rfl) (by simp) (fun i hi => ?_); obtain rfl : i = 9 := by simpa using hi)
     refine Qe rfl rfl (fun K2 hK2 => ?_)
     refine Qx 185 #[.slice (some ⟨g, 0, none⟩) p.body.length cap, .int .i64 ((q : Int) + 1), .slice (some ⟨M, 0, none⟩) 1 1] (w1 := V1) (by go_simp) (Hins.out.mono ?_)
     rintro e V3 ⟨v3, rfl, own3, b3⟩
     refine ⟨_, rfl, ?_⟩
     refine hK2 _ _ ?_
     clear hK2 K2
     simp only [Act.put, Qa, Qb, Qc]
     have hS9 : S V3 := UMK.out _ ((U0.out _ hSx).below b3 hGB) ((U1.out _ hSx).trans (b3.mono hlow))
     have own4 := QI own3 hlow
     obtain ⟨r3, hr3⟩ : ∃ r3, r3 = r.length := ⟨_, rfl⟩
     rw [← hr3] at own4 own3
     obtain ⟨A4, c4, rfl⟩ := Zd own3
     have HF := Lh (And.intro own4 (U1.out _ hS9))
     have HN := Lh hr3
     refine ⟨hS9, ?_⟩
     clear own3 own4 hr3 b3 hr1 hs ht hc hm hSx Hins hGB hr Mr
     (refine tkH 10 (.slice A4 r3 c4) rfl (Qd rfl (fun W hW => by (go_simp))) ?_; simp only [Act.put, Qa, Qb, Qc])
     refine wpAnyH_done (by kernel_rfl) ?_ _
     clear hS9
     go_wp2_with fail
     go_ret
     exact ⟨_, rfl, by rw [← HN.out]; exact HF.out.1, HF.out.2⟩
 · obtain ⟨S, hSd⟩ : ∃ S, S = (fun W => Row W G 176 (Zw p q 0) ∧ Below w.heap.size w W) := ⟨_, rfl⟩
   have stS : St S := by rw [hSd]; infer_instance
   have U0 : Hid (∀ W, S W → Row W G 176 (Zw p q 0)) := by show ∀ W, _; rw [hSd]; exact fun W h => h.1
   have U1 : Hid (∀ W, S W → Below w.heap.size w W) := by show ∀ W, _; rw [hSd]; exact fun W h => h.2
   have UMK : Hid (∀ W, Row W G 176 (Zw p q 0) → Below w.heap.size w W → S W) := by show ∀ W, _; rw [hSd]; exact fun W h h2 => ⟨h, h2⟩
   have hS3 := UMK.out _ Gr3 b4
   clear hSd Gr3 b4 g2 g3 g4 f0
   refine wp_region_held (S := S) (by kernel_rfl) ?_
   simp only [List.size_toArray, List.length_cons, List.length_nil, Nat.reduceAdd, Array.replicate_succ, Array.replicate_zero, List.push_toArray, List.nil_append, List.cons_append]
   show wpAnyH _ _ _ _ _ _ _ _ (w1).drew
   obtain ⟨V0, hV0⟩ : ∃ V0, V0 = (w1).drew := ⟨_, rfl⟩
   rw [← hV0]
   have hS0 : S V0 := by rw [hV0]; exact St.drew hS3
   clear hV0 hS3
   have ewq : IntKind.i64.wrap ((q : Int) + 1) = (q : Int) + 1 := IntWalk.i64_in _ (by omega)
   (refine tkH 0 (.pointer (some ⟨G, 0, none⟩)) rfl (Qd rfl (fun W hW => by (go_simp))) ?_; simp only [Act.put, Qa, Qb, Qc])
   (refine tkH 1 (.pointer (some ⟨G, 2, none⟩)) rfl (Qd rfl (fun W hW => by (go_simp))) ?_; simp only [Act.put, Qa, Qb, Qc])
   (refine tkH 2 (.slice p.ba p.body.length p.bcap) rfl (Qd rfl (fun W hW => by ((have c := (U0.out _ hW).cellv (i := 2) (v := .slice p.ba p.body.length p.bcap) rfl; go_simp)))) ?_; simp only [Act.put, Qa, Qb, Qc])
   (refine tkH 4 (.pointer (some ⟨G, 3, none⟩)) rfl (Qd rfl (fun W hW => by (go_simp))) ?_; simp only [Act.put, Qa, Qb, Qc])
   (refine tkH 5 (.int .i64 (q : Int)) rfl (Qd rfl (fun W hW => by ((have c := (U0.out _ hW).cellv (i := 3) (v := .int .i64 q) rfl; go_simp)))) ?_; simp only [Act.put, Qa, Qb, Qc])
   (refine tkH 6 (.int .i64 ((q : Int) + 1)) rfl (Qd rfl (fun W hW => by (go_simp))) ?_; simp only [Act.put, Qa, Qb, Qc])
   (refine tkH 7 (.agg #[.int .i64 6, .int .i64 0]) rfl (Qd rfl (fun W hW => by (go_simp))) ?_; simp only [Act.put, Qa, Qb, Qc])
   refine wpAnyH_all (rs := [3, 8]) (by kernel_rfl) (by simp) (fun i hi => ?_)
   have hi2 : i = 3 ∨ i = 8 := by simpa using hi
   clear hi
   rcases hi2 with rfl | rfl
   · refine Qe rfl rfl (fun K2 hK2 => ?_)
     refine Qx 186 #[.slice p.ba p.body.length p.bcap] (w1 := V0) (by go_simp) ((Hc0.out V0 (U1.out _ hS0)).mono ?_)
     rintro e V1 ⟨v, rfl, ⟨_, h0 | ⟨g, cap, cur, rfl, hb, hr, hc, hm, hs, ht⟩⟩, b1⟩
     · exact absurd h0.2 Hne.out
     refine ⟨_, rfl, ?_⟩
     refine hK2 _ _ ?_
     clear hK2 K2
     simp only [Act.put, Qa, Qb, Qc]
     have hS1 := stS.go hS0 b1
     have s1 := b1.size
     have hrR : Row V1 g 85 cur := hr
     have hgl := hrR.lt
     have hGl := (U0.out _ hS0).lt
     have hlow := (U1.out _ hS0).size
     clear b1 hS0
     refine ⟨hS1, ?_⟩
     (refine wpAnyH_all (rs := [8]) (by kernel_rfl) (by simp) (fun i hi => ?_); obtain rfl : i = 8 := by simpa using hi)
     refine Qe rfl rfl (fun K2 hK2 => ?_)
     refine Qj (.slice (some ⟨V1.heap.size, 0, none⟩) 1 1) (Qn [(0, .tmp 25)] rfl (ZH (cells := #[.int .i64 6, .int .i64 0]) Tryz.underlying23 YF (by decide) (by decide) (by kernel_rfl) V1)) ?_
     refine hK2 _ _ ?_
     clear hK2 K2
     simp only [Act.put, Qa, Qb, Qc]
     obtain ⟨M, hM⟩ : ∃ M, M = V1.heap.size := ⟨_, rfl⟩
     obtain ⟨V2, hV2⟩ : ∃ V2, V2 = V1.alloc (.cells #[.int .i64 6, .int .i64 0] 85) := ⟨_, rfl⟩
     have Mr : Row V2 M 85 #[.int .i64 6, .int .i64 0] := by rw [hV2, hM]; exact Row.new _ _ _
     have Mb : Below V1.heap.size V1 V2 := by rw [hV2]; exact (Below.refl _ _).alloc (Nat.le_refl _) _
     rw [← hM, ← hV2]
     have hSx := stS.go hS1 Mb
     have hMg : M ≠ g := by omega
     have hr2 := hrR.below Mb hgl
     clear hrR
     clear hM hV2 hS1 Mb
     refine ⟨hSx, ?_⟩
     have hr1 := hr2
     have hGB : G < V0.heap.size := hGl
     have Hins := Lh (Hi.out g M cap V0.heap.size cur V2 hr1 hs ht hc hm Mr hMg hb)
     (refine wpAnyH_all (rs := [9]) (by kernel_rfl) (by simp) (fun i hi => ?_); obtain rfl : i = 9 := by simpa using hi)
     refine Qe rfl rfl (fun K2 hK2 => ?_)
     refine Qx 185 #[.slice (some ⟨g, 0, none⟩) p.body.length cap, .int .i64 ((q : Int) + 1), .slice (some ⟨M, 0, none⟩) 1 1] (w1 := V2) (by go_simp) (Hins.out.mono ?_)
     rintro e V3 ⟨v3, rfl, own3, b3⟩
     refine ⟨_, rfl, ?_⟩
     refine hK2 _ _ ?_
     clear hK2 K2
     simp only [Act.put, Qa, Qb, Qc]
     have hS9 : S V3 := UMK.out _ ((U0.out _ hSx).below b3 hGB) ((U1.out _ hSx).trans (b3.mono hlow))
     have own4 := QI own3 hlow
     obtain ⟨r3, hr3⟩ : ∃ r3, r3 = r.length := ⟨_, rfl⟩
     rw [← hr3] at own4 own3
     obtain ⟨A4, c4, rfl⟩ := Zd own3
     have HF := Lh (And.intro own4 (U1.out _ hS9))
     have HN := Lh hr3
     refine ⟨hS9, ?_⟩
     clear own3 own4 hr3 b3 hr1 hs ht hc hm hSx Hins hGB hr Mr
     (refine tkH 10 (.slice A4 r3 c4) rfl (Qd rfl (fun W hW => by (go_simp))) ?_; simp only [Act.put, Qa, Qb, Qc])
     refine wpAnyH_done (by kernel_rfl) ?_ _
     clear hS9
     go_wp2_with fail
     go_ret
     exact ⟨_, rfl, by rw [← HN.out]; exact HF.out.1, HF.out.2⟩
   · refine Qe rfl rfl (fun K2 hK2 => ?_)
     refine Qj (.slice (some ⟨V0.heap.size, 0, none⟩) 1 1) (Qn [(0, .tmp 25)] rfl (ZH (cells := #[.int .i64 6, .int .i64 0]) Tryz.underlying23 YF (by decide) (by decide) (by kernel_rfl) V0)) ?_
     refine hK2 _ _ ?_
     clear hK2 K2
     simp only [Act.put, Qa, Qb, Qc]
     obtain ⟨M, hM⟩ : ∃ M, M = V0.heap.size := ⟨_, rfl⟩
     obtain ⟨V2, hV2⟩ : ∃ V2, V2 = V0.alloc (.cells #[.int .i64 6, .int .i64 0] 85) := ⟨_, rfl⟩
     have Mr : Row V2 M 85 #[.int .i64 6, .int .i64 0] := by rw [hV2, hM]; exact Row.new _ _ _
     have Mb : Below V0.heap.size V0 V2 := by rw [hV2]; exact (Below.refl _ _).alloc (Nat.le_refl _) _
     rw [← hM, ← hV2]
     have hS1 := stS.go hS0 Mb
     clear hM hV2 hS0 Mb
     refine ⟨hS1, ?_⟩
     (refine wpAnyH_all (rs := [3]) (by kernel_rfl) (by simp) (fun i hi => ?_); obtain rfl : i = 3 := by simpa using hi)
     refine Qe rfl rfl (fun K2 hK2 => ?_)
     refine Qx 186 #[.slice p.ba p.body.length p.bcap] (w1 := V2) (by go_simp) ((Hc0.out V2 (U1.out _ hS1)).mono ?_)
     rintro e V1 ⟨v, rfl, ⟨_, h0 | ⟨g, cap, cur, rfl, hb, hr, hc, hm, hs, ht⟩⟩, b1⟩
     · exact absurd h0.2 Hne.out
     refine ⟨_, rfl, ?_⟩
     refine hK2 _ _ ?_
     clear hK2 K2
     simp only [Act.put, Qa, Qb, Qc]
     have hSx := stS.go hS1 b1
     have hMl := Mr.lt
     have hGl := (U0.out _ hS1).lt
     have hlow := (U1.out _ hS1).size
     replace Mr := Mr.below b1 hMl
     have hMg : M ≠ g := by omega
     clear b1 hS1
     refine ⟨hSx, ?_⟩
     have hr1 := hr
     have hGB : G < V2.heap.size := hGl
     have Hins := Lh (Hi.out g M cap V2.heap.size cur V1 hr1 hs ht hc hm Mr hMg hb)
     (refine wpAnyH_all (rs := [9]) (by kernel_rfl) (by simp) (fun i hi => ?_); obtain rfl : i = 9 := by simpa using hi)
     refine Qe rfl rfl (fun K2 hK2 => ?_)
     refine Qx 185 #[.slice (some ⟨g, 0, none⟩) p.body.length cap, .int .i64 ((q : Int) + 1), .slice (some ⟨M, 0, none⟩) 1 1] (w1 := V1) (by go_simp) (Hins.out.mono ?_)
     rintro e V3 ⟨v3, rfl, own3, b3⟩
     refine ⟨_, rfl, ?_⟩
     refine hK2 _ _ ?_
     clear hK2 K2
     simp only [Act.put, Qa, Qb, Qc]
     have hS9 : S V3 := UMK.out _ ((U0.out _ hSx).below b3 hGB) ((U1.out _ hSx).trans (b3.mono hlow))
     have own4 := QI own3 hlow
     obtain ⟨r3, hr3⟩ : ∃ r3, r3 = r.length := ⟨_, rfl⟩
     rw [← hr3] at own4 own3
     obtain ⟨A4, c4, rfl⟩ := Zd own3
     have HF := Lh (And.intro own4 (U1.out _ hS9))
     have HN := Lh hr3
     refine ⟨hS9, ?_⟩
     clear own3 own4 hr3 b3 hr1 hs ht hc hm hSx Hins hGB hr Mr
     (refine tkH 10 (.slice A4 r3 c4) rfl (Qd rfl (fun W hW => by (go_simp))) ?_; simp only [Act.put, Qa, Qb, Qc])
     refine wpAnyH_done (by kernel_rfl) ?_ _
     clear hS9
     go_wp2_with fail
     go_ret
     exact ⟨_, rfl, by rw [← HN.out]; exact HF.out.1, HF.out.2⟩
structure AplR (p : PgV) (bd : List Nd) (w w' : World) (e : Ending) : Prop where
 ex : ∃ m : PgV, e = .returned (.tuple #[.agg m.cells, .int .i64 0]) ∧ (m.params = p.params ∧ m.V = p.V ∧ m.body = bd) ∧ w'.ownsRow w.heap.size 3 1 (.slice m.va m.V.length m.vcap) m.V.length (Qi m.V) ∧ w'.ownsRow w.heap.size 85 2 (.slice m.ba m.body.length m.bcap) m.body.length (m.body.flatMap Nd.cells) ∧ Below w.heap.size w w'
theorem AgZ {w : World} : (zeroValue 177).run Tryz.prog w = .ok (.agg #[.nilFunc, .nilFunc, .nilFunc, .nilFunc, .nilFunc, .nilFunc, .nilFunc, .nilFunc]) w := by kernel_rfl
theorem Y7 {w : World} : (zeroValue 25).run Tryz.prog w = .ok (.agg #[.int .i64 0, .slice none 0 0, .slice none 0 0]) w := by kernel_rfl
def Agj : Array Value := #[.nilFunc, .func (.func 109) #[] #[], .func (.func 110) #[] #[], .func (.func 111) #[] #[], .func (.func 112) #[] #[], .func (.func 113) #[] #[], .func (.func 114) #[] #[], .func (.func 115) #[] #[]]
theorem Ac3 (k : Nat) (fn : FuncId) (hk : 1 ≤ k ∧ k < 8) (hop : Agj[k]? = some (.func (.func fn) #[] #[])) (hen : ∀ args w, (callFunc fn args).run Tryz.prog w = .ok (.enter fn args) w) (p : PgV) (A : Option Addr) (cap : Nat) (π : List Int) (n : Int) (q : Nat) (bd : List Nd) (w : World) (hok : p.ok w) (hra : Rd w A (Qi π)) (hπ : π.length ≤ 1000000) (hf : KF p.body π = (q : Int)) (hbl : p.body.length ≤ 1000) (hV : p.V.length ≤ 12) (hbd : 0 < bd.length)
 (hch : ∀ W, Below w.heap.size w W → Calls Tryz.prog fn #[.agg (Zw p q n)] W fun e w' => NdsR bd W w' e) :
 Calls Tryz.prog 55 #[.agg p.cells, .agg #[.slice A π.length cap, .int .i64 (k : Int), .int .i64 n]] w fun e w' => AplR p bd w w' e := by
 have Hfind : Hid (∀ W, Below w.heap.size w W → Calls Tryz.prog 116 #[.slice p.ba p.body.length p.bcap, .slice A π.length cap] W fun e w' => e = .returned (.int .i64 (q : Int)) ∧ Below W.heap.size W w') := fun W b => by
  rw [← hf]; exact Afk p.ba A p.bcap cap p.body π W (hok.go b).brd hbl (hra.go b) hπ
 have Hcl : Hid (∀ W, Below w.heap.size w W → Calls Tryz.prog 117 #[.slice p.va p.V.length p.vcap] W fun e w' => IntsR p.V W w' e) := fun W b => Ua p.va p.vcap p.V W (hok.go b).vrd (fun e => List.eq_nil_of_length_eq_zero (by have h1 := hok.vlen; have h2 := hok.vnil e; omega)) (by omega)
 have Hch := Lh hch
 have Hop := Lh hop
 have k1 : ¬ ((k : Int) < 1) := by omega
 have k2 : ¬ ((8 : Int) ≤ (k : Int)) := by omega
 have k3 : (k : Int) < 8 := by omega
 have k4 : ¬ k = 0 := by omega
 have k5 : k < 8 := hk.2
 clear hop hk
 have hbld : ∀ W : World, (Instr.build 176 #[(0, .agg p.cells), (1, .int .i64 (q : Int)), (2, .int .i64 n)]).run Tryz.prog W = .ok (.agg (Zw p q n)) W := fun W => by kernel_rfl
 have hbI : ¬ ((bd.length : Int) = 0) := by omega
 have hq0 : ¬ ((q : Int) < 0) := by omega
 clear hok hra hπ hf hbl hch hbd hV
 go_enter Tryz.func55, Tryz.ntmps55
 go_wp2_with (refine Qp _ _ rfl ?_)
 refine Stop.to ?_
 refine Qf rfl 25 _ rfl p.cells rfl ?_
 intro G Gw Gh Gr Gb
 go_wp2_with (refine Qp _ _ rfl ?_)
 refine Stop.to ?_
 refine Qf rfl 35 _ rfl #[.slice A π.length cap, .int .i64 (k : Int), .int .i64 n] rfl ?_
 intro D Dw Dh Dr Db
 go_wp2_with (first | fail | (refine QY _ rfl ?_))
 refine Stop.to ?_
 refine Ql rfl 25 rfl _ _ Y7 rfl ?_
 intro R Rw Rh Rr Rb
 have b1 := (Below.refl w.heap.size w).trans (Gb.mono Gh)
 have b2 := b1.trans ((Db.mono Dh).mono b1.size)
 have b3 := b2.trans ((Rb.mono Rh).mono b2.size)
 have hR : w.heap.size ≤ R := Nat.le_trans b2.size Rh
 have rG := (Gr.below Db (Nat.lt_of_lt_of_le Gr.lt Dh))
 have rG2 := rG.below Rb (Nat.lt_of_lt_of_le rG.lt Rh)
 have rD := Dr.below Rb (Nat.lt_of_lt_of_le Dr.lt Rh)
 have hGR : G < R ∧ D < R := ⟨by have := Gr.lt; have := Db.size; omega, Nat.lt_of_lt_of_le Dr.lt Rh⟩
 have hRl := Rr.lt
 clear Gr Gb Gh Dr Db Dh Rb Rh rG b1 b2
 go_wp2_with (refine QY _ rfl ?_)
 refine Stop.to ?_
 refine Ql rfl 177 rfl _ _ AgZ rfl ?_
 intro F Fw Fh Fr Fb
 go_wp2_with (refine QD 177 _ _ rfl ?_)
 refine Stop.to ?_
 refine Qk rfl 177 _ _ rfl F Agj rfl rfl 177 _ Fr (by kernel_rfl) rfl (by simp [Agj, Value.oneCell']) ?_
 intro W9 r9 o9
 have hord : (G ≠ R ∧ D ≠ R) ∧ F ≠ R := by omega
 clear hGR hRl
 have bF := (Below.refl Rw.heap.size Rw).trans (Fb.mono Fh)
 have bK := bF.trans (o9.below Fh)
 have b4 := b3.trans (bK.mono b3.size)
 replace rG2 := rG2.below bK rG2.lt
 replace rD := rD.below bK rD.lt
 replace Rr := Rr.below bK Rr.lt
 clear bF bK b3 Fb Fh Fr o9
 have g2 := rG2.cellv (i := 2) (v := .slice p.ba p.body.length p.bcap) rfl
 have d0 := rD.cellv (i := 0) (v := .slice A π.length cap) rfl
 have Hf := Lh (Hfind.out _ b4)
 clear Hfind
 go_wp2_with fail
 refine Hf.out.mono ?_
 rintro e w1 ⟨rfl, b5⟩
 replace b4 := b4.trans (b5.mono b4.size)
 replace rG2 := rG2.below b5 rG2.lt
 replace rD := rD.below b5 rD.lt
 replace Rr := Rr.below b5 Rr.lt
 replace r9 := r9.below b5 r9.lt
 clear b5 g2 d0 Hf
 have d1 := rD.cellv (i := 1) (v := .int .i64 (k : Int)) rfl
 go_wp2_with fail
 obtain ⟨S, hSd⟩ : ∃ S, S = (fun W => (Row W G 25 p.cells ∧ Row W D 35 #[.slice A π.length cap, .int .i64 (k : Int), .int .i64 n]) ∧ Row W F 177 Agj ∧ Below w.heap.size w W ∧ Below w1.heap.size w1 W) := ⟨_, rfl⟩
 have stS : St S := by rw [hSd]; infer_instance
 have TG : Hid (∀ W, S W → Row W G 25 p.cells) := by show ∀ W, _; rw [hSd]; exact fun W h => h.1.1
 have TD : Hid (∀ W, S W → Row W D 35 #[.slice A π.length cap, .int .i64 (k : Int), .int .i64 n]) := by show ∀ W, _; rw [hSd]; exact fun W h => h.1.2
 have TF : Hid (∀ W, S W → Row W F 177 Agj) := by show ∀ W, _; rw [hSd]; exact fun W h => h.2.1
 have TB : Hid (∀ W, S W → Below w.heap.size w W) := by show ∀ W, _; rw [hSd]; exact fun W h => h.2.2.1
 have TW : Hid (∀ W, S W → Below w1.heap.size w1 W) := by show ∀ W, _; rw [hSd]; exact fun W h => h.2.2.2
 have hS : S w1 := by rw [hSd]; exact ⟨⟨rG2, rD⟩, r9, b4, Below.refl _ _⟩
 have HR : Hid (∀ W, Below w1.heap.size w1 W → Row W R 25 #[.int .i64 0, .slice none 0 0, .slice none 0 0]) := fun W b => Row.below (cs := #[.int .i64 0, .slice none 0 0, .slice none 0 0]) Rr b Rr.lt
 have hne : Hid ((G ≠ R ∧ D ≠ R) ∧ F ≠ R) := hord
 clear hSd rG2 rD Rr r9 b4 d1 hord
 refine Zt S 9 (by kernel_rfl) (by kernel_rfl) (St.drew hS) ?_
 clear hS
 simp only [List.take_succ_cons, List.take_zero, List.drop_succ_cons, List.drop_zero]
 (refine Qg rfl ?_ (fun W hW => ?_) ?_; rotate_left; (focus (go_simp; exact rfl)); simp only [Act.put, Qa, Qb, Qc])
 (refine Qg rfl ?_ (fun W hW => ?_) ?_; rotate_left; (focus (have c := (TD.out W hW).cellv (i := 1) (v := .int .i64 (k : Int)) rfl; go_simp; exact rfl)); simp only [Act.put, Qa, Qb, Qc])
 (refine Qg rfl ?_ (fun W hW => ?_) ?_; rotate_left; (focus (go_simp; exact rfl)); simp only [Act.put, Qa, Qb, Qc])
 (refine Qg rfl ?_ (fun W hW => ?_) ?_; rotate_left; (focus (have c := (TF.out W hW).cellv (i := k) (v := .func (.func fn) #[] #[]) Hop.out; go_simp; exact rfl)); simp only [Act.put, Qa, Qb, Qc])
 (refine QO rfl 25 _ rfl (G) rfl 25 _ _ TG.out Tryz.underlying25 rfl (by kernel_rfl) ?_; simp only [Act.put, Qa, Qb, Qc])
 iterate 2 (refine Qg rfl ?_ (fun W hW => ?_) ?_; rotate_left; (focus (go_simp; exact rfl)); simp only [Act.put, Qa, Qb, Qc])
 (refine Qg rfl ?_ (fun W hW => ?_) ?_; rotate_left; (focus (have c := (TD.out W hW).cellv (i := 2) (v := .int .i64 n) rfl; go_simp; exact rfl)); simp only [Act.put, Qa, Qb, Qc])
 (refine Qg rfl (.agg (Zw p q n)) (fun W hW => XW 176 [_, _, _] rfl _ (by exact hbld W)) ?_; simp only [Act.put, Qa, Qb, Qc])
 refine QV fun W hW => ?_
 have Hc := Lh (Hch.out W (TB.out W hW))
 clear Hch
 go_wp2_with (simp only [hen])
 refine Hc.out.mono ?_
 rintro e w2 ⟨v, rfl, hown, b6⟩
 have hS2 := stS.go hW b6
 have own1 := QI hown (TB.out W hW).size
 obtain ⟨A3, c3, rfl⟩ := Zd own1
 clear hown b6 Hc hW hbld
 go_wp2_with fail
 obtain ⟨S2, hSd⟩ : ∃ S2, S2 = (fun W => Row W G 25 p.cells ∧ Below w.heap.size w W) := ⟨_, rfl⟩
 have stS2 : St S2 := by rw [hSd]; infer_instance
 have U0 : Hid (∀ W, S2 W → Row W G 25 p.cells) := by show ∀ W, _; rw [hSd]; exact fun W h => h.1
 have U1 : Hid (∀ W, S2 W → Below w.heap.size w W) := by show ∀ W, _; rw [hSd]; exact fun W h => h.2
 have UMK : Hid (∀ W, Row W G 25 p.cells → Below w.heap.size w W → S2 W) := by show ∀ W, _; rw [hSd]; exact fun W h h2 => ⟨h, h2⟩
 have rR0 := HR.out _ (TW.out _ hS2)
 have hS3 := UMK.out _ (TG.out _ hS2) (TB.out _ hS2)
 clear hSd hS2 TD TF TW HR TG TB stS S
 refine wp_region_held (S := S2) (by kernel_rfl) ?_
 simp only [List.size_toArray, List.length_cons, List.length_nil, Nat.reduceAdd, Array.replicate_succ, Array.replicate_zero, List.push_toArray, List.nil_append, List.cons_append]
 show wpAnyH _ _ _ _ _ _ _ _ (w2).drew
 obtain ⟨V0, hV0⟩ : ∃ V0, V0 = (w2).drew := ⟨_, rfl⟩
 have b0 : Below w2.heap.size w2 V0 := by rw [hV0]; exact St.drew (S := fun W => Below w2.heap.size w2 W) (Below.refl _ _)
 rw [← hV0]
 clear hV0
 have hS0 : S2 V0 := stS2.go hS3 b0
 replace rR0 := rR0.below b0 rR0.lt
 have own2 := Qs own1 b0
 clear b0 own1 hS3
 (refine tkH 0 (.pointer (some ⟨G, 0, none⟩)) rfl (Qd rfl (fun W hW => by (go_simp))) ?_; simp only [Act.put, Qa, Qb, Qc])
 (refine tkH 1 (.int .i64 p.params) rfl (Qd rfl (fun W hW => by ((have c := (U0.out _ hW).cellv (i := 0) (v := .int .i64 p.params) rfl; go_simp)))) ?_; simp only [Act.put, Qa, Qb, Qc])
 (refine tkH 2 (.pointer (some ⟨G, 1, none⟩)) rfl (Qd rfl (fun W hW => by (go_simp))) ?_; simp only [Act.put, Qa, Qb, Qc])
 (refine tkH 3 (.slice p.va p.V.length p.vcap) rfl (Qd rfl (fun W hW => by ((have c := (U0.out _ hW).cellv (i := 1) (v := .slice p.va p.V.length p.vcap) rfl; go_simp)))) ?_; simp only [Act.put, Qa, Qb, Qc])
 (refine tkH 5 (.slice A3 bd.length c3) rfl (Qd rfl (fun W hW => by (go_simp))) ?_; simp only [Act.put, Qa, Qb, Qc])
 (refine wpAnyH_all (rs := [4]) (by kernel_rfl) (by simp) (fun i hi => ?_); obtain rfl : i = 4 := by simpa using hi)
 refine Qe rfl rfl (fun K2 hK2 => ?_)
 refine Qx 117 #[.slice p.va p.V.length p.vcap] (w1 := V0) (by go_simp) ((Hcl.out V0 (U1.out _ hS0)).mono ?_)
 rintro e V1 ⟨v6, rfl, own6, b6⟩
 refine ⟨_, rfl, ?_⟩
 refine hK2 _ _ ?_
 clear hK2 K2
 simp only [Act.put, Qa, Qb, Qc]
 have hS1 := stS2.go hS0 b6
 have own3 := Qs own2 b6
 have own7 := QI own6 (U1.out _ hS0).size
 have rR := rR0.below b6 rR0.lt
 clear own2 own6 b6 hS0 Hcl rR0
 obtain ⟨A6, c6, rfl⟩ := Zd own7
 refine ⟨hS1, ?_⟩
 (refine tkH 6 (.agg #[.int .i64 p.params, .slice A6 p.V.length c6, .slice A3 bd.length c3]) rfl (Qd rfl (fun W hW => by (go_simp))) ?_; simp only [Act.put, Qa, Qb, Qc])
 (refine wpAnyH_all (rs := [7]) (by kernel_rfl) (by simp) (fun i hi => ?_); obtain rfl : i = 7 := by simpa using hi)
 refine Qe rfl rfl (fun K2 hK2 => ?_)
 refine ZM 25 _ _ rfl R #[.int .i64 p.params, .slice A6 p.V.length c6, .slice A3 bd.length c3] rfl rfl 25 _ rR (by kernel_rfl) rfl (by simp [Value.oneCell']) ?_
 intro V2 rR2 o2
 refine hK2 _ _ ?_
 clear hK2 K2
 simp only [Act.put, Qa, Qb, Qc]
 have o3 := QA own3 o2 (Qz own3 rR (by decide))
 have o7 := QA own7 o2 (Qz own7 rR (by decide))
 have bE := Qo (U1.out _ hS1) o2 hR
 have hS4 := UMK.out _ ((U0.out _ hS1).only o2 hne.out.1.1) bE
 refine ⟨hS4, ?_⟩
 clear hS1 own3 own7 rR o2
 (refine tkH 8 (.int .i64 0) rfl (Qd rfl (fun W hW => by (go_simp))) ?_; simp only [Act.put, Qa, Qb, Qc])
 refine wpAnyH_done (by kernel_rfl) ?_ _
 go_wp2_with fail
 refine bodyPost_ret (QS Tryz.results55 _ _ R 25 _ (0, 0) _ rfl rR2 Tryz.underlying25 rfl (by kernel_rfl)) rfl ?_
 exact ⟨⟨p.params, A6, c6, p.V, A3, c3, bd⟩, rfl, ⟨rfl, rfl, rfl⟩, o7, o3, bE⟩
end Go.Proofs.YtdcmppdhdcjpfaaGreat
