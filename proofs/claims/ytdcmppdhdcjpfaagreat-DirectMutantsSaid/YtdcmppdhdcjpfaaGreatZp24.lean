/- Lemmas for DirectMutantsP. -/
import Derived.Test.YtdcmppdhdcjpfaaGreatZp1
import Derived.Test.YtdcmppdhdcjpfaaGreatZp23
import Derived.Test.YtdcmppdhdcjpfaaGreatZp21
import Derived.Lib.SlicesCompact
import Derived.Shelf.Small.Bits
import Derived.Shelf.Strconv.Itoa0
import Derived.Shelf.Sort.Plain
import Derived.Shelf.Bits.Mul64
import Derived.Shelf.Slices.Clone
import Derived.Shelf.Slices.CompactI
import Derived.Shelf.Slices.SearchI
import Derived.Shelf.Slices.Cells
import Derived.Shelf.Slices.In.SortNone
import Derived.Shelf.SlicesE.Clone
import Derived.Test.YtdcmppdhdcjpfaaGreatRows
import Derived.WalkKit
set_option linter.unusedVariables false
set_option linter.unusedSimpArgs false
set_option maxRecDepth 100000
set_option maxHeartbeats 16000000
namespace Go.Proofs.YtdcmppdhdcjpfaaGreat
open Go.RowKit Go.Deep
theorem AeH (g J cap i B : Nat) (l : List Nd) (y : Nd) (cur : Array Value) (w : World) (hg : Row w g 85 cur) (hs : cur.size = cap * 2) (ht : cur.toList.take (l.length * 2) = l.flatMap Nd.cells) (hn : l.length ≤ cap) (hc : cap ≤ maxLen) (hl : l.length ≤ 1000) (hi : i < l.length) (hJ : Row w J 85 #[.int .i64 y.tag, .int .i64 y.n]) (hne : J ≠ g) (hB : B ≤ g) :
 Calls Tryz.prog 185 #[.slice (some ⟨g, 0, none⟩) l.length cap, .int .i64 (i : Int), .slice (some ⟨J, 0, none⟩) 1 1] w fun e w' => ∃ v, e = .returned v ∧ w'.ownsRow B 85 2 v (l.take i ++ y :: l.drop i).length ((l.take i ++ y :: l.drop i).flatMap Nd.cells) ∧ Below B w w' := by
 have hlen : (l.take i ++ y :: l.drop i).length = l.length + 1 := by rw [List.length_append, List.length_cons, List.length_take, List.length_drop]; omega
 by_cases h : l.length + 1 ≤ cap
 · refine (AaH g J cap i l y cur w hg hs ht h hc hl hi hJ hne B hB).mono ?_
   rintro e w' ⟨rfl, ⟨cur', h1, h2, h3⟩, b⟩
   exact ⟨_, rfl, ⟨by rw [ZP, hlen], .inr ⟨g, cap, cur', by rw [hlen], hB, h1, by omega, hc, h2, by rw [hlen]; exact h3⟩⟩, b⟩
 · obtain rfl : cap = l.length := by omega
   have ht2 : cur.toList = l.flatMap Nd.cells := by rw [← ht, List.take_of_length_le (by rw [Array.length_toList, hs]; exact Nat.le_refl _)]
   have hgl := hg.lt
   refine (E5 g J i l y cur w hg hs ht2 hl hi hJ).mono ?_
   rintro e w' ⟨N, G, cur', rfl, hN, hG, hGm, h1, h2, h3, b⟩
   exact ⟨_, rfl, ⟨by rw [ZP, hlen], .inr ⟨N, G, cur', by rw [hlen], by omega, h1, by omega, hGm, h2, by rw [hlen]; exact h3⟩⟩, b.mono (by omega)⟩
theorem Yn : (Tryz.prog.info? 85).map (fun i => (i.zero, i.size)) = some (some (.agg #[.int .i64 0, .int .i64 0]), 2) := by kernel_rfl
theorem Adq (p : PgV) (q : Nat) (t : Tr) (w : World) (hat : At p.body q t) (hbl : p.body.length ≤ 1000) (hok : p.ok w) (h : t.root.tag = 23 ∨ t.root.tag = 24) (hq : q + 1 < p.body.length) :
 Calls Tryz.prog 114 #[.agg (Zs p q 0)] w fun e w' => NdsR (p.body.take (q + 1) ++ (⟨6, 0⟩ :: p.body.drop (q + 1))) w w' e := by
 have Hn : Hid (∀ W, Below w.heap.size w W → Calls Tryz.prog 182 #[.agg (Zs p q 0)] W fun e w' => e = .returned (.agg #[.int .i64 t.root.tag, .int .i64 t.root.n]) ∧ Below W.heap.size W w') := fun W b => Kg p q 0 t.root W hat.root (hok.go b)
 have Hc0 : Hid (∀ W, Below w.heap.size w W → Calls Tryz.prog 186 #[.slice p.ba p.body.length p.bcap] W fun e w' => NdsR p.body W w' e) := fun W b => UK p.ba p.bcap p.body W (hok.go b).brd (fun e => List.eq_nil_of_length_eq_zero (by have h1 := hok.blen; have h2 := hok.bnil e; omega)) (by omega)
 have Hi : Hid (∀ (g J cap B : Nat) (cur : Array Value) (W : World), Row W g 85 cur → cur.size = cap * 2 → cur.toList.take (p.body.length * 2) = p.body.flatMap Nd.cells → p.body.length ≤ cap → cap ≤ maxLen → Row W J 85 #[.int .i64 6, .int .i64 0] → J ≠ g → B ≤ g →
  Calls Tryz.prog 185 #[.slice (some ⟨g, 0, none⟩) p.body.length cap, .int .i64 ((q : Int) + 1), .slice (some ⟨J, 0, none⟩) 1 1] W fun e w' => ∃ v, e = .returned v ∧ w'.ownsRow B 85 2 v (p.body.take (q + 1) ++ ⟨6, 0⟩ :: p.body.drop (q + 1)).length ((p.body.take (q + 1) ++ ⟨6, 0⟩ :: p.body.drop (q + 1)).flatMap Nd.cells) ∧ Below B W w') := fun g J cap B cur W h1 h2 h3 h4 h5 h6 h7 h8 =>
  AeH g J cap (q + 1) B p.body ⟨6, 0⟩ cur W h1 h2 h3 h4 h5 hbl hq h6 h7 h8
 obtain ⟨k, hk⟩ : ∃ k, k = t.root.tag := ⟨_, rfl⟩
 obtain ⟨m, hm⟩ : ∃ m, m = t.root.n := ⟨_, rfl⟩
 obtain ⟨r, hr⟩ : ∃ r, r = p.body.take (q + 1) ++ (⟨6, 0⟩ :: p.body.drop (q + 1)) := ⟨_, rfl⟩
 have hqI : (q : Int) ≤ 1000 := by omega
 have Hne : Hid (¬ p.body.length = 0) := by show ¬ _; omega
 rw [← hk] at h
 rw [← hk, ← hm] at Hn
 rw [← hr] at Hi ⊢
 have f0 := XF k m
 clear hk hm hr hat hbl hok hq
 go_enter Tryz.func114, Tryz.ntmps114
 go_wp2_with (refine Qq _ _ rfl ?_)
 refine Stop.to ?_
 refine Qe rfl 176 _ rfl (Zs p q 0) rfl ?_
 intro G Gw Gh Gr Gb
 have b1 := (Below.refl w.heap.size w).trans (Gb.mono Gh)
 have Hc := Lh (Hn.out _ b1)
 clear Gb Gh Hn
 go_wp2_with (refine wpList_load_row rfl 176 _ rfl G rfl 176 (Zs p q 0) (0, 0) _ Gr Tryz.underlying176 rfl (by kernel_rfl) ?_)
 refine Hc.out.mono ?_
 rintro e w1 ⟨rfl, b2⟩
 have Gr3 := Gr.below b2 Gr.lt
 have b4 := b1.trans (b2.mono b1.size)
 have g2 := Gr3.cellv (i := 2) (v := .slice p.ba p.body.length p.bcap) rfl
 have g3 := Gr3.cellv (i := 3) (v := .int .i64 q) rfl
 have g4 := Gr3.cellv (i := 4) (v := .int .i64 0) rfl
 clear Gr b1 b2 Hc
 rcases h with rfl | rfl
 all_goals
  go_wp2_with fail
  skip
 · obtain ⟨S, hSd⟩ : ∃ S, S = (fun W => Row W G 176 (Zs p q 0) ∧ Below w.heap.size w W) := ⟨_, rfl⟩
   have stS : St S := by rw [hSd]; infer_instance
   have U0 : Hid (∀ W, S W → Row W G 176 (Zs p q 0)) := by show ∀ W, _; rw [hSd]; exact fun W h => h.1
   have U1 : Hid (∀ W, S W → Below w.heap.size w W) := by show ∀ W, _; rw [hSd]; exact fun W h => h.2
   have UMK : Hid (∀ W, Row W G 176 (Zs p q 0) → Below w.heap.size w W → S W) := by show ∀ W, _; rw [hSd]; exact fun W h h2 => ⟨h, h2⟩
   have hS3 := UMK.out _ Gr3 b4
   clear hSd Gr3 b4 g2 g3 g4 f0
   refine wp_region_held (S := S) (by kernel_rfl) ?_
   simp only [List.size_toArray, List.length_cons, List.length_nil, Nat.reduceAdd, Array.replicate_succ, Array.replicate_zero, List.push_toArray, List.nil_append, List.cons_append]
   show wpAnyH _ _ _ _ _ _ _ _ (w1).drew
   obtain ⟨V0, hV0⟩ : ∃ V0, V0 = (w1).drew := ⟨_, rfl⟩
   rw [← hV0]
   have hS0 : S V0 := by rw [hV0]; exact St.drew hS3
   clear hV0 hS3
   have ewq : IntKind.i64.wrap ((q : Int) + 1) = (q : Int) + 1 := IntWalk.i64_in _ (by omega)
   (refine tkH 0 (.pointer (some ⟨G, 0, none⟩)) rfl (Qd rfl (fun W hW => by (go_simp))) ?_; simp only [Act.put, Qa, Qb, Qc])
   (refine tkH 1 (.pointer (some ⟨G, 2, none⟩)) rfl (Qd rfl (fun W hW => by (go_simp))) ?_; simp only [Act.put, Qa, Qb, Qc])
   (refine tkH 2 (.slice p.ba p.body.length p.bcap) rfl (Qd rfl (fun W hW => by ((have c := (U0.out _ hW).cellv (i := 2) (v := .slice p.ba p.body.length p.bcap) rfl; go_simp)))) ?_; simp only [Act.put, Qa, Qb, Qc])
   (refine tkH 4 (.pointer (some ⟨G, 3, none⟩)) rfl (Qd rfl (fun W hW => by (go_simp))) ?_; simp only [Act.put, Qa, Qb, Qc])
   (refine tkH 5 (.int .i64 (q : Int)) rfl (Qd rfl (fun W hW => by ((have c := (U0.out _ hW).cellv (i := 3) (v := .int .i64 q) rfl; go_simp)))) ?_; simp only [Act.put, Qa, Qb, Qc])
   (refine tkH 6 (.int .i64 ((q : Int) + 1)) rfl (Qd rfl (fun W hW => by (go_simp))) ?_; simp only [Act.put, Qa, Qb, Qc])
   (refine tkH 7 (.agg #[.int .i64 6, .int .i64 0]) rfl (Qd rfl (fun W hW => by (go_simp))) ?_; simp only [Act.put, Qa, Qb, Qc])
   refine wpAnyH_all (rs := [3, 8]) (by kernel_rfl) (by simp) (fun i hi => ?_)
   have hi2 : i = 3 ∨ i = 8 := by simpa using hi
   clear hi
   rcases hi2 with rfl | rfl
   · refine Qf rfl rfl (fun K2 hK2 => ?_)
     refine QB 186 #[.slice p.ba p.body.length p.bcap] (w1 := V0) (by go_simp) ((Hc0.out V0 (U1.out _ hS0)).mono ?_)
     rintro e V1 ⟨v, rfl, ⟨_, h0 | ⟨g, cap, cur, rfl, hb, hr, hc, hm, hs, ht⟩⟩, b1⟩
     · exact absurd h0.2 Hne.out
     refine ⟨_, rfl, ?_⟩
     refine hK2 _ _ ?_
     clear hK2 K2
     simp only [Act.put, Qa, Qb, Qc]
     have hS1 := stS.go hS0 b1
     have s1 := b1.size
     have hrR : Row V1 g 85 cur := hr
     have hgl := hrR.lt
     have hGl := (U0.out _ hS0).lt
     have hlow := (U1.out _ hS0).size
     clear b1 hS0
     refine ⟨hS1, ?_⟩
     (refine wpAnyH_all (rs := [8]) (by kernel_rfl) (by simp) (fun i hi => ?_); obtain rfl : i = 8 := by simpa using hi)
     refine Qf rfl rfl (fun K2 hK2 => ?_)
     refine Qn (.slice (some ⟨V1.heap.size, 0, none⟩) 1 1) (Q3 [(0, .tmp 25)] rfl (Jj (cells := #[.int .i64 6, .int .i64 0]) Tryz.underlying23 Yn (by decide) (by decide) (by kernel_rfl) V1)) ?_
     refine hK2 _ _ ?_
     clear hK2 K2
     simp only [Act.put, Qa, Qb, Qc]
     obtain ⟨M, hM⟩ : ∃ M, M = V1.heap.size := ⟨_, rfl⟩
     obtain ⟨V2, hV2⟩ : ∃ V2, V2 = V1.alloc (.cells #[.int .i64 6, .int .i64 0] 85) := ⟨_, rfl⟩
     have Mr : Row V2 M 85 #[.int .i64 6, .int .i64 0] := by rw [hV2, hM]; exact Row.new _ _ _
     have Mb : Below V1.heap.size V1 V2 := by rw [hV2]; exact (Below.refl _ _).alloc (Nat.le_refl _) _
     rw [← hM, ← hV2]
     have hSx := stS.go hS1 Mb
     have hMg : M ≠ g := by omega
     have hr2 := hrR.below Mb hgl
     clear hrR
     clear hM hV2 hS1 Mb
     refine ⟨hSx, ?_⟩
     have hr1 := hr2
     have hGB : G < V0.heap.size := hGl
     have Hins := Lh (Hi.out g M cap V0.heap.size cur V2 hr1 hs ht hc hm Mr hMg hb)
     (refine wpAnyH_all (rs := [9]) (by kernel_rfl) (by simp) (fun i hi => ?_); obtain rfl : i = 9 := by simpa using hi)
     refine Qf rfl rfl (fun K2 hK2 => ?_)
     refine QB 185 #[.slice (some ⟨g, 0, none⟩) p.body.length cap, .int .i64 ((q : Int) + 1), .slice (some ⟨M, 0, none⟩) 1 1] (w1 := V2) (by go_simp) (Hins.out.mono ?_)
     rintro e V3 ⟨v3, rfl, own3, b3⟩
     refine ⟨_, rfl, ?_⟩
     refine hK2 _ _ ?_
     clear hK2 K2
     simp only [Act.put, Qa, Qb, Qc]
     have hS9 : S V3 := UMK.out _ ((U0.out _ hSx).below b3 hGB) ((U1.out _ hSx).trans (b3.mono hlow))
     have own4 := QH own3 hlow
     obtain ⟨r3, hr3⟩ : ∃ r3, r3 = r.length := ⟨_, rfl⟩
     rw [← hr3] at own4 own3
     obtain ⟨A4, c4, rfl⟩ := Ze own3
     have HF := Lh (And.intro own4 (U1.out _ hS9))
     have HN := Lh hr3
     refine ⟨hS9, ?_⟩
     clear own3 own4 hr3 b3 hr1 hs ht hc hm hSx Hins hGB hr Mr
     (refine tkH 10 (.slice A4 r3 c4) rfl (Qd rfl (fun W hW => by (go_simp))) ?_; simp only [Act.put, Qa, Qb, Qc])
     refine wpAnyH_done (by kernel_rfl) ?_ _
     clear hS9
     go_wp2_with fail
     go_ret
     exact ⟨_, rfl, by rw [← HN.out]; exact HF.out.1, HF.out.2⟩
   · refine Qf rfl rfl (fun K2 hK2 => ?_)
     refine Qn (.slice (some ⟨V0.heap.size, 0, none⟩) 1 1) (Q3 [(0, .tmp 25)] rfl (Jj (cells := #[.int .i64 6, .int .i64 0]) Tryz.underlying23 Yn (by decide) (by decide) (by kernel_rfl) V0)) ?_
     refine hK2 _ _ ?_
     clear hK2 K2
     simp only [Act.put, Qa, Qb, Qc]
     obtain ⟨M, hM⟩ : ∃ M, M = V0.heap.size := ⟨_, rfl⟩
     obtain ⟨V2, hV2⟩ : ∃ V2, V2 = V0.alloc (.cells #[.int .i64 6, .int .i64 0] 85) := ⟨_, rfl⟩
     have Mr : Row V2 M 85 #[.int .i64 6, .int .i64 0] := by rw [hV2, hM]; exact Row.new _ _ _
     have Mb : Below V0.heap.size V0 V2 := by rw [hV2]; exact (Below.refl _ _).alloc (Nat.le_refl _) _
     rw [← hM, ← hV2]
     have hS1 := stS.go hS0 Mb
     clear hM hV2 hS0 Mb
     refine ⟨hS1, ?_⟩
     (refine wpAnyH_all (rs := [3]) (by kernel_rfl) (by simp) (fun i hi => ?_); obtain rfl : i = 3 := by simpa using hi)
     refine Qf rfl rfl (fun K2 hK2 => ?_)
     refine QB 186 #[.slice p.ba p.body.length p.bcap] (w1 := V2) (by go_simp) ((Hc0.out V2 (U1.out _ hS1)).mono ?_)
     rintro e V1 ⟨v, rfl, ⟨_, h0 | ⟨g, cap, cur, rfl, hb, hr, hc, hm, hs, ht⟩⟩, b1⟩
     · exact absurd h0.2 Hne.out
     refine ⟨_, rfl, ?_⟩
     refine hK2 _ _ ?_
     clear hK2 K2
     simp only [Act.put, Qa, Qb, Qc]
     have hSx := stS.go hS1 b1
     have hMl := Mr.lt
     have hGl := (U0.out _ hS1).lt
     have hlow := (U1.out _ hS1).size
     replace Mr := Mr.below b1 hMl
     have hMg : M ≠ g := by omega
     clear b1 hS1
     refine ⟨hSx, ?_⟩
     have hr1 := hr
     have hGB : G < V2.heap.size := hGl
     have Hins := Lh (Hi.out g M cap V2.heap.size cur V1 hr1 hs ht hc hm Mr hMg hb)
     (refine wpAnyH_all (rs := [9]) (by kernel_rfl) (by simp) (fun i hi => ?_); obtain rfl : i = 9 := by simpa using hi)
     refine Qf rfl rfl (fun K2 hK2 => ?_)
     refine QB 185 #[.slice (some ⟨g, 0, none⟩) p.body.length cap, .int .i64 ((q : Int) + 1), .slice (some ⟨M, 0, none⟩) 1 1] (w1 := V1) (by go_simp) (Hins.out.mono ?_)
     rintro e V3 ⟨v3, rfl, own3, b3⟩
     refine ⟨_, rfl, ?_⟩
     refine hK2 _ _ ?_
     clear hK2 K2
     simp only [Act.put, Qa, Qb, Qc]
     have hS9 : S V3 := UMK.out _ ((U0.out _ hSx).below b3 hGB) ((U1.out _ hSx).trans (b3.mono hlow))
     have own4 := QH own3 hlow
     obtain ⟨r3, hr3⟩ : ∃ r3, r3 = r.length := ⟨_, rfl⟩
     rw [← hr3] at own4 own3
     obtain ⟨A4, c4, rfl⟩ := Ze own3
     have HF := Lh (And.intro own4 (U1.out _ hS9))
     have HN := Lh hr3
     refine ⟨hS9, ?_⟩
     clear own3 own4 hr3 b3 hr1 hs ht hc hm hSx Hins hGB hr Mr
     (refine tkH 10 (.slice A4 r3 c4) rfl (Qd rfl (fun W hW => by (go_simp))) ?_; simp only [Act.put, Qa, Qb, Qc])
     refine wpAnyH_done (by kernel_rfl) ?_ _
     clear hS9
     go_wp2_with fail
     go_ret
     exact ⟨_, rfl, by rw [← HN.out]; exact HF.out.1, HF.out.2⟩
 · obtain ⟨S, hSd⟩ : ∃ S, S = (fun W => Row W G 176 (Zs p q 0) ∧ Below w.heap.size w W) := ⟨_, rfl⟩
   have stS : St S := by rw [hSd]; infer_instance
   have U0 : Hid (∀ W, S W → Row W G 176 (Zs p q 0)) := by show ∀ W, _; rw [hSd]; exact fun W h => h.1
   have U1 : Hid (∀ W, S W → Below w.heap.size w W) := by show ∀ W, _; rw [hSd]; exact fun W h => h.2
   have UMK : Hid (∀ W, Row W G 176 (Zs p q 0) → Below w.heap.size w W → S W) := by show ∀ W, _; rw [hSd]; exact fun W h h2 => ⟨h, h2⟩
   have hS3 := UMK.out _ Gr3 b4
   clear hSd Gr3 b4 g2 g3 g4 f0
   refine wp_region_held (S := S) (by kernel_rfl) ?_
   simp only [List.size_toArray, List.length_cons, List.length_nil, Nat.reduceAdd, Array.replicate_succ, Array.replicate_zero, List.push_toArray, List.nil_append, List.cons_append]
   show wpAnyH _ _ _ _ _ _ _ _ (w1).drew
   obtain ⟨V0, hV0⟩ : ∃ V0, V0 = (w1).drew := ⟨_, rfl⟩
   rw [← hV0]
   have hS0 : S V0 := by rw [hV0]; exact St.drew hS3
   clear hV0 hS3
   have ewq : IntKind.i64.wrap ((q : Int) + 1) = (q : Int) + 1 := IntWalk.i64_in _ (by omega)
   (refine tkH 0 (.pointer (some ⟨G, 0, none⟩)) rfl (Qd rfl (fun W hW => by (go_simp))) ?_; simp only [Act.put, Qa, Qb, Qc])
   (refine tkH 1 (.pointer (some ⟨G, 2, none⟩)) rfl (Qd rfl (fun W hW => by (go_simp))) ?_; simp only [Act.put, Qa, Qb, Qc])
   (refine tkH 2 (.slice p.ba p.body.length p.bcap) rfl (Qd rfl (fun W hW => by ((have c := (U0.out _ hW).cellv (i := 2) (v := .slice p.ba p.body.length p.bcap) rfl; go_simp)))) ?_; simp only [Act.put, Qa, Qb, Qc])
   (refine tkH 4 (.pointer (some ⟨G, 3, none⟩)) rfl (Qd rfl (fun W hW => by (go_simp))) ?_; simp only [Act.put, Qa, Qb, Qc])
   (refine tkH 5 (.int .i64 (q : Int)) rfl (Qd rfl (fun W hW => by ((have c := (U0.out _ hW).cellv (i := 3) (v := .int .i64 q) rfl; go_simp)))) ?_; simp only [Act.put, Qa, Qb, Qc])
   (refine tkH 6 (.int .i64 ((q : Int) + 1)) rfl (Qd rfl (fun W hW => by (go_simp))) ?_; simp only [Act.put, Qa, Qb, Qc])
   (refine tkH 7 (.agg #[.int .i64 6, .int .i64 0]) rfl (Qd rfl (fun W hW => by (go_simp))) ?_; simp only [Act.put, Qa, Qb, Qc])
   refine wpAnyH_all (rs := [3, 8]) (by kernel_rfl) (by simp) (fun i hi => ?_)
   have hi2 : i = 3 ∨ i = 8 := by simpa using hi
   clear hi
   rcases hi2 with rfl | rfl
   · refine Qf rfl rfl (fun K2 hK2 => ?_)
     refine QB 186 #[.slice p.ba p.body.length p.bcap] (w1 := V0) (by go_simp) ((Hc0.out V0 (U1.out _ hS0)).mono ?_)
     rintro e V1 ⟨v, rfl, ⟨_, h0 | ⟨g, cap, cur, rfl, hb, hr, hc, hm, hs, ht⟩⟩, b1⟩
     · exact absurd h0.2 Hne.out
     refine ⟨_, rfl, ?_⟩
     refine hK2 _ _ ?_
     clear hK2 K2
     simp only [Act.put, Qa, Qb, Qc]
     have hS1 := stS.go hS0 b1
     have s1 := b1.size
     have hrR : Row V1 g 85 cur := hr
     have hgl := hrR.lt
     have hGl := (U0.out _ hS0).lt
     have hlow := (U1.out _ hS0).size
     clear b1 hS0
     refine ⟨hS1, ?_⟩
     (refine wpAnyH_all (rs := [8]) (by kernel_rfl) (by simp) (fun i hi => ?_); obtain rfl : i = 8 := by simpa using hi)
     refine Qf rfl rfl (fun K2 hK2 => ?_)
     refine Qn (.slice (some ⟨V1.heap.size, 0, none⟩) 1 1) (Q3 [(0, .tmp 25)] rfl (Jj (cells := #[.int .i64 6, .int .i64 0]) Tryz.underlying23 Yn (by decide) (by decide) (by kernel_rfl) V1)) ?_
     refine hK2 _ _ ?_
     clear hK2 K2
     simp only [Act.put, Qa, Qb, Qc]
     obtain ⟨M, hM⟩ : ∃ M, M = V1.heap.size := ⟨_, rfl⟩
     obtain ⟨V2, hV2⟩ : ∃ V2, V2 = V1.alloc (.cells #[.int .i64 6, .int .i64 0] 85) := ⟨_, rfl⟩
     have Mr : Row V2 M 85 #[.int .i64 6, .int .i64 0] := by rw [hV2, hM]; exact Row.new _ _ _
     have Mb : Below V1.heap.size V1 V2 := by rw [hV2]; exact (Below.refl _ _).alloc (Nat.le_refl _) _
     rw [← hM, ← hV2]
     have hSx := stS.go hS1 Mb
     have hMg : M ≠ g := by omega
     have hr2 := hrR.below Mb hgl
     clear hrR
     clear hM hV2 hS1 Mb
     refine ⟨hSx, ?_⟩
     have hr1 := hr2
     have hGB : G < V0.heap.size := hGl
     have Hins := Lh (Hi.out g M cap V0.heap.size cur V2 hr1 hs ht hc hm Mr hMg hb)
     (refine wpAnyH_all (rs := [9]) (by kernel_rfl) (by simp) (fun i hi => ?_); obtain rfl : i = 9 := by simpa using hi)
     refine Qf rfl rfl (fun K2 hK2 => ?_)
     refine QB 185 #[.slice (some ⟨g, 0, none⟩) p.body.length cap, .int .i64 ((q : Int) + 1), .slice (some ⟨M, 0, none⟩) 1 1] (w1 := V2) (by go_simp) (Hins.out.mono ?_)
     rintro e V3 ⟨v3, rfl, own3, b3⟩
     refine ⟨_, rfl, ?_⟩
     refine hK2 _ _ ?_
     clear hK2 K2
     simp only [Act.put, Qa, Qb, Qc]
     have hS9 : S V3 := UMK.out _ ((U0.out _ hSx).below b3 hGB) ((U1.out _ hSx).trans (b3.mono hlow))
     have own4 := QH own3 hlow
     obtain ⟨r3, hr3⟩ : ∃ r3, r3 = r.length := ⟨_, rfl⟩
     rw [← hr3] at own4 own3
     obtain ⟨A4, c4, rfl⟩ := Ze own3
     have HF := Lh (And.intro own4 (U1.out _ hS9))
     have HN := Lh hr3
     refine ⟨hS9, ?_⟩
     clear own3 own4 hr3 b3 hr1 hs ht hc hm hSx Hins hGB hr Mr
     (refine tkH 10 (.slice A4 r3 c4) rfl (Qd rfl (fun W hW => by (go_simp))) ?_; simp only [Act.put, Qa, Qb, Qc])
     refine wpAnyH_done (by kernel_rfl) ?_ _
     clear hS9
     go_wp2_with fail
     go_ret
     exact ⟨_, rfl, by rw [← HN.out]; exact HF.out.1, HF.out.2⟩
   · refine Qf rfl rfl (fun K2 hK2 => ?_)
     refine Qn (.slice (some ⟨V0.heap.size, 0, none⟩) 1 1) (Q3 [(0, .tmp 25)] rfl (Jj (cells := #[.int .i64 6, .int .i64 0]) Tryz.underlying23 Yn (by decide) (by decide) (by kernel_rfl) V0)) ?_
     refine hK2 _ _ ?_
     clear hK2 K2
     simp only [Act.put, Qa, Qb, Qc]
     obtain ⟨M, hM⟩ : ∃ M, M = V0.heap.size := ⟨_, rfl⟩
     obtain ⟨V2, hV2⟩ : ∃ V2, V2 = V0.alloc (.cells #[.int .i64 6, .int .i64 0] 85) := ⟨_, rfl⟩
     have Mr : Row V2 M 85 #[.int .i64 6, .int .i64 0] := by rw [hV2, hM]; exact Row.new _ _ _
     have Mb : Below V0.heap.size V0 V2 := by rw [hV2]; exact (Below.refl _ _).alloc (Nat.le_refl _) _
     rw [← hM, ← hV2]
     have hS1 := stS.go hS0 Mb
     clear hM hV2 hS0 Mb
     refine ⟨hS1, ?_⟩
     (refine wpAnyH_all (rs := [3]) (by kernel_rfl) (by simp) (fun i hi => ?_); obtain rfl : i = 3 := by simpa using hi)
     refine Qf rfl rfl (fun K2 hK2 => ?_)
     refine QB 186 #[.slice p.ba p.body.length p.bcap] (w1 := V2) (by go_simp) ((Hc0.out V2 (U1.out _ hS1)).mono ?_)
     rintro e V1 ⟨v, rfl, ⟨_, h0 | ⟨g, cap, cur, rfl, hb, hr, hc, hm, hs, ht⟩⟩, b1⟩
     · exact absurd h0.2 Hne.out
     refine ⟨_, rfl, ?_⟩
     refine hK2 _ _ ?_
     clear hK2 K2
     simp only [Act.put, Qa, Qb, Qc]
     have hSx := stS.go hS1 b1
     have hMl := Mr.lt
     have hGl := (U0.out _ hS1).lt
     have hlow := (U1.out _ hS1).size
     replace Mr := Mr.below b1 hMl
     have hMg : M ≠ g := by omega
     clear b1 hS1
     refine ⟨hSx, ?_⟩
     have hr1 := hr
     have hGB : G < V2.heap.size := hGl
     have Hins := Lh (Hi.out g M cap V2.heap.size cur V1 hr1 hs ht hc hm Mr hMg hb)
     (refine wpAnyH_all (rs := [9]) (by kernel_rfl) (by simp) (fun i hi => ?_); obtain rfl : i = 9 := by simpa using hi)
     refine Qf rfl rfl (fun K2 hK2 => ?_)
     refine QB 185 #[.slice (some ⟨g, 0, none⟩) p.body.length cap, .int .i64 ((q : Int) + 1), .slice (some ⟨M, 0, none⟩) 1 1] (w1 := V1) (by go_simp) (Hins.out.mono ?_)
     rintro e V3 ⟨v3, rfl, own3, b3⟩
     refine ⟨_, rfl, ?_⟩
     refine hK2 _ _ ?_
     clear hK2 K2
     simp only [Act.put, Qa, Qb, Qc]
     have hS9 : S V3 := UMK.out _ ((U0.out _ hSx).below b3 hGB) ((U1.out _ hSx).trans (b3.mono hlow))
     have own4 := QH own3 hlow
     obtain ⟨r3, hr3⟩ : ∃ r3, r3 = r.length := ⟨_, rfl⟩
     rw [← hr3] at own4 own3
     obtain ⟨A4, c4, rfl⟩ := Ze own3
     have HF := Lh (And.intro own4 (U1.out _ hS9))
     have HN := Lh hr3
     refine ⟨hS9, ?_⟩
     clear own3 own4 hr3 b3 hr1 hs ht hc hm hSx Hins hGB hr Mr
     (refine tkH 10 (.slice A4 r3 c4) rfl (Qd rfl (fun W hW => by (go_simp))) ?_; simp only [Act.put, Qa, Qb, Qc])
     refine wpAnyH_done (by kernel_rfl) ?_ _
     clear hS9
     go_wp2_with fail
     go_ret
     exact ⟨_, rfl, by rw [← HN.out]; exact HF.out.1, HF.out.2⟩
end Go.Proofs.YtdcmppdhdcjpfaaGreat
namespace Go.Proofs.YtdcmppdhdcjpfaaGreat
open Go.RowKit
theorem Ab1 (a : Int) : ∀ l : List Int, (Vm a l).length ≤ l.length + 1
 | [] => by simp [Vm]
 | b :: l => by
  rw [Vm]
  split
  · simp
  · split
    · simp
    · have := Ab1 a l; simp; omega
theorem UJ : ∀ l : List Int, (Kn l).length ≤ l.length
 | [] => by simp [Kn]
 | a :: l => by have := Ab1 a (Kn l); have := UJ l; rw [Kn]; simp; omega
theorem Uc : ∀ {l : List Int}, l.Pairwise (· < ·) → JB l
 | [], _ => trivial
 | [_], _ => trivial
 | a :: b :: l, h => by
  rw [List.pairwise_cons] at h
  exact ⟨h.1 b (by simp), Uc h.2⟩
theorem EE {s : List Int} (hs : s.Pairwise (· ≤ ·)) : JB (Lib.compact s) ∧ ∀ x, x ∈ Lib.compact s ↔ x ∈ s := by
 have hget : ∀ j, j < s.length → ∃ x, s[j]? = some x ∧ s.toArray[j]! = x := fun j hj => ⟨s[j], List.getElem?_eq_getElem hj, by simp [hj]⟩
 have hmono : ∀ i j x y, i ≤ j → s[i]? = some x → s[j]? = some y → x ≤ y := fun i j x y hij hx hy => by
  rcases Nat.lt_or_eq_of_le hij with h | h
  · obtain ⟨h1, rfl⟩ := List.getElem?_eq_some_iff.1 hx
    obtain ⟨h2, rfl⟩ := List.getElem?_eq_some_iff.1 hy
    exact List.pairwise_iff_getElem.1 hs i j h1 h2 h
  · subst h; rw [hx] at hy; injection hy with hy; omega
 constructor
 · refine Uc ?_
   unfold Lib.compact Lib.compactUpTo
   rw [List.pairwise_map, List.pairwise_filter]
   rw [List.pairwise_iff_getElem]
   intro i j hi hj hij hki hkj
   simp only [List.getElem_range] at *
   rw [List.length_range] at hi hj
   unfold Lib.keeps at hkj
   rw [decide_eq_true_eq] at hkj
   obtain ⟨x, hx, hx'⟩ := hget i hi
   obtain ⟨y, hy, hy'⟩ := hget j hj
   obtain ⟨z, hz, hz'⟩ := hget (j - 1) (by omega)
   rw [hx', hy']
   rw [hy', hz'] at hkj
   have h1 := hmono i (j - 1) x z (by omega) hx hz
   have h2 := hmono (j - 1) j z y (by omega) hz hy
   rcases hkj with h | h <;> omega
 · intro x
   unfold Lib.compact Lib.compactUpTo
   rw [List.mem_map]
   constructor
   · rintro ⟨j, hj, rfl⟩
     have hj2 := List.mem_range.1 (List.mem_filter.1 hj).1
     obtain ⟨y, hy, hy'⟩ := hget j hj2
     rw [hy']; exact List.mem_of_getElem? hy
   · intro hx
     obtain ⟨j, hj, hjx⟩ := List.getElem_of_mem hx
     have : ∀ (n j : Nat), j ≤ n → s[j]? = some x → ∃ a : Nat, a ∈ (List.range s.length).filter (Lib.keeps s.toArray) ∧ s.toArray[a]! = x := by
      intro n
      induction n with
      | zero =>
       intro j hj0 hjx
       obtain rfl : j = 0 := by omega
       have hlt := (List.getElem?_eq_some_iff.1 hjx).1
       obtain ⟨y, hy, hy'⟩ := hget 0 hlt
       rw [hy] at hjx; injection hjx with hjx
       exact ⟨0, List.mem_filter.2 ⟨List.mem_range.2 hlt, by simp [Lib.keeps]⟩, by rw [hy', hjx]⟩
      | succ n ih =>
       intro j hjn hjx
       have hlt := (List.getElem?_eq_some_iff.1 hjx).1
       obtain ⟨y, hy, hy'⟩ := hget j hlt
       rw [hy] at hjx; injection hjx with hjx
       subst hjx
       by_cases hk : Lib.keeps s.toArray j = true
       · exact ⟨j, List.mem_filter.2 ⟨List.mem_range.2 hlt, hk⟩, hy'⟩
       · unfold Lib.keeps at hk
         rw [decide_eq_true_eq] at hk
         have hj0 : j ≠ 0 := fun e => hk (.inl e)
         obtain ⟨z, hz, hz'⟩ := hget (j - 1) (by omega)
         have hzy : z = y := by
          rcases Decidable.em (s.toArray[j]! = s.toArray[j - 1]!) with e | e
          · rw [hy', hz'] at e; exact e.symm
          · exact absurd (.inr e) hk
         exact ih (j - 1) (by omega) (by rw [hz, hzy])
     exact this j j (Nat.le_refl _) (by rw [List.getElem?_eq_getElem hj, hjx])
theorem AcQ (l : List Int) : Lib.compact (l.mergeSort fun x y => decide (x ≤ y)) = Kn l := by
 have hs : (l.mergeSort fun x y => decide (x ≤ y)).Pairwise (· ≤ ·) := by
  have := List.pairwise_mergeSort (le := fun x y : Int => decide (x ≤ y)) (fun a b c => by simp; omega) (fun a b => by simp; omega) l
  exact this.imp (by simp)
 obtain ⟨h1, h2⟩ := EE hs
 refine YJ h1 (Kt l) fun x => ?_
 rw [h2, XG]
 exact (List.mergeSort_perm l _).mem_iff
end Go.Proofs.YtdcmppdhdcjpfaaGreat
namespace Go.Proofs.YtdcmppdhdcjpfaaGreat
open Go.Shelf
def AaS : Go.Shelf.Ren := ⟨fun | 189 => 301 | 125 => 306 | 257 => 305 | 128 => 317 | 129 => 318 | 294 => 308 | 295 => 309 | 296 => 310 | 297 => 311 | 298 => 312 | 299 => 313 | 216 => 314 | 300 => 315 | 301 => 316 | 328 => 319 | 329 => 320 | 330 => 321 | 331 => 322 | 332 => 323 | 215 => 236 | 343 => 324 | n => n, fun | 28 => 22 | 3 => 3 | 46 => 278 | 0 => 0 | 51 => 92 | 53 => 219 | 4 => 4 | 183 => 347 | 182 => 346 | 131 => 129 | 5 => 5 | 9 => 9 | 218 => 354 | 222 => 113 | 228 => 359 | 229 => 227 | n => n, fun | n => n⟩
theorem Afb : Go.Proofs.Lays.n189 Tryz.prog AaS := {
 mixed := by kernel_rfl
 f125 := Tryz.func306.trans (congrArg some (by kernel_rfl))
 f128 := Tryz.func317.trans (congrArg some (by kernel_rfl))
 f129 := Tryz.func318.trans (congrArg some (by kernel_rfl))
 f189 := Tryz.func301.trans (congrArg some (by kernel_rfl))
 f215 := Tryz.func236.trans (congrArg some (by kernel_rfl))
 f216 := Tryz.func314.trans (congrArg some (by kernel_rfl))
 f257 := Tryz.func305.trans (congrArg some (by kernel_rfl))
 f294 := Tryz.func308.trans (congrArg some (by kernel_rfl))
 f295 := Tryz.func309.trans (congrArg some (by kernel_rfl))
 f296 := Tryz.func310.trans (congrArg some (by kernel_rfl))
 f297 := Tryz.func311.trans (congrArg some (by kernel_rfl))
 f298 := Tryz.func312.trans (congrArg some (by kernel_rfl))
 f299 := Tryz.func313.trans (congrArg some (by kernel_rfl))
 f300 := Tryz.func315.trans (congrArg some (by kernel_rfl))
 f301 := Tryz.func316.trans (congrArg some (by kernel_rfl))
 f328 := Tryz.func319.trans (congrArg some (by kernel_rfl))
 f329 := Tryz.func320.trans (congrArg some (by kernel_rfl))
 f330 := Tryz.func321.trans (congrArg some (by kernel_rfl))
 f331 := Tryz.func322.trans (congrArg some (by kernel_rfl))
 f332 := Tryz.func323.trans (congrArg some (by kernel_rfl))
 f343 := Tryz.func324.trans (congrArg some (by kernel_rfl))
 t0 := Tryz.underlying0
 a0 := Tryz.isAgg0
 z0 := Tryz.sizeOf0
 v0 := Tryz.zeroValue0
 t3 := Tryz.underlying3
 a3 := Tryz.isAgg3
 z3 := Tryz.sizeOf3
 v3 := Tryz.zeroValue3
 t4 := Tryz.underlying4
 a4 := Tryz.isAgg4
 z4 := Tryz.sizeOf4
 v4 := Tryz.zeroValue4
 t5 := Tryz.underlying5
 a5 := Tryz.isAgg5
 z5 := Tryz.sizeOf5
 v5 := Tryz.zeroValue5
 t9 := Tryz.underlying9
 a9 := Tryz.isAgg9
 z9 := Tryz.sizeOf9
 v9 := Tryz.zeroValue9
 t28 := Tryz.underlying22
 a28 := Tryz.isAgg22
 z28 := Tryz.sizeOf22
 v28 := Tryz.zeroValue22
 t46 := Tryz.underlying278
 a46 := Tryz.isAgg278
 z46 := Tryz.sizeOf278
 v46 := Tryz.zeroValue278
 t51 := Tryz.underlying92
 a51 := Tryz.isAgg92
 z51 := Tryz.sizeOf92
 v51 := Tryz.zeroValue92
 t53 := Tryz.underlying219
 a53 := Tryz.isAgg219
 z53 := Tryz.sizeOf219
 v53 := Tryz.zeroValue219
 t131 := Tryz.underlying129
 a131 := Tryz.isAgg129
 z131 := Tryz.sizeOf129
 v131 := Tryz.zeroValue129
 t182 := Tryz.underlying346
 a182 := Tryz.isAgg346
 z182 := Tryz.sizeOf346
 v182 := Tryz.zeroValue346
 t183 := Tryz.underlying347
 a183 := Tryz.isAgg347
 z183 := Tryz.sizeOf347
 v183 := Tryz.zeroValue347
 t218 := Tryz.underlying354
 a218 := Tryz.isAgg354
 z218 := Tryz.sizeOf354
 v218 := Tryz.zeroValue354
 t222 := Tryz.underlying113
 a222 := Tryz.isAgg113
 z222 := Tryz.sizeOf113
 v222 := Tryz.zeroValue113
 t228 := Tryz.underlying359
 a228 := Tryz.isAgg359
 z228 := Tryz.sizeOf359
 v228 := Tryz.zeroValue359
 t229 := Tryz.underlying227
 a229 := Tryz.isAgg227
 z229 := Tryz.sizeOf227
 v229 := Tryz.zeroValue227 }
open Go.Sort Go.RowKit in
theorem slices_Sort_int (blk off cap : Nat) (zs : List Int) (w : World) (hH : Holds (Value.int .i64) w blk off zs.toArray) (hblk : blk < w.heap.size) (hsz : zs.length < 4611686018427387904) :
 Calls Tryz.prog 301 #[.slice (some ⟨blk, off, none⟩) zs.length cap] w fun e w' =>
  e = .returned (.tuple #[]) ∧ ∃ n os, w' = grow (putRow (Value.int .i64) (Sort.ahead w n) blk off (zs.mergeSort fun x y => decide (x ≤ y)).toArray) os := Any.slices_Sort_int Afb blk off cap zs w hH hblk hsz
def Ve : Go.Shelf.Ren := ⟨fun | 20 => 302 | n => n, fun | 22 => 22 | 3 => 3 | 4 => 4 | 0 => 0 | n => n, fun | n => n⟩
theorem AcX : Go.Proofs.Lays2.n20 Tryz.prog Ve := {
 mixed := by kernel_rfl
 f20 := Tryz.func302.trans (congrArg some (by kernel_rfl))
 t0 := Tryz.underlying0
 a0 := Tryz.isAgg0
 z0 := Tryz.sizeOf0
 v0 := Tryz.zeroValue0
 t3 := Tryz.underlying3
 a3 := Tryz.isAgg3
 z3 := Tryz.sizeOf3
 v3 := Tryz.zeroValue3
 t4 := Tryz.underlying4
 a4 := Tryz.isAgg4
 z4 := Tryz.sizeOf4
 v4 := Tryz.zeroValue4
 t22 := Tryz.underlying22
 a22 := Tryz.isAgg22
 z22 := Tryz.sizeOf22
 v22 := Tryz.zeroValue22
 i3 := by kernel_rfl }
open Go.RowKit Go.Lib Go.Sort in
theorem slices_Compact_int (blk off cap : Nat) (zs : List Int) (w : World) (hH : Holds (Value.int .i64) w blk off zs.toArray) (hsz : zs.length ≤ 9223372036854775807) (hcap : zs.length ≤ cap) :
 Calls Tryz.prog 302 #[.slice (some ⟨blk, off, none⟩) zs.length cap] w fun e w' => e = .returned (.slice (some ⟨blk, off, none⟩) (Lib.compact zs).length cap) ∧ ∃ q, w' = putRow (Value.int .i64) (Sort.ahead w q) blk off (Lib.compact zs ++ List.replicate (zs.length - (Lib.compact zs).length) 0).toArray := Any.slices_Compact_int AcX blk off cap zs w hH hsz hcap
end Go.Proofs.YtdcmppdhdcjpfaaGreat
