/- Lemmas for VerdictMoreP. -/
import Derived.Test.YtdcmppdhdcjpfaaGreatZr1
import Derived.Test.YtdcmppdhdcjpfaaGreatZr31
import Derived.Test.YtdcmppdhdcjpfaaGreatZr33
set_option linter.unusedVariables false
set_option linter.unusedSimpArgs false
set_option maxRecDepth 100000
set_option maxHeartbeats 16000000
namespace Go.Proofs.YtdcmppdhdcjpfaaGreat
open Go.RowKit Go.Deep
theorem Ahr : (Tryz.prog.info? 22).map (fun i => (i.zero, i.size)) = some (some (.slice none 0 0), 1) := by kernel_rfl
def tvL (g : Nat) (n : Int) : IntsV := ⟨some ⟨g, 0, none⟩, 1, [n]⟩
theorem AgM {g : Nat} {n : Int} {W : World} (hn : InI n) (r : Row W g 3 (Qi [n]).toArray) : (tvL g n).ok W := ⟨by simp [tvL], by unfold maxLen; simp [tvL], fun h => (by cases h), JL r, fun x hx => by rw [List.mem_singleton.1 hx]; exact hn⟩
theorem Ajo : InI 5 := by unfold InI; omega
theorem AiU : InI 0 := by unfold InI; omega
theorem Ys {g1 g2 : Nat} {W : World} (r1 : Row W g1 3 (Qi [0]).toArray) (r2 : Row W g2 3 (Qi [5]).toArray) : ∀ x ∈ [tvL g1 0, tvL g2 5], x.ok W := fun x hx => by
 simp only [List.mem_cons, List.not_mem_nil, or_false] at hx
 rcases hx with rfl | rfl
 · exact AgM AiU r1
 · exact AgM Ajo r2
theorem Vh {g : Nat} {W : World} {op n : Int} (r : Row W g 3 (Qi [0]).toArray) : DlOk W ⟨some ⟨g, 0, none⟩, 1, ⟨[0], op, n⟩⟩ := ⟨JL r, by simp⟩
theorem AdP {W : World} {A : Option Addr} {xs ys : List Value} (h : Rd W A (xs ++ ys)) : Rd W A xs := fun j u hj => h j u (by rw [List.getElem?_append_left (List.getElem?_eq_some_iff.1 hj).1]; exact hj)
theorem AiX (g1 g2 : Nat) : QQ (pE g1 g2) ⟨[0], 5, 0⟩ [[0], [5]] 9 = 0 := by rw [AaN g1 g2 (.inl rfl), AaS (Vp g1 g2) Ajn]
theorem AiY (g1 g2 : Nat) : QQ (pE g1 g2) ⟨[0], 7, 0⟩ [[0], [5]] 9 = 0 := by rw [AaN g1 g2 (.inl rfl), AaS (Vp g1 g2) AiT]
theorem AiW (g1 g2 : Nat) : QQ (pE g1 g2) ⟨[], 0, 0⟩ [[0], [5]] 9 = 17 := by rw [AaN g1 g2 (.inl rfl), Aer (Vp g1 g2) Ai1]
theorem Ae3 (g1 g2 : Nat) : QQ (pE g1 g2) ⟨[0], 7, 0⟩ [[0]] 9 = 0 := by rw [AaN g1 g2 (.inr rfl), AaS (Vp g1 g2) AiT]
theorem Ajm (g1 g2 : Nat) (w : World) : ∃ d0 d5, XH (pE g1 g2) [[0], [5]] 9 = [⟨0, 0, d0⟩, ⟨0, 5, d5⟩] := by
 obtain ⟨a1, a2⟩ := AeD (p := pE g1 g2) w rfl rfl rfl
 obtain ⟨b1, b2⟩ := Aim (p := pE g1 g2) w rfl rfl rfl
 refine ⟨(rnZ (pE g1 g2) 9 [0]).dig, (rnZ (pE g1 g2) 9 [5]).dig, ?_⟩
 unfold XH
 rw [if_pos (AfF g1 g2 (.inl rfl)), List.map_cons, List.map_cons, List.map_nil]
 generalize rnZ (pE g1 g2) 9 [0] = r0 at a1 a2 ⊢
 generalize rnZ (pE g1 g2) 9 [5] = r5 at b1 b2 ⊢
 obtain ⟨k0, v0, e0⟩ := r0
 obtain ⟨k5, v5, e5⟩ := r5
 simp only at a1 a2 b1 b2 ⊢
 rw [a1, a2, b1, b2]
theorem AhI {W : World} {B : Nat} {v : Value} {xs : List Value} (h : W.ownsRow B 37 2 v 2 xs) : ∃ g c, v = .slice (some ⟨g, 0, none⟩) 2 c := by
 rcases h.2 with ⟨_, h0⟩ | ⟨g, c, _, hv, _⟩
 · cases h0
 · exact ⟨g, c, hv⟩
theorem YR {W : World} {g : Nat} {xs : List Value} {j : Nat} {v : Value} (h : Rd W (some ⟨g, 0, none⟩) xs) (hj : xs[j]? = some v) : W.cell? ⟨g, j, none⟩ = some v := by
 obtain ⟨a, e, hc⟩ := h j v hj
 injection e with e
 subst e
 unfold Addr.add at hc
 by_cases h0 : j = 0
 · subst h0; exact hc
 · rw [if_neg h0] at hc; simpa using hc
theorem AhN {W : World} {g : Nat} {q0 q5 : List UInt8} (h : Rd W (some ⟨g, 0, none⟩) (JK [⟨0, 0, q0⟩, ⟨0, 5, q5⟩])) : ∀ (j : Nat) (u : Value), [.int .i64 0, .int .i64 0][j]? = some u → W.cell? ((⟨g, 0, none⟩ : Addr).add j) = some u := fun j u hj => by
 match j, hj with
 | 0, hj => exact YR h (j := 0) hj
 | 1, hj => exact YR h (j := 1) hj
 | j + 2, hj => simp at hj
theorem AhO {W : World} {g : Nat} {q0 q5 : List UInt8} (h : Rd W (some ⟨g, 0, none⟩) (JK [⟨0, 0, q0⟩, ⟨0, 5, q5⟩])) : ∀ (j : Nat) (u : Value), [.int .i64 0, .int .i64 5][j]? = some u → W.cell? ((⟨g, 2, none⟩ : Addr).add j) = some u := fun j u hj => by
 match j, hj with
 | 0, hj => exact YR h (j := 2) hj
 | 1, hj => exact YR h (j := 3) hj
 | j + 2, hj => simp at hj
theorem AgL (q0 q5 : List UInt8) (W : World) : Calls Tryz.prog 27 #[.agg #[.int .i64 0, .int .i64 0], .agg #[.int .i64 0, .int .i64 5]] W fun e w' => e = .returned (.int .i64 1) ∧ Below W.heap.size W w' := Aaq ⟨0, 0, q0⟩ ⟨0, 5, q5⟩ W
theorem AhW (A : Option Addr) (c : Nat) (dg : List UInt8) (W : World) (h : MtOk W ⟨A, c, ⟨⟨[0], 5, 0⟩, 1, 0, 3, 0, dg⟩⟩) : Calls Tryz.prog 32 #[.agg (MtV.mk A c ⟨⟨[0], 5, 0⟩, 1, 0, 3, 0, dg⟩).cells.toArray, .agg (MtV.mk A c ⟨⟨[0], 5, 0⟩, 1, 0, 3, 0, dg⟩).cells.toArray] W fun e w' => e = .returned (.bool true) ∧ Below W.heap.size W w' := by
 have := KG _ _ W h h
 rwa [show Kq (⟨⟨[0], 5, 0⟩, 1, 0, 3, 0, dg⟩ : Mt) ⟨⟨[0], 5, 0⟩, 1, 0, 3, 0, dg⟩ = true from sameM_iff.2 rfl] at this
theorem AhX (A : Option Addr) (c : Nat) (B : Option Addr) (e : Nat) (dg dh : List UInt8) (W : World) (h : MtOk W ⟨A, c, ⟨⟨[0], 5, 0⟩, 1, 0, 3, 0, dg⟩⟩) (k : MtOk W ⟨B, e, ⟨⟨[0], 7, 0⟩, 1, 1, 0, 0, dh⟩⟩) : Calls Tryz.prog 32 #[.agg (MtV.mk A c ⟨⟨[0], 5, 0⟩, 1, 0, 3, 0, dg⟩).cells.toArray, .agg (MtV.mk B e ⟨⟨[0], 7, 0⟩, 1, 1, 0, 0, dh⟩).cells.toArray] W fun e w' => e = .returned (.bool false) ∧ Below W.heap.size W w' := by
 have := KG _ _ W h k
 rwa [show Kq (⟨⟨[0], 5, 0⟩, 1, 0, 3, 0, dg⟩ : Mt) ⟨⟨[0], 7, 0⟩, 1, 1, 0, 0, dh⟩ = false from by unfold Kq; simp] at this
theorem Ah8 {P : Program} {c : Code} {a : Act} {w : World} {Q : Exit → Act → World → Prop} {F : Nat → Nat → Option Addr → Nat → World → Prop} {f : Nat → Nat → Option Addr → Nat → Act}
 (hreg : c.wp P (Ends fun _ a' w' => ∃ (C M : Nat) (A : Option Addr) (k : Nat), a' = f C M A k ∧ F C M A k w') a w) (cont : ∀ C M A k w', F C M A k w' → Q .normal (f C M A k) w') : c.wp P Q a w :=
 Code.wp_mono (fun e a' w' h => by
  cases e with
  | normal =>
   obtain ⟨C, M, A, k, rfl, hF⟩ := (h : ∃ (C M : Nat) (A : Option Addr) (k : Nat), a' = f C M A k ∧ F C M A k w')
   exact cont _ _ _ _ _ hF
  | _ => exact (h : False).elim) hreg
theorem AcU (w : World) : Calls Tryz.prog 23 #[] w fun e w' => e = .returned (.bool true) ∧ Below w.heap.size w w' := by
 go_enter Tryz.func23, Tryz.ntmps23
 obtain ⟨S0, hSd⟩ : ∃ S : World → Prop, S = (fun W => Below w.heap.size w W) := ⟨_, rfl⟩
 have st0 : St S0 := by rw [hSd]; infer_instance
 have F_low : Hid (∀ W, S0 W → Below w.heap.size w W) := by show ∀ W, _; rw [hSd]; exact fun W h => h
 have HS0 : Hid (S0 w) := by show S0 w; rw [hSd]; exact Below.refl _ _
 clear hSd
 go_wp2_with (refine Zp _ _ _ rfl ?_)
 refine Stop.to ?_
 refine Qu rfl 22 1 _ rfl 3 (Qi [0]).toArray (ZH Tryz.underlying22 Xu (by decide) (by decide) (by kernel_rfl)) ?_
 intro G_1 w_2 hG rG bG
 have hprev := st0.go HS0.out (bG.mono hG)
 obtain ⟨S1, hSd⟩ : ∃ S : World → Prop, S = (fun W => S0 W ∧ Row W G_1 3 (Qi [0]).toArray) := ⟨_, rfl⟩
 have st1 : St S1 := by rw [hSd]; infer_instance
 have D1 : Hid (∀ W, S1 W → S0 W) := by show ∀ W, _; rw [hSd]; exact fun W h => h.1
 have F_v1 : Hid (∀ W, S1 W → Row W G_1 3 (Qi [0]).toArray) := by show ∀ W, _; rw [hSd]; exact fun W h => h.2
 have HS1 : Hid (S1 w_2) := by show S1 w_2; rw [hSd]; exact ⟨hprev, rG⟩
 clear hSd
 clear hprev HS0 hG rG bG
 go_wp2_with (refine Zp _ _ _ rfl ?_)
 refine Stop.to ?_
 refine Qu rfl 23 3 _ rfl 85 (bodyE.flatMap Nd.cells).toArray (ZH Tryz.underlying23 Aho (by decide) (by decide) (by kernel_rfl)) ?_
 intro G_3 w_4 hG rG bG
 have hprev := st1.go HS1.out (bG.mono hG)
 obtain ⟨S2, hSd⟩ : ∃ S : World → Prop, S = (fun W => S1 W ∧ Row W G_3 85 (bodyE.flatMap Nd.cells).toArray) := ⟨_, rfl⟩
 have st2 : St S2 := by rw [hSd]; infer_instance
 have D2 : Hid (∀ W, S2 W → S1 W) := by show ∀ W, _; rw [hSd]; exact fun W h => h.1
 have F_n1 : Hid (∀ W, S2 W → Row W G_3 85 (bodyE.flatMap Nd.cells).toArray) := by show ∀ W, _; rw [hSd]; exact fun W h => h.2
 have HS2 : Hid (S2 w_4) := by show S2 w_4; rw [hSd]; exact ⟨hprev, rG⟩
 clear hSd
 clear hprev HS1 hG rG bG
 go_wp2_with (refine QY _ rfl ?_)
 refine Stop.to ?_
 refine Ql rfl 25 rfl _ _ Ag0 rfl ?_
 intro G_5 w_6 hG rG bG
 go_wp2_with (refine QD _ _ _ rfl ?_)
 refine Stop.to ?_
 refine Qk rfl 25 _ _ rfl G_5 #[.int .i64 1, .slice (some ⟨G_1, 0, none⟩) 1 1, .slice (some ⟨G_3, 0, none⟩) 3 3] rfl rfl 25 _ rG (by kernel_rfl) rfl (by simp [Value.oneCell']) ?_
 intro w_7 rH oH
 have bH : Below (w_4).heap.size w_4 w_7 := (bG.mono hG).trans (oH.below hG)
 have hprev := st2.go HS2.out (bH)
 obtain ⟨S3, hSd⟩ : ∃ S : World → Prop, S = (fun W => S2 W ∧ Row W G_5 25 #[.int .i64 1, .slice (some ⟨G_1, 0, none⟩) 1 1, .slice (some ⟨G_3, 0, none⟩) 3 3]) := ⟨_, rfl⟩
 have st3 : St S3 := by rw [hSd]; infer_instance
 have D3 : Hid (∀ W, S3 W → S2 W) := by show ∀ W, _; rw [hSd]; exact fun W h => h.1
 have F_P : Hid (∀ W, S3 W → Row W G_5 25 #[.int .i64 1, .slice (some ⟨G_1, 0, none⟩) 1 1, .slice (some ⟨G_3, 0, none⟩) 3 3]) := by show ∀ W, _; rw [hSd]; exact fun W h => h.2
 have HS3 : Hid (S3 w_7) := by show S3 w_7; rw [hSd]; exact ⟨hprev, rH⟩
 clear hSd
 clear hprev HS2 hG rG bG rH oH bH
 have F_okp : Hid (∀ W, S3 W → (pE G_1 G_3).ok W) := by show ∀ W, _; exact fun W hW => Ai2 (F_v1.out _ (D2.out _ (D3.out _ hW))) (F_n1.out _ (D3.out _ hW))
 go_wp2_with (refine Zp _ _ _ rfl ?_)
 refine Stop.to ?_
 refine Qu rfl 22 1 _ rfl 3 (Qi [0]).toArray (ZH Tryz.underlying22 Xu (by decide) (by decide) (by kernel_rfl)) ?_
 intro G_8 w_9 hG rG bG
 have hprev := st3.go HS3.out (bG.mono hG)
 obtain ⟨S4, hSd⟩ : ∃ S : World → Prop, S = (fun W => S3 W ∧ Row W G_8 3 (Qi [0]).toArray) := ⟨_, rfl⟩
 have st4 : St S4 := by rw [hSd]; infer_instance
 have D4 : Hid (∀ W, S4 W → S3 W) := by show ∀ W, _; rw [hSd]; exact fun W h => h.1
 have F_t0 : Hid (∀ W, S4 W → Row W G_8 3 (Qi [0]).toArray) := by show ∀ W, _; rw [hSd]; exact fun W h => h.2
 have HS4 : Hid (S4 w_9) := by show S4 w_9; rw [hSd]; exact ⟨hprev, rG⟩
 clear hSd
 clear hprev HS3 hG rG bG
 go_wp2_with (refine Zp _ _ _ rfl ?_)
 refine Stop.to ?_
 refine Qu rfl 22 1 _ rfl 3 (Qi [5]).toArray (ZH Tryz.underlying22 Xu (by decide) (by decide) (by kernel_rfl)) ?_
 intro G_10 w_11 hG rG bG
 have hprev := st4.go HS4.out (bG.mono hG)
 obtain ⟨S5, hSd⟩ : ∃ S : World → Prop, S = (fun W => S4 W ∧ Row W G_10 3 (Qi [5]).toArray) := ⟨_, rfl⟩
 have st5 : St S5 := by rw [hSd]; infer_instance
 have D5 : Hid (∀ W, S5 W → S4 W) := by show ∀ W, _; rw [hSd]; exact fun W h => h.1
 have F_t5 : Hid (∀ W, S5 W → Row W G_10 3 (Qi [5]).toArray) := by show ∀ W, _; rw [hSd]; exact fun W h => h.2
 have HS5 : Hid (S5 w_11) := by show S5 w_11; rw [hSd]; exact ⟨hprev, rG⟩
 clear hSd
 clear hprev HS4 hG rG bG
 go_wp2_with (refine Zp _ _ _ rfl ?_)
 refine Stop.to ?_
 refine Qu rfl 46 2 _ rfl 22 (Z6 [tvL G_8 0, tvL G_10 5]).toArray (ZH Tryz.underlying46 Ahr (by decide) (by decide) (by kernel_rfl)) ?_
 intro G_12 w_13 hG rG bG
 have hprev := st5.go HS5.out (bG.mono hG)
 obtain ⟨S6, hSd⟩ : ∃ S : World → Prop, S = (fun W => S5 W ∧ Row W G_12 22 (Z6 [tvL G_8 0, tvL G_10 5]).toArray) := ⟨_, rfl⟩
 have st6 : St S6 := by rw [hSd]; infer_instance
 have D6 : Hid (∀ W, S6 W → S5 W) := by show ∀ W, _; rw [hSd]; exact fun W h => h.1
 have F_T : Hid (∀ W, S6 W → Row W G_12 22 (Z6 [tvL G_8 0, tvL G_10 5]).toArray) := by show ∀ W, _; rw [hSd]; exact fun W h => h.2
 have HS6 : Hid (S6 w_13) := by show S6 w_13; rw [hSd]; exact ⟨hprev, rG⟩
 clear hSd
 clear hprev HS5 hG rG bG
 go_wp2_with (first | (refine wpList_load_row rfl 25 _ rfl G_5 rfl 25 #[.int .i64 1, .slice (some ⟨G_1, 0, none⟩) 1 1, .slice (some ⟨G_3, 0, none⟩) 3 3] (0, 0) _ (F_P.out _ (D4.out _ (D5.out _ (D6.out _ HS6.out)))) Tryz.underlying25 rfl (by kernel_rfl) ?_) | (refine Zp _ _ _ rfl ?_))
 refine Stop.to ?_
 refine Qu rfl 22 1 _ rfl 3 (Qi [0]).toArray (ZH Tryz.underlying22 Xu (by decide) (by decide) (by kernel_rfl)) ?_
 intro G_14 w_15 hG rG bG
 have hprev := st6.go HS6.out (bG.mono hG)
 obtain ⟨S7, hSd⟩ : ∃ S : World → Prop, S = (fun W => S6 W ∧ Row W G_14 3 (Qi [0]).toArray) := ⟨_, rfl⟩
 have st7 : St S7 := by rw [hSd]; infer_instance
 have D7 : Hid (∀ W, S7 W → S6 W) := by show ∀ W, _; rw [hSd]; exact fun W h => h.1
 have F_d1 : Hid (∀ W, S7 W → Row W G_14 3 (Qi [0]).toArray) := by show ∀ W, _; rw [hSd]; exact fun W h => h.2
 have HS7 : Hid (S7 w_15) := by show S7 w_15; rw [hSd]; exact ⟨hprev, rG⟩
 clear hSd
 clear hprev HS6 hG rG bG
 go_wp2_with fail
 refine (Jg (pE G_1 G_3) ⟨some ⟨G_14, 0, none⟩, 1, ⟨[0], 5, 0⟩⟩ (some ⟨G_12, 0, none⟩) 2 [tvL G_8 0, tvL G_10 5] 9 w_15 (F_okp.out _ (D4.out _ (D5.out _ (D6.out _ (D7.out _ HS7.out))))) (Vh (F_d1.out _ HS7.out)) (by show 3 ≤ 999; omega) (JL (F_T.out _ (D7.out _ HS7.out))) (Ys (F_t0.out _ (D5.out _ (D6.out _ (D7.out _ HS7.out)))) (F_t5.out _ (D6.out _ (D7.out _ HS7.out)))) (by simp)).mono ?_
 rintro e w_16 ⟨y, rfl, hy, hy0, bb⟩
 rw [show QQ (pE G_1 G_3) ⟨[0], 5, 0⟩ (List.map IntsV.l [tvL G_8 0, tvL G_10 5]) 9 = 0 from AiX _ _]
 obtain ⟨hm, hok, -⟩ := hy (AiX _ _)
 have hm2 : y.m = _ := hm.trans (Ajp G_1 G_3 w)
 have hdl : (rnZ (XE (pE G_1 G_3) ⟨[0], 5, 0⟩) 9 [0]).dig.length = 32 := AbO _
 generalize (rnZ (XE (pE G_1 G_3) ⟨[0], 5, 0⟩) 9 [0]).dig = dga at hm2 hdl
 have Hdl := Lh hdl
 obtain ⟨yaA, yac, ym⟩ := y
 simp only at hm2
 subst hm2
 clear hm hdl
 have hprev := st7.go HS7.out (bb)
 obtain ⟨S8, hSd⟩ : ∃ S : World → Prop, S = (fun W => S7 W ∧ MtOk W ⟨yaA, yac, ⟨⟨[0], 5, 0⟩, 1, 0, 3, 0, dga⟩⟩) := ⟨_, rfl⟩
 have st8 : St S8 := by rw [hSd]; infer_instance
 have D8 : Hid (∀ W, S8 W → S7 W) := by show ∀ W, _; rw [hSd]; exact fun W h => h.1
 have F_oka : Hid (∀ W, S8 W → MtOk W ⟨yaA, yac, ⟨⟨[0], 5, 0⟩, 1, 0, 3, 0, dga⟩⟩) := by show ∀ W, _; rw [hSd]; exact fun W h => h.2
 have HS8 : Hid (S8 w_16) := by show S8 w_16; rw [hSd]; exact ⟨hprev, hok⟩
 clear hSd
 clear hprev HS7 bb hy hy0 hok
 go_wp2_with (refine QY _ rfl ?_)
 refine Stop.to ?_
 refine Ql rfl 54 rfl _ _ (Zq _) rfl ?_
 intro G_17 w_18 hG rG bG
 go_wp2_with (refine QD _ _ _ rfl ?_)
 refine Stop.to ?_
 refine Qk rfl 54 _ _ rfl G_17 (MtV.mk yaA yac ⟨⟨[0], 5, 0⟩, 1, 0, 3, 0, dga⟩).cells.toArray rfl rfl 54 _ rG (by kernel_rfl) rfl (by simp [MtV.cells, Value.oneCell']) ?_
 intro w_19 rH oH
 have bH : Below (w_16).heap.size w_16 w_19 := (bG.mono hG).trans (oH.below hG)
 have hprev := st8.go HS8.out (bH)
 obtain ⟨S9, hSd⟩ : ∃ S : World → Prop, S = (fun W => S8 W ∧ Row W G_17 54 (MtV.mk yaA yac ⟨⟨[0], 5, 0⟩, 1, 0, 3, 0, dga⟩).cells.toArray) := ⟨_, rfl⟩
 have st9 : St S9 := by rw [hSd]; infer_instance
 have D9 : Hid (∀ W, S9 W → S8 W) := by show ∀ W, _; rw [hSd]; exact fun W h => h.1
 have F_A : Hid (∀ W, S9 W → Row W G_17 54 (MtV.mk yaA yac ⟨⟨[0], 5, 0⟩, 1, 0, 3, 0, dga⟩).cells.toArray) := by show ∀ W, _; rw [hSd]; exact fun W h => h.2
 have HS9 : Hid (S9 w_19) := by show S9 w_19; rw [hSd]; exact ⟨hprev, rH⟩
 clear hSd
 clear hprev HS8 hG rG bG rH oH bH
 go_wp2_with (first | (refine wpList_load_row rfl 25 _ rfl G_5 rfl 25 #[.int .i64 1, .slice (some ⟨G_1, 0, none⟩) 1 1, .slice (some ⟨G_3, 0, none⟩) 3 3] (0, 0) _ (F_P.out _ (D4.out _ (D5.out _ (D6.out _ (D7.out _ (D8.out _ (D9.out _ HS9.out))))))) Tryz.underlying25 rfl (by kernel_rfl) ?_) | (refine Zp _ _ _ rfl ?_))
 refine Stop.to ?_
 refine Qu rfl 22 1 _ rfl 3 (Qi [0]).toArray (ZH Tryz.underlying22 Xu (by decide) (by decide) (by kernel_rfl)) ?_
 intro G_20 w_21 hG rG bG
 have hprev := st9.go HS9.out (bG.mono hG)
 obtain ⟨S10, hSd⟩ : ∃ S : World → Prop, S = (fun W => S9 W ∧ Row W G_20 3 (Qi [0]).toArray) := ⟨_, rfl⟩
 have st10 : St S10 := by rw [hSd]; infer_instance
 have D10 : Hid (∀ W, S10 W → S9 W) := by show ∀ W, _; rw [hSd]; exact fun W h => h.1
 have F_d2 : Hid (∀ W, S10 W → Row W G_20 3 (Qi [0]).toArray) := by show ∀ W, _; rw [hSd]; exact fun W h => h.2
 have HS10 : Hid (S10 w_21) := by show S10 w_21; rw [hSd]; exact ⟨hprev, rG⟩
 clear hSd
 clear hprev HS9 hG rG bG
 go_wp2_with fail
 refine (Jg (pE G_1 G_3) ⟨some ⟨G_20, 0, none⟩, 1, ⟨[0], 7, 0⟩⟩ (some ⟨G_12, 0, none⟩) 2 [tvL G_8 0, tvL G_10 5] 9 w_21 (F_okp.out _ (D4.out _ (D5.out _ (D6.out _ (D7.out _ (D8.out _ (D9.out _ (D10.out _ HS10.out)))))))) (Vh (F_d2.out _ HS10.out)) (by show 3 ≤ 999; omega) (JL (F_T.out _ (D7.out _ (D8.out _ (D9.out _ (D10.out _ HS10.out)))))) (Ys (F_t0.out _ (D5.out _ (D6.out _ (D7.out _ (D8.out _ (D9.out _ (D10.out _ HS10.out))))))) (F_t5.out _ (D6.out _ (D7.out _ (D8.out _ (D9.out _ (D10.out _ HS10.out))))))) (by simp)).mono ?_
 rintro e w_22 ⟨y, rfl, hy, hy0, bb⟩
 rw [show QQ (pE G_1 G_3) ⟨[0], 7, 0⟩ (List.map IntsV.l [tvL G_8 0, tvL G_10 5]) 9 = 0 from AiY _ _]
 obtain ⟨hm, hok, -⟩ := hy (AiY _ _)
 have hm2 : y.m = _ := hm.trans (Ajq G_1 G_3 w)
 generalize (rnZ (XE (pE G_1 G_3) ⟨[0], 7, 0⟩) 9 [5]).dig = dgb at hm2
 obtain ⟨ybA, ybc, ym⟩ := y
 simp only at hm2
 subst hm2
 clear hm
 have hprev := st10.go HS10.out (bb)
 obtain ⟨S11, hSd⟩ : ∃ S : World → Prop, S = (fun W => S10 W ∧ MtOk W ⟨ybA, ybc, ⟨⟨[0], 7, 0⟩, 1, 1, 0, 0, dgb⟩⟩) := ⟨_, rfl⟩
 have st11 : St S11 := by rw [hSd]; infer_instance
 have D11 : Hid (∀ W, S11 W → S10 W) := by show ∀ W, _; rw [hSd]; exact fun W h => h.1
 have F_okb : Hid (∀ W, S11 W → MtOk W ⟨ybA, ybc, ⟨⟨[0], 7, 0⟩, 1, 1, 0, 0, dgb⟩⟩) := by show ∀ W, _; rw [hSd]; exact fun W h => h.2
 have HS11 : Hid (S11 w_22) := by show S11 w_22; rw [hSd]; exact ⟨hprev, hok⟩
 clear hSd
 clear hprev HS10 bb hy hy0 hok
 go_wp2_with (refine QY _ rfl ?_)
 refine Stop.to ?_
 refine Ql rfl 54 rfl _ _ (Zq _) rfl ?_
 intro G_23 w_24 hG rG bG
 go_wp2_with (refine QD _ _ _ rfl ?_)
 refine Stop.to ?_
 refine Qk rfl 54 _ _ rfl G_23 (MtV.mk ybA ybc ⟨⟨[0], 7, 0⟩, 1, 1, 0, 0, dgb⟩).cells.toArray rfl rfl 54 _ rG (by kernel_rfl) rfl (by simp [MtV.cells, Value.oneCell']) ?_
 intro w_25 rH oH
 have bH : Below (w_22).heap.size w_22 w_25 := (bG.mono hG).trans (oH.below hG)
 have hprev := st11.go HS11.out (bH)
 obtain ⟨S12, hSd⟩ : ∃ S : World → Prop, S = (fun W => S11 W ∧ Row W G_23 54 (MtV.mk ybA ybc ⟨⟨[0], 7, 0⟩, 1, 1, 0, 0, dgb⟩).cells.toArray) := ⟨_, rfl⟩
 have st12 : St S12 := by rw [hSd]; infer_instance
 have D12 : Hid (∀ W, S12 W → S11 W) := by show ∀ W, _; rw [hSd]; exact fun W h => h.1
 have F_B : Hid (∀ W, S12 W → Row W G_23 54 (MtV.mk ybA ybc ⟨⟨[0], 7, 0⟩, 1, 1, 0, 0, dgb⟩).cells.toArray) := by show ∀ W, _; rw [hSd]; exact fun W h => h.2
 have HS12 : Hid (S12 w_25) := by show S12 w_25; rw [hSd]; exact ⟨hprev, rH⟩
 clear hSd
 clear hprev HS11 hG rG bG rH oH bH
 go_wp2_with (refine wpList_load_row rfl 25 _ rfl G_5 rfl 25 #[.int .i64 1, .slice (some ⟨G_1, 0, none⟩) 1 1, .slice (some ⟨G_3, 0, none⟩) 3 3] (0, 0) _ (F_P.out _ (D4.out _ (D5.out _ (D6.out _ (D7.out _ (D8.out _ (D9.out _ (D10.out _ (D11.out _ (D12.out _ HS12.out)))))))))) Tryz.underlying25 rfl (by kernel_rfl) ?_)
 refine (Jg (pE G_1 G_3) ⟨none, 0, ⟨[], 0, 0⟩⟩ (some ⟨G_12, 0, none⟩) 2 [tvL G_8 0, tvL G_10 5] 9 w_25 (F_okp.out _ (D4.out _ (D5.out _ (D6.out _ (D7.out _ (D8.out _ (D9.out _ (D10.out _ (D11.out _ (D12.out _ HS12.out)))))))))) ⟨Rd.nil _ _, by simp⟩ (by show 3 ≤ 999; omega) (JL (F_T.out _ (D7.out _ (D8.out _ (D9.out _ (D10.out _ (D11.out _ (D12.out _ HS12.out)))))))) (Ys (F_t0.out _ (D5.out _ (D6.out _ (D7.out _ (D8.out _ (D9.out _ (D10.out _ (D11.out _ (D12.out _ HS12.out))))))))) (F_t5.out _ (D6.out _ (D7.out _ (D8.out _ (D9.out _ (D10.out _ (D11.out _ (D12.out _ HS12.out))))))))) (by simp)).mono ?_
 rintro e w_26 ⟨y, rfl, hy, hy0, bb⟩
 rw [show QQ (pE G_1 G_3) ⟨[], 0, 0⟩ (List.map IntsV.l [tvL G_8 0, tvL G_10 5]) 9 = 17 from AiW _ _]
 obtain rfl := hy0 (by rw [show QQ (pE G_1 G_3) ⟨[], 0, 0⟩ (List.map IntsV.l [tvL G_8 0, tvL G_10 5]) 9 = 17 from AiW _ _]; decide)
 have hprev := st12.go HS12.out (bb)
 replace HS12 := Lh hprev
 clear hprev bb hy hy0
 go_wp2_with (refine QY _ rfl ?_)
 refine Stop.to ?_
 refine Ql rfl 54 rfl _ _ (Zq _) rfl ?_
 intro G_27 w_28 hG rG bG
 go_wp2_with (refine QD _ _ _ rfl ?_)
 refine Stop.to ?_
 refine Qk rfl 54 _ _ rfl G_27 mt0.cells.toArray rfl rfl 54 _ rG (by kernel_rfl) rfl (by simp [mt0, MtV.cells, Value.oneCell']) ?_
 intro w_29 rH oH
 have bH : Below (w_26).heap.size w_26 w_29 := (bG.mono hG).trans (oH.below hG)
 have hprev := st12.go HS12.out (bH)
 obtain ⟨S13, hSd⟩ : ∃ S : World → Prop, S = (fun W => S12 W ∧ Row W G_27 54 mt0.cells.toArray) := ⟨_, rfl⟩
 have st13 : St S13 := by rw [hSd]; infer_instance
 have D13 : Hid (∀ W, S13 W → S12 W) := by show ∀ W, _; rw [hSd]; exact fun W h => h.1
 have F_Z : Hid (∀ W, S13 W → Row W G_27 54 mt0.cells.toArray) := by show ∀ W, _; rw [hSd]; exact fun W h => h.2
 have HS13 : Hid (S13 w_29) := by show S13 w_29; rw [hSd]; exact ⟨hprev, rH⟩
 clear hSd
 clear hprev HS12 hG rG bG rH oH bH
 go_wp2_with fail
 apply Ah8 (F := fun C M ycA ycc W => S13 W ∧ Row W C 54 (MtV.mk ycA ycc ⟨⟨[0], 7, 0⟩, 0, -1, 0, 0, []⟩).cells.toArray)
 case hreg =>
  obtain ⟨V0, hV0⟩ : ∃ V, V = (w_29).drew := ⟨_, rfl⟩
  have hS0 : S13 V0 := by rw [hV0]; exact St.drew HS13.out
  refine wp_region_held (S := fun W => Below V0.heap.size V0 W) (by kernel_rfl) ?_
  simp only [List.size_toArray, List.length_cons, List.length_nil, Nat.reduceAdd, Array.replicate_succ, Array.replicate_zero, List.push_toArray, List.nil_append, List.cons_append]
  show wpAnyH _ _ _ _ _ _ _ _ (w_29).drew
  rw [← hV0]
  obtain ⟨T, hTd⟩ : ∃ T : World → Prop, T = (fun W => Below V0.heap.size V0 W) := ⟨_, rfl⟩
  rw [← hTd]
  have t0 : Hid (∀ W, T W → S13 W) := by show ∀ W, _; rw [hTd]; exact fun W h => st13.go hS0 h
  have tsz : Hid (∀ W, T W → V0.heap.size ≤ W.heap.size) := by show ∀ W, _; rw [hTd]; exact fun W h => h.size
  have tB : Hid (∀ W W', T W → Below V0.heap.size W W' → T W') := by show ∀ W W', _; rw [hTd]; exact fun W W' h b => h.trans b
  have hT0 : T V0 := by rw [hTd]; exact Below.refl _ _
  clear hTd hV0 hS0
  (refine tkH 0 _ rfl ((J9 rfl 25 _ rfl G_5 rfl 25 #[.int .i64 1, .slice (some ⟨G_1, 0, none⟩) 1 1, .slice (some ⟨G_3, 0, none⟩) 3 3] _ (fun W hW => (F_P.out _ (D4.out _ (D5.out _ (D6.out _ (D7.out _ (D8.out _ (D9.out _ (D10.out _ (D11.out _ (D12.out _ (D13.out _ (t0.out W hW))))))))))))) Tryz.underlying25 rfl (by kernel_rfl))) ?_; simp only [Act.put, Qa, Qb, Qc])
  (refine tkH 3 (.slice (some ⟨G_12, 0, none⟩) 2 2) rfl (Qd rfl (fun W hW => by (go_simp))) ?_; simp only [Act.put, Qa, Qb, Qc])
  (refine tkH 4 (.slice (some ⟨G_12, 0, none⟩) 1 2) rfl (Qd rfl (fun W hW => by (go_simp))) ?_; simp only [Act.put, Qa, Qb, Qc])
  refine wpAnyH_all (rs := [1, 9]) (by kernel_rfl) (by simp) (fun i hi => ?_)
  simp only [List.mem_cons, List.not_mem_nil, or_false] at hi
  rcases hi with rfl | rfl
  · skip
    refine Qe rfl rfl (fun K2 hK2 => ?_)
    refine Qj (.slice (some ⟨V0.heap.size, 0, none⟩) 1 1) (Qn [(0, .const (.int .i64 0))] rfl (ZH (cells := #[.int .i64 0]) Tryz.underlying22 Xu (by decide) (by decide) (by kernel_rfl) V0)) ?_
    refine hK2 _ _ ?_
    clear hK2 K2
    simp only [Act.put, Qa, Qb, Qc]
    obtain ⟨M, hM⟩ : ∃ M, M = V0.heap.size := ⟨_, rfl⟩
    obtain ⟨V1, hV2⟩ : ∃ V, V = V0.alloc (.cells #[.int .i64 0] 3) := ⟨_, rfl⟩
    have rM : Row V1 M 3 (Qi [0]).toArray := by rw [hV2, hM]; exact Row.new _ _ _
    have bM : Below V0.heap.size V0 V1 := by rw [hV2]; exact (Below.refl _ _).alloc (Nat.le_refl _) _
    rw [← hM, ← hV2]
    have hV1 : T V1 := tB.out _ _ hT0 (bM.mono (tsz.out _ hT0))
    clear hM hV2 bM hT0
    refine ⟨hV1, ?_⟩
    (refine tkH 2 (.agg #[.slice (some ⟨M, 0, none⟩) 1 1, .int .i64 7, .int .i64 0]) rfl (Qd rfl (fun W hW => by (go_simp))) ?_; simp only [Act.put, Qa, Qb, Qc])
    refine wpAnyH_all (rs := [5, 9]) (by kernel_rfl) (by simp) (fun i hi => ?_)
    simp only [List.mem_cons, List.not_mem_nil, or_false] at hi
    rcases hi with rfl | rfl
    · skip
      refine Qe rfl rfl (fun K2 hK2 => ?_)
      refine Qx 29 #[.agg #[.int .i64 1, .slice (some ⟨G_1, 0, none⟩) 1 1, .slice (some ⟨G_3, 0, none⟩) 3 3], .agg #[.slice (some ⟨M, 0, none⟩) 1 1, .int .i64 7, .int .i64 0], .slice (some ⟨G_12, 0, none⟩) 1 2, .int .i64 9] (w1 := V1) (by go_simp) ((Jg (pE G_1 G_3) ⟨some ⟨M, 0, none⟩, 1, ⟨[0], 7, 0⟩⟩ (some ⟨G_12, 0, none⟩) 2 [tvL G_8 0] 9 V1 (F_okp.out _ (D4.out _ (D5.out _ (D6.out _ (D7.out _ (D8.out _ (D9.out _ (D10.out _ (D11.out _ (D12.out _ (D13.out _ (t0.out _ hV1)))))))))))) (Vh rM) (by show 3 ≤ 999; omega) (AdP (ys := [(tvL G_10 5).val]) (JL (F_T.out _ (D7.out _ (D8.out _ (D9.out _ (D10.out _ (D11.out _ (D12.out _ (D13.out _ (t0.out _ hV1))))))))))) (fun x hx => Ys (F_t0.out _ (D5.out _ (D6.out _ (D7.out _ (D8.out _ (D9.out _ (D10.out _ (D11.out _ (D12.out _ (D13.out _ (t0.out _ hV1))))))))))) (F_t5.out _ (D6.out _ (D7.out _ (D8.out _ (D9.out _ (D10.out _ (D11.out _ (D12.out _ (D13.out _ (t0.out _ hV1)))))))))) x (by rw [List.mem_singleton.1 hx]; simp)) (by simp)).mono ?_)
      rintro e V2 ⟨y, rfl, hy, -, bb⟩
      refine ⟨_, rfl, ?_⟩
      refine hK2 _ _ ?_
      clear hK2 K2
      simp only [Act.put, Qa, Qb, Qc]
      rw [show QQ (pE G_1 G_3) ⟨[0], 7, 0⟩ (List.map IntsV.l [tvL G_8 0]) 9 = 0 from Ae3 _ _]
      obtain ⟨hm, -, -⟩ := hy (Ae3 _ _)
      have hm2 : y.m = _ := hm.trans (Ais G_1 G_3 w)
      obtain ⟨ycA, ycc, ym⟩ := y
      simp only at hm2
      subst hm2
      clear hm
      have hV2 : T V2 := tB.out _ _ hV1 (bb.mono (tsz.out _ hV1))
      clear bb hy rM hV1
      refine ⟨hV2, ?_⟩
      (refine tkH 6 (.tuple #[.agg (MtV.mk ycA ycc ⟨⟨[0], 7, 0⟩, 0, -1, 0, 0, []⟩).cells.toArray, .int .i64 0]) rfl (Qd rfl (fun W hW => by (go_simp))) ?_; simp only [Act.put, Qa, Qb, Qc])
      (refine tkH 7 (.agg (MtV.mk ycA ycc ⟨⟨[0], 7, 0⟩, 0, -1, 0, 0, []⟩).cells.toArray) rfl (Qd rfl (fun W hW => by (go_simp))) ?_; simp only [Act.put, Qa, Qb, Qc])
      (refine tkH 8 (.int .i64 0) rfl (Qd rfl (fun W hW => by (go_simp))) ?_; simp only [Act.put, Qa, Qb, Qc])
      (refine wpAnyH_all (rs := [9]) (by kernel_rfl) (by simp) (fun i hi => ?_); obtain rfl : i = 9 := by simpa using hi)
      refine Qe rfl rfl (fun K2 hK2 => ?_)
      refine Q0 54 rfl _ _ (Zq _) rfl ?_
      intro C V3 hC rC bC
      refine hK2 _ _ ?_
      clear hK2 K2
      simp only [Act.put, Qa, Qb, Qc]
      have hCl : V0.heap.size ≤ C := Nat.le_trans (tsz.out _ hV2) hC
      have hV3 : T V3 := tB.out _ _ hV2 ((bC.mono hC).mono (tsz.out _ hV2))
      clear bC hC hV2
      refine ⟨hV3, ?_⟩
      (refine wpAnyH_all (rs := [10]) (by kernel_rfl) (by simp) (fun i hi => ?_); obtain rfl : i = 10 := by simpa using hi)
      refine Qe rfl rfl (fun K2 hK2 => ?_)
      refine ZM 54 _ _ rfl C (MtV.mk ycA ycc ⟨⟨[0], 7, 0⟩, 0, -1, 0, 0, []⟩).cells.toArray rfl rfl 54 _ rC (by kernel_rfl) rfl (by simp [MtV.cells, Value.oneCell']) ?_
      intro V9 r9 o9
      refine hK2 _ _ ?_
      clear hK2 K2
      simp only [Act.put, Qa, Qb, Qc]
      have h9 : T V9 := tB.out _ _ hV3 (o9.below hCl)
      have hprev := t0.out _ h9
      clear rC o9 hV3
      refine ⟨h9, ?_⟩
      (refine tkH 11 (.int .i64 0) rfl (Qd rfl (fun W hW => by (go_simp))) ?_; simp only [Act.put, Qa, Qb, Qc])
      refine wpAnyH_done (by kernel_rfl) ?_ _
      clear h9 t0 tsz tB hCl T
      exact ⟨C, M, ycA, ycc, rfl, hprev, r9⟩
    · skip
      refine Qe rfl rfl (fun K2 hK2 => ?_)
      refine Q0 54 rfl _ _ (Zq _) rfl ?_
      intro C V4 hC rC bC
      refine hK2 _ _ ?_
      clear hK2 K2
      simp only [Act.put, Qa, Qb, Qc]
      have hCl : V0.heap.size ≤ C := Nat.le_trans (tsz.out _ hV1) hC
      replace rM := rM.below (bC.mono hC) rM.lt
      have hV4 : T V4 := tB.out _ _ hV1 ((bC.mono hC).mono (tsz.out _ hV1))
      clear bC hC hV1
      refine ⟨hV4, ?_⟩
      (refine wpAnyH_all (rs := [5]) (by kernel_rfl) (by simp) (fun i hi => ?_); obtain rfl : i = 5 := by simpa using hi)
      refine Qe rfl rfl (fun K2 hK2 => ?_)
      refine Qx 29 #[.agg #[.int .i64 1, .slice (some ⟨G_1, 0, none⟩) 1 1, .slice (some ⟨G_3, 0, none⟩) 3 3], .agg #[.slice (some ⟨M, 0, none⟩) 1 1, .int .i64 7, .int .i64 0], .slice (some ⟨G_12, 0, none⟩) 1 2, .int .i64 9] (w1 := V4) (by go_simp) ((Jg (pE G_1 G_3) ⟨some ⟨M, 0, none⟩, 1, ⟨[0], 7, 0⟩⟩ (some ⟨G_12, 0, none⟩) 2 [tvL G_8 0] 9 V4 (F_okp.out _ (D4.out _ (D5.out _ (D6.out _ (D7.out _ (D8.out _ (D9.out _ (D10.out _ (D11.out _ (D12.out _ (D13.out _ (t0.out _ hV4)))))))))))) (Vh rM) (by show 3 ≤ 999; omega) (AdP (ys := [(tvL G_10 5).val]) (JL (F_T.out _ (D7.out _ (D8.out _ (D9.out _ (D10.out _ (D11.out _ (D12.out _ (D13.out _ (t0.out _ hV4))))))))))) (fun x hx => Ys (F_t0.out _ (D5.out _ (D6.out _ (D7.out _ (D8.out _ (D9.out _ (D10.out _ (D11.out _ (D12.out _ (D13.out _ (t0.out _ hV4))))))))))) (F_t5.out _ (D6.out _ (D7.out _ (D8.out _ (D9.out _ (D10.out _ (D11.out _ (D12.out _ (D13.out _ (t0.out _ hV4)))))))))) x (by rw [List.mem_singleton.1 hx]; simp)) (by simp)).mono ?_)
      rintro e V5 ⟨y, rfl, hy, -, bb⟩
      refine ⟨_, rfl, ?_⟩
      refine hK2 _ _ ?_
      clear hK2 K2
      simp only [Act.put, Qa, Qb, Qc]
      rw [show QQ (pE G_1 G_3) ⟨[0], 7, 0⟩ (List.map IntsV.l [tvL G_8 0]) 9 = 0 from Ae3 _ _]
      obtain ⟨hm, -, -⟩ := hy (Ae3 _ _)
      have hm2 : y.m = _ := hm.trans (Ais G_1 G_3 w)
      obtain ⟨ycA, ycc, ym⟩ := y
      simp only at hm2
      subst hm2
      clear hm
      replace rC := rC.below bb rC.lt
      have hV5 : T V5 := tB.out _ _ hV4 (bb.mono (tsz.out _ hV4))
      clear bb hy rM hV4
      refine ⟨hV5, ?_⟩
      (refine tkH 6 (.tuple #[.agg (MtV.mk ycA ycc ⟨⟨[0], 7, 0⟩, 0, -1, 0, 0, []⟩).cells.toArray, .int .i64 0]) rfl (Qd rfl (fun W hW => by (go_simp))) ?_; simp only [Act.put, Qa, Qb, Qc])
      (refine tkH 7 (.agg (MtV.mk ycA ycc ⟨⟨[0], 7, 0⟩, 0, -1, 0, 0, []⟩).cells.toArray) rfl (Qd rfl (fun W hW => by (go_simp))) ?_; simp only [Act.put, Qa, Qb, Qc])
      (refine tkH 8 (.int .i64 0) rfl (Qd rfl (fun W hW => by (go_simp))) ?_; simp only [Act.put, Qa, Qb, Qc])
      (refine wpAnyH_all (rs := [10]) (by kernel_rfl) (by simp) (fun i hi => ?_); obtain rfl : i = 10 := by simpa using hi)
      refine Qe rfl rfl (fun K2 hK2 => ?_)
      refine ZM 54 _ _ rfl C (MtV.mk ycA ycc ⟨⟨[0], 7, 0⟩, 0, -1, 0, 0, []⟩).cells.toArray rfl rfl 54 _ rC (by kernel_rfl) rfl (by simp [MtV.cells, Value.oneCell']) ?_
      intro V9 r9 o9
      refine hK2 _ _ ?_
      clear hK2 K2
      simp only [Act.put, Qa, Qb, Qc]
      have h9 : T V9 := tB.out _ _ hV5 (o9.below hCl)
      have hprev := t0.out _ h9
      clear rC o9 hV5
      refine ⟨h9, ?_⟩
      (refine tkH 11 (.int .i64 0) rfl (Qd rfl (fun W hW => by (go_simp))) ?_; simp only [Act.put, Qa, Qb, Qc])
      refine wpAnyH_done (by kernel_rfl) ?_ _
      clear h9 t0 tsz tB hCl T
      exact ⟨C, M, ycA, ycc, rfl, hprev, r9⟩
  · skip
    refine Qe rfl rfl (fun K2 hK2 => ?_)
    refine Q0 54 rfl _ _ (Zq _) rfl ?_
    intro C V6 hC rC bC
    refine hK2 _ _ ?_
    clear hK2 K2
    simp only [Act.put, Qa, Qb, Qc]
    have hCl : V0.heap.size ≤ C := Nat.le_trans (tsz.out _ hT0) hC
    have hV6 : T V6 := tB.out _ _ hT0 ((bC.mono hC).mono (tsz.out _ hT0))
    clear bC hC hT0
    refine ⟨hV6, ?_⟩
    (refine wpAnyH_all (rs := [1]) (by kernel_rfl) (by simp) (fun i hi => ?_); obtain rfl : i = 1 := by simpa using hi)
    refine Qe rfl rfl (fun K2 hK2 => ?_)
    refine Qj (.slice (some ⟨V6.heap.size, 0, none⟩) 1 1) (Qn [(0, .const (.int .i64 0))] rfl (ZH (cells := #[.int .i64 0]) Tryz.underlying22 Xu (by decide) (by decide) (by kernel_rfl) V6)) ?_
    refine hK2 _ _ ?_
    clear hK2 K2
    simp only [Act.put, Qa, Qb, Qc]
    obtain ⟨M, hM⟩ : ∃ M, M = V6.heap.size := ⟨_, rfl⟩
    obtain ⟨V7, hV2⟩ : ∃ V, V = V6.alloc (.cells #[.int .i64 0] 3) := ⟨_, rfl⟩
    have rM : Row V7 M 3 (Qi [0]).toArray := by rw [hV2, hM]; exact Row.new _ _ _
    have bM : Below V6.heap.size V6 V7 := by rw [hV2]; exact (Below.refl _ _).alloc (Nat.le_refl _) _
    rw [← hM, ← hV2]
    replace rC := rC.below bM rC.lt
    have hV7 : T V7 := tB.out _ _ hV6 (bM.mono (tsz.out _ hV6))
    clear hM hV2 bM hV6
    refine ⟨hV7, ?_⟩
    (refine tkH 2 (.agg #[.slice (some ⟨M, 0, none⟩) 1 1, .int .i64 7, .int .i64 0]) rfl (Qd rfl (fun W hW => by (go_simp))) ?_; simp only [Act.put, Qa, Qb, Qc])
    (refine wpAnyH_all (rs := [5]) (by kernel_rfl) (by simp) (fun i hi => ?_); obtain rfl : i = 5 := by simpa using hi)
    refine Qe rfl rfl (fun K2 hK2 => ?_)
    refine Qx 29 #[.agg #[.int .i64 1, .slice (some ⟨G_1, 0, none⟩) 1 1, .slice (some ⟨G_3, 0, none⟩) 3 3], .agg #[.slice (some ⟨M, 0, none⟩) 1 1, .int .i64 7, .int .i64 0], .slice (some ⟨G_12, 0, none⟩) 1 2, .int .i64 9] (w1 := V7) (by go_simp) ((Jg (pE G_1 G_3) ⟨some ⟨M, 0, none⟩, 1, ⟨[0], 7, 0⟩⟩ (some ⟨G_12, 0, none⟩) 2 [tvL G_8 0] 9 V7 (F_okp.out _ (D4.out _ (D5.out _ (D6.out _ (D7.out _ (D8.out _ (D9.out _ (D10.out _ (D11.out _ (D12.out _ (D13.out _ (t0.out _ hV7)))))))))))) (Vh rM) (by show 3 ≤ 999; omega) (AdP (ys := [(tvL G_10 5).val]) (JL (F_T.out _ (D7.out _ (D8.out _ (D9.out _ (D10.out _ (D11.out _ (D12.out _ (D13.out _ (t0.out _ hV7))))))))))) (fun x hx => Ys (F_t0.out _ (D5.out _ (D6.out _ (D7.out _ (D8.out _ (D9.out _ (D10.out _ (D11.out _ (D12.out _ (D13.out _ (t0.out _ hV7))))))))))) (F_t5.out _ (D6.out _ (D7.out _ (D8.out _ (D9.out _ (D10.out _ (D11.out _ (D12.out _ (D13.out _ (t0.out _ hV7)))))))))) x (by rw [List.mem_singleton.1 hx]; simp)) (by simp)).mono ?_)
    rintro e V8 ⟨y, rfl, hy, -, bb⟩
    refine ⟨_, rfl, ?_⟩
    refine hK2 _ _ ?_
    clear hK2 K2
    simp only [Act.put, Qa, Qb, Qc]
    rw [show QQ (pE G_1 G_3) ⟨[0], 7, 0⟩ (List.map IntsV.l [tvL G_8 0]) 9 = 0 from Ae3 _ _]
    obtain ⟨hm, -, -⟩ := hy (Ae3 _ _)
    have hm2 : y.m = _ := hm.trans (Ais G_1 G_3 w)
    obtain ⟨ycA, ycc, ym⟩ := y
    simp only at hm2
    subst hm2
    clear hm
    replace rC := rC.below bb rC.lt
    have hV8 : T V8 := tB.out _ _ hV7 (bb.mono (tsz.out _ hV7))
    clear bb hy rM hV7
    refine ⟨hV8, ?_⟩
    (refine tkH 6 (.tuple #[.agg (MtV.mk ycA ycc ⟨⟨[0], 7, 0⟩, 0, -1, 0, 0, []⟩).cells.toArray, .int .i64 0]) rfl (Qd rfl (fun W hW => by (go_simp))) ?_; simp only [Act.put, Qa, Qb, Qc])
    (refine tkH 7 (.agg (MtV.mk ycA ycc ⟨⟨[0], 7, 0⟩, 0, -1, 0, 0, []⟩).cells.toArray) rfl (Qd rfl (fun W hW => by (go_simp))) ?_; simp only [Act.put, Qa, Qb, Qc])
    (refine tkH 8 (.int .i64 0) rfl (Qd rfl (fun W hW => by (go_simp))) ?_; simp only [Act.put, Qa, Qb, Qc])
    (refine wpAnyH_all (rs := [10]) (by kernel_rfl) (by simp) (fun i hi => ?_); obtain rfl : i = 10 := by simpa using hi)
    refine Qe rfl rfl (fun K2 hK2 => ?_)
    refine ZM 54 _ _ rfl C (MtV.mk ycA ycc ⟨⟨[0], 7, 0⟩, 0, -1, 0, 0, []⟩).cells.toArray rfl rfl 54 _ rC (by kernel_rfl) rfl (by simp [MtV.cells, Value.oneCell']) ?_
    intro V9 r9 o9
    refine hK2 _ _ ?_
    clear hK2 K2
    simp only [Act.put, Qa, Qb, Qc]
    have h9 : T V9 := tB.out _ _ hV8 (o9.below hCl)
    have hprev := t0.out _ h9
    clear rC o9 hV8
    refine ⟨h9, ?_⟩
    (refine tkH 11 (.int .i64 0) rfl (Qd rfl (fun W hW => by (go_simp))) ?_; simp only [Act.put, Qa, Qb, Qc])
    refine wpAnyH_done (by kernel_rfl) ?_ _
    clear h9 t0 tsz tB hCl T
    exact ⟨C, M, ycA, ycc, rfl, hprev, r9⟩
 case cont =>
  rintro C M ycA ycc V9 ⟨hprev, r9⟩
  obtain ⟨S14, hSd⟩ : ∃ S : World → Prop, S = (fun W => S13 W ∧ Row W C 54 (MtV.mk ycA ycc ⟨⟨[0], 7, 0⟩, 0, -1, 0, 0, []⟩).cells.toArray) := ⟨_, rfl⟩
  have st14 : St S14 := by rw [hSd]; infer_instance
  have D14 : Hid (∀ W, S14 W → S13 W) := by show ∀ W, _; rw [hSd]; exact fun W h => h.1
  have F_C : Hid (∀ W, S14 W → Row W C 54 (MtV.mk ycA ycc ⟨⟨[0], 7, 0⟩, 0, -1, 0, 0, []⟩).cells.toArray) := by show ∀ W, _; rw [hSd]; exact fun W h => h.2
  have HS14 : Hid (S14 V9) := by show S14 V9; rw [hSd]; exact ⟨hprev, r9⟩
  clear hSd
  clear hprev r9 HS13
  as_aux_lemma =>
   go_wp2_with (refine wpList_load_row rfl 25 _ rfl G_5 rfl 25 #[.int .i64 1, .slice (some ⟨G_1, 0, none⟩) 1 1, .slice (some ⟨G_3, 0, none⟩) 3 3] (0, 0) _ (F_P.out _ (D4.out _ (D5.out _ (D6.out _ (D7.out _ (D8.out _ (D9.out _ (D10.out _ (D11.out _ (D12.out _ (D13.out _ (D14.out _ HS14.out)))))))))))) Tryz.underlying25 rfl (by kernel_rfl) ?_)
   refine (Abw (pE G_1 G_3) (some ⟨G_12, 0, none⟩) 2 [tvL G_8 0, tvL G_10 5] 9 V9 (F_okp.out _ (D4.out _ (D5.out _ (D6.out _ (D7.out _ (D8.out _ (D9.out _ (D10.out _ (D11.out _ (D12.out _ (D13.out _ (D14.out _ HS14.out)))))))))))) (by show 3 ≤ 1000; omega) (JL (F_T.out _ (D7.out _ (D8.out _ (D9.out _ (D10.out _ (D11.out _ (D12.out _ (D13.out _ (D14.out _ HS14.out)))))))))) (Ys (F_t0.out _ (D5.out _ (D6.out _ (D7.out _ (D8.out _ (D9.out _ (D10.out _ (D11.out _ (D12.out _ (D13.out _ (D14.out _ HS14.out))))))))))) (F_t5.out _ (D6.out _ (D7.out _ (D8.out _ (D9.out _ (D10.out _ (D11.out _ (D12.out _ (D13.out _ (D14.out _ HS14.out))))))))))) (by simp)).mono ?_
   rintro e w_30 ⟨v, rfl, own, bb⟩
   rw [show JT (pE G_1 G_3) (List.map IntsV.l [tvL G_8 0, tvL G_10 5]) 9 = 0 from AfF _ _ (.inl rfl)]
   obtain ⟨q0, q5, hbl⟩ := Ajm G_1 G_3 w
   rw [show XH (pE G_1 G_3) (List.map IntsV.l [tvL G_8 0, tvL G_10 5]) 9 = _ from hbl] at own
   obtain ⟨bg, bc, rfl⟩ := AhI own
   have hprev := st14.go HS14.out (bb)
   obtain ⟨S15, hSd⟩ : ∃ S : World → Prop, S = (fun W => S14 W ∧ Rd W (some ⟨bg, 0, none⟩) (JK [⟨0, 0, q0⟩, ⟨0, 5, q5⟩])) := ⟨_, rfl⟩
   have st15 : St S15 := by rw [hSd]; infer_instance
   have D15 : Hid (∀ W, S15 W → S14 W) := by show ∀ W, _; rw [hSd]; exact fun W h => h.1
   have F_bl : Hid (∀ W, S15 W → Rd W (some ⟨bg, 0, none⟩) (JK [⟨0, 0, q0⟩, ⟨0, 5, q5⟩])) := by show ∀ W, _; rw [hSd]; exact fun W h => h.2
   have HS15 : Hid (S15 w_30) := by show S15 w_30; rw [hSd]; exact ⟨hprev, KT own⟩
   clear hSd
   clear hprev HS14 bb own
   go_wp2_with fail
   refine ZX S15 (by kernel_rfl) (by kernel_rfl) (St.drew HS15.out) ?_
   (refine Qg rfl ?_ (fun W hW => ?_) ?_; rotate_left; (focus (go_simp; exact rfl)); simp only [Act.put, Qa, Qb, Qc])
   as_aux_lemma =>
    (refine Qg rfl ?_ (fun W hW => ?_) ?_; rotate_left; (focus (have c := (F_A.out _ (D10.out _ (D11.out _ (D12.out _ (D13.out _ (D14.out _ (D15.out _ hW))))))).cellv (i := 3) (v := .int .i64 1) rfl; go_simp; exact rfl)); simp only [Act.put, Qa, Qb, Qc])
    iterate 3 (refine Qg rfl ?_ (fun W hW => ?_) ?_; rotate_left; (focus (go_simp; exact rfl)); simp only [Act.put, Qa, Qb, Qc])
    (refine Qg rfl ?_ (fun W hW => ?_) ?_; rotate_left; (focus (have c := (F_A.out _ (D10.out _ (D11.out _ (D12.out _ (D13.out _ (D14.out _ (D15.out _ hW))))))).cellv (i := 4) (v := .int .i64 0) rfl; go_simp; exact rfl)); simp only [Act.put, Qa, Qb, Qc])
    iterate 5 (refine Qg rfl ?_ (fun W hW => ?_) ?_; rotate_left; (focus (go_simp; exact rfl)); simp only [Act.put, Qa, Qb, Qc])
    (refine Qg rfl ?_ (fun W hW => ?_) ?_; rotate_left; (focus (have c := (F_A.out _ (D10.out _ (D11.out _ (D12.out _ (D13.out _ (D14.out _ (D15.out _ hW))))))).cellv (i := 5) (v := .int .i64 3) rfl; go_simp; exact rfl)); simp only [Act.put, Qa, Qb, Qc])
    iterate 4 (refine Qg rfl ?_ (fun W hW => ?_) ?_; rotate_left; (focus (go_simp; exact rfl)); simp only [Act.put, Qa, Qb, Qc])
    (refine Qg rfl ?_ (fun W hW => ?_) ?_; rotate_left; (focus (have c := (F_A.out _ (D10.out _ (D11.out _ (D12.out _ (D13.out _ (D14.out _ (D15.out _ hW))))))).cellv (i := 7) (v := .string ⟨dga.toArray⟩) rfl; go_simp; exact rfl)); simp only [Act.put, Qa, Qb, Qc])
    (refine Qg rfl ?_ (fun W hW => ?_) ?_; rotate_left; (focus ((have hsz : (⟨dga.toArray⟩ : ByteArray).size = 32 := (by rw [YZ]; exact Hdl.out)); go_simp; exact rfl)); simp only [Act.put, Qa, Qb, Qc])
    iterate 4 (refine Qg rfl ?_ (fun W hW => ?_) ?_; rotate_left; (focus (go_simp; exact rfl)); simp only [Act.put, Qa, Qb, Qc])
    as_aux_lemma =>
     iterate 4 (refine Qg rfl ?_ (fun W hW => ?_) ?_; rotate_left; (focus (go_simp; exact rfl)); simp only [Act.put, Qa, Qb, Qc])
     (refine Qg rfl ?_ (fun W hW => ?_) ?_; rotate_left; (focus (have c := (F_B.out _ (D13.out _ (D14.out _ (D15.out _ hW)))).cellv (i := 3) (v := .int .i64 1) rfl; go_simp; exact rfl)); simp only [Act.put, Qa, Qb, Qc])
     iterate 4 (refine Qg rfl ?_ (fun W hW => ?_) ?_; rotate_left; (focus (go_simp; exact rfl)); simp only [Act.put, Qa, Qb, Qc])
     (refine Qg rfl ?_ (fun W hW => ?_) ?_; rotate_left; (focus (have c := (F_B.out _ (D13.out _ (D14.out _ (D15.out _ hW)))).cellv (i := 4) (v := .int .i64 1) rfl; go_simp; exact rfl)); simp only [Act.put, Qa, Qb, Qc])
     iterate 12 (refine Qg rfl ?_ (fun W hW => ?_) ?_; rotate_left; (focus (go_simp; exact rfl)); simp only [Act.put, Qa, Qb, Qc])
     as_aux_lemma =>
      (refine Qg rfl ?_ (fun W hW => ?_) ?_; rotate_left; (focus (have c := (F_C.out _ (D15.out _ hW)).cellv (i := 3) (v := .int .i64 0) rfl; go_simp; exact rfl)); simp only [Act.put, Qa, Qb, Qc])
      iterate 4 (refine Qg rfl ?_ (fun W hW => ?_) ?_; rotate_left; (focus (go_simp; exact rfl)); simp only [Act.put, Qa, Qb, Qc])
      (refine Qg rfl ?_ (fun W hW => ?_) ?_; rotate_left; (focus (have c := (F_C.out _ (D15.out _ hW)).cellv (i := 4) (v := .int .i64 (-1)) rfl; go_simp; exact rfl)); simp only [Act.put, Qa, Qb, Qc])
      iterate 10 (refine Qg rfl ?_ (fun W hW => ?_) ?_; rotate_left; (focus (go_simp; exact rfl)); simp only [Act.put, Qa, Qb, Qc])
      (refine Qg rfl ?_ (fun W hW => ?_) ?_; rotate_left; (focus (have c := YR (F_bl.out _ hW) (j := 3) (v := .int .i64 5) rfl; go_simp; exact rfl)); simp only [Act.put, Qa, Qb, Qc])
      iterate 5 (refine Qg rfl ?_ (fun W hW => ?_) ?_; rotate_left; (focus (go_simp; exact rfl)); simp only [Act.put, Qa, Qb, Qc])
      as_aux_lemma =>
       iterate 4 (refine Qg rfl ?_ (fun W hW => ?_) ?_; rotate_left; (focus (go_simp; exact rfl)); simp only [Act.put, Qa, Qb, Qc])
       (refine Jf rfl 37 _ rfl (⟨bg, 0, none⟩) rfl [.int .i64 0, .int .i64 0] _ (fun W hW => AhN (F_bl.out _ hW)) Tryz.underlying37 rfl (by kernel_rfl) ?_; simp only [Act.put, Qa, Qb, Qc])
       iterate 2 (refine Qg rfl ?_ (fun W hW => ?_) ?_; rotate_left; (focus (go_simp; exact rfl)); simp only [Act.put, Qa, Qb, Qc])
       (refine Jf rfl 37 _ rfl (⟨bg, 2, none⟩) rfl [.int .i64 0, .int .i64 5] _ (fun W hW => AhO (F_bl.out _ hW)) Tryz.underlying37 rfl (by kernel_rfl) ?_; simp only [Act.put, Qa, Qb, Qc])
       (refine QE rfl 27 _ (fun W => by (go_simp; try rfl)) (.int .i64 1) (fun W hW => AgL q0 q5 W) ?_; simp only [Act.put, Qa, Qb, Qc])
       iterate 3 (refine Qg rfl ?_ (fun W hW => ?_) ?_; rotate_left; (focus (go_simp; exact rfl)); simp only [Act.put, Qa, Qb, Qc])
       iterate 2 (refine QO rfl 54 _ rfl (G_17) rfl 54 _ _ (fun W hW => (F_A.out _ (D10.out _ (D11.out _ (D12.out _ (D13.out _ (D14.out _ (D15.out _ hW)))))))) Tryz.underlying54 rfl (by kernel_rfl) ?_; simp only [Act.put, Qa, Qb, Qc])
       (refine QE rfl 32 _ (fun W => by (go_simp; try rfl)) (.bool true) (fun W hW => AhW yaA yac dga W (F_oka.out _ (D9.out _ (D10.out _ (D11.out _ (D12.out _ (D13.out _ (D14.out _ (D15.out _ hW))))))))) ?_; simp only [Act.put, Qa, Qb, Qc])
       iterate 2 (refine Qg rfl ?_ (fun W hW => ?_) ?_; rotate_left; (focus (go_simp; exact rfl)); simp only [Act.put, Qa, Qb, Qc])
       (refine QO rfl 54 _ rfl (G_17) rfl 54 _ _ (fun W hW => (F_A.out _ (D10.out _ (D11.out _ (D12.out _ (D13.out _ (D14.out _ (D15.out _ hW)))))))) Tryz.underlying54 rfl (by kernel_rfl) ?_; simp only [Act.put, Qa, Qb, Qc])
       (refine QO rfl 54 _ rfl (G_23) rfl 54 _ _ (fun W hW => (F_B.out _ (D13.out _ (D14.out _ (D15.out _ hW))))) Tryz.underlying54 rfl (by kernel_rfl) ?_; simp only [Act.put, Qa, Qb, Qc])
       (refine QE rfl 32 _ (fun W => by (go_simp; try rfl)) (.bool false) (fun W hW => AhX yaA yac ybA ybc dga dgb W (F_oka.out _ (D9.out _ (D10.out _ (D11.out _ (D12.out _ (D13.out _ (D14.out _ (D15.out _ hW)))))))) (F_okb.out _ (D12.out _ (D13.out _ (D14.out _ (D15.out _ hW)))))) ?_; simp only [Act.put, Qa, Qb, Qc])
       iterate 3 (refine Qg rfl ?_ (fun W hW => ?_) ?_; rotate_left; (focus (go_simp; exact rfl)); simp only [Act.put, Qa, Qb, Qc])
       refine QV fun W9 hW9 => ?_
       clear HS15
       have HS15 : Hid (S15 W9) := hW9
       clear hW9
       go_wp2_with fail
       go_ret
       exact ⟨rfl, (F_low.out _ (D1.out _ (D2.out _ (D3.out _ (D4.out _ (D5.out _ (D6.out _ (D7.out _ (D8.out _ (D9.out _ (D10.out _ (D11.out _ (D12.out _ (D13.out _ (D14.out _ (D15.out _ HS15.out))))))))))))))))⟩
end Go.Proofs.YtdcmppdhdcjpfaaGreat
