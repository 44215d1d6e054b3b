/- Lemmas for VerdictTellsP. -/
import Derived.Test.YtdcmppdhdcjpfaaGreatZz1
import Derived.Test.YtdcmppdhdcjpfaaGreatZz36
import Derived.Test.YtdcmppdhdcjpfaaGreatZz39
set_option linter.unusedVariables false
set_option linter.unusedSimpArgs false
set_option maxRecDepth 100000
set_option maxHeartbeats 16000000
namespace Go.Proofs.YtdcmppdhdcjpfaaGreat
open Go.RowKit Go.Deep
theorem Ah8 : (Tryz.prog.info? 22).map (fun i => (i.zero, i.size)) = some (some (.slice none 0 0), 1) := by kernel_rfl
def tvL (g : Nat) (n : Int) : IntsV := ⟨some ⟨g, 0, none⟩, 1, [n]⟩
theorem AhB {g : Nat} {n : Int} {W : World} (hn : InI n) (r : Row W g 3 (Qi [n]).toArray) : (tvL g n).ok W := ⟨by simp [tvL], by unfold maxLen; simp [tvL], fun h => (by cases h), JY r, fun x hx => by rw [Lo.1 hx]; exact hn⟩
theorem Akb : InI 5 := by unfold InI; omega
theorem AjE : InI 0 := by unfold InI; omega
theorem YW {g1 g2 : Nat} {W : World} (r1 : Row W g1 3 (Qi [0]).toArray) (r2 : Row W g2 3 (Qi [5]).toArray) : ∀ x ∈ [tvL g1 0, tvL g2 5], x.ok W := fun x hx => by
 simp only [Lv, L5, or_false] at hx;rcases hx with rfl | rfl
 · exact AhB AjE r1
 · exact AhB Akb r2
theorem Eh {g : Nat} {W : World} {op n : Int} (r : Row W g 3 (Qi [0]).toArray) : DlOk W ⟨some ⟨g, 0, none⟩, 1, ⟨[0], op, n⟩⟩ := ⟨JY r, by simp⟩
theorem AeG {W : World} {A : Option Addr} {xs ys : List Value} (h : Rd W A (xs ++ ys)) : Rd W A xs := fun j u hj => h j u (by rw [Lw (Lb.1 hj).1]; exact hj)
theorem AjH (g1 g2 : Nat) : Z8 (pE g1 g2) ⟨[0], 5, 0⟩ [[0], [5]] 9 = 0 := by rw [AbD g1 g2 (.inl rfl), AbI (Ep g1 g2) Aka]
theorem AjI (g1 g2 : Nat) : Z8 (pE g1 g2) ⟨[0], 7, 0⟩ [[0], [5]] 9 = 0 := by rw [AbD g1 g2 (.inl rfl), AbI (Ep g1 g2) AjD]
theorem AjG (g1 g2 : Nat) : Z8 (pE g1 g2) ⟨[], 0, 0⟩ [[0], [5]] 9 = 17 := by rw [AbD g1 g2 (.inl rfl), Afh (Ep g1 g2) AjL]
theorem AfU (g1 g2 : Nat) : Z8 (pE g1 g2) ⟨[0], 7, 0⟩ [[0]] 9 = 0 := by rw [AbD g1 g2 (.inr rfl), AbI (Ep g1 g2) AjD]
theorem Aj9 (g1 g2 : Nat) (w : World) : ∃ d0 d5, KI (pE g1 g2) [[0], [5]] 9 = [⟨0, 0, d0⟩, ⟨0, 5, d5⟩] := by
 obtain ⟨b, c⟩ := Aft (p := pE g1 g2) w rfl rfl rfl;obtain ⟨d, e⟩ := Ai3 (p := pE g1 g2) w rfl rfl rfl;refine ⟨(rnZ (pE g1 g2) 9 [0]).dig, (rnZ (pE g1 g2) 9 [5]).dig, ?_⟩;unfold KI;rw [if_pos (Agy g1 g2 (.inl rfl)), LF, LF, Nc];generalize rnZ (pE g1 g2) 9 [0] = r0 at b c ⊢;generalize rnZ (pE g1 g2) 9 [5] = r5 at d e ⊢;obtain ⟨i, k, g⟩ := r0;obtain ⟨j, l, h⟩ := r5;simp only at b c d e ⊢;rw [b, c, d, e]
theorem Aiq {W : World} {B : Nat} {v : Value} {xs : List Value} (h : W.ownsRow B 37 2 v 2 xs) : ∃ g c, v = .slice (some ⟨g, 0, none⟩) 2 c := by
 rcases h.2 with ⟨_, b⟩ | ⟨g, c, _, d, _⟩
 · cases b
 · exact ⟨g, c, d⟩
theorem Uo {W : World} {g : Nat} {xs : List Value} {j : Nat} {v : Value} (h : Rd W (some ⟨g, 0, none⟩) xs) (hj : xs[j]? = some v) : W.cell? ⟨g, j, none⟩ = some v := by
 obtain ⟨a, e, b⟩ := h j v hj;injection e with e;subst e;unfold Addr.add at b;by_cases c : j = 0
 · subst c; exact b
 · rw [if_neg c] at b; simpa using b
theorem Aiw {W : World} {g : Nat} {q0 q5 : List UInt8} (h : Rd W (some ⟨g, 0, none⟩) (Z3 [⟨0, 0, q0⟩, ⟨0, 5, q5⟩])) : ∀ (j : Nat) (u : Value), [.int .i64 0, .int .i64 0][j]? = some u → W.cell? ((⟨g, 0, none⟩ : Addr).add j) = some u := fun j u hj => by
 match j, hj with
 | 0, hj => exact Uo h (j := 0) hj
 | 1, hj => exact Uo h (j := 1) hj
 | j + 2, hj => simp at hj
theorem Aix {W : World} {g : Nat} {q0 q5 : List UInt8} (h : Rd W (some ⟨g, 0, none⟩) (Z3 [⟨0, 0, q0⟩, ⟨0, 5, q5⟩])) : ∀ (j : Nat) (u : Value), [.int .i64 0, .int .i64 5][j]? = some u → W.cell? ((⟨g, 2, none⟩ : Addr).add j) = some u := fun j u hj => by
 match j, hj with
 | 0, hj => exact Uo h (j := 2) hj
 | 1, hj => exact Uo h (j := 3) hj
 | j + 2, hj => simp at hj
theorem AhA (q0 q5 : List UInt8) (W : World) : Calls Tryz.prog 27 #[.agg #[.int .i64 0, .int .i64 0], .agg #[.int .i64 0, .int .i64 5]] W fun e w' => e = .returned (.int .i64 1) ∧ Below W.heap.size W w' := U5 ⟨0, 0, q0⟩ ⟨0, 5, q5⟩ W
theorem AiF (A : Option Addr) (c : Nat) (dg : List UInt8) (W : World) (h : MtOk W ⟨A, c, ⟨⟨[0], 5, 0⟩, 1, 0, 3, 0, dg⟩⟩) : Calls Tryz.prog 32 #[.agg (MtV.mk A c ⟨⟨[0], 5, 0⟩, 1, 0, 3, 0, dg⟩).cells.toArray, .agg (MtV.mk A c ⟨⟨[0], 5, 0⟩, 1, 0, 3, 0, dg⟩).cells.toArray] W fun e w' => e = .returned (.bool true) ∧ Below W.heap.size W w' := by
 have := EE _ _ W h h;rwa [show Xu (⟨⟨[0], 5, 0⟩, 1, 0, 3, 0, dg⟩ : Mt) ⟨⟨[0], 5, 0⟩, 1, 0, 3, 0, dg⟩ = true from sameM_iff.2 rfl] at this
theorem AiG (A : Option Addr) (c : Nat) (B : Option Addr) (e : Nat) (dg dh : List UInt8) (W : World) (h : MtOk W ⟨A, c, ⟨⟨[0], 5, 0⟩, 1, 0, 3, 0, dg⟩⟩) (k : MtOk W ⟨B, e, ⟨⟨[0], 7, 0⟩, 1, 1, 0, 0, dh⟩⟩) : Calls Tryz.prog 32 #[.agg (MtV.mk A c ⟨⟨[0], 5, 0⟩, 1, 0, 3, 0, dg⟩).cells.toArray, .agg (MtV.mk B e ⟨⟨[0], 7, 0⟩, 1, 1, 0, 0, dh⟩).cells.toArray] W fun e w' => e = .returned (.bool false) ∧ Below W.heap.size W w' := by
 have := EE _ _ W h k;rwa [show Xu (⟨⟨[0], 5, 0⟩, 1, 0, 3, 0, dg⟩ : Mt) ⟨⟨[0], 7, 0⟩, 1, 1, 0, 0, dh⟩ = false from by unfold Xu; simp] at this
theorem AiO {P : Program} {c : Code} {a : Act} {w : World} {Q : Exit → Act → World → Prop} {F : Nat → Nat → Option Addr → Nat → World → Prop} {f : Nat → Nat → Option Addr → Nat → Act}
 (hreg : c.wp P (Ends fun _ a' w' => ∃ (C M : Nat) (A : Option Addr) (k : Nat), a' = f C M A k ∧ F C M A k w') a w) (cont : ∀ C M A k w', F C M A k w' → Q .normal (f C M A k) w') : c.wp P Q a w :=
 Code.wp_mono (fun e a' w' h => by
  cases e with
  | normal =>
   obtain ⟨C, M, A, k, rfl, hF⟩ := (h : ∃ (C M : Nat) (A : Option Addr) (k : Nat), a' = f C M A k ∧ F C M A k w')
   exact cont _ _ _ _ _ hF
  | _ => exact (h : False).elim) hreg
theorem AdK (w : World) : Calls Tryz.prog 23 #[] w fun e w' => e = .returned (.bool true) ∧ Below w.heap.size w w' := by
 go_enter Tryz.func23, Tryz.ntmps23
 obtain ⟨S0, g⟩ : ∃ S : World → Prop, S = (fun W => Below w.heap.size w W) := ⟨_, rfl⟩;have c2 : St S0 := by rw [g]; infer_instance
 have b6 : Hid (∀ W, S0 W → Below w.heap.size w W) := by show ∀ W, _; rw [g]; exact fun W h => h
 have cl : Hid (S0 w) := by show S0 w; rw [g]; exact Below.refl _ _
 clear g;go_wp2_with (refine Zw _ _ _ rfl ?_)
 refine Stop.to ?_;refine Qy rfl 22 1 _ rfl 3 (Qi [0]).toArray (ZT Tryz.underlying22 XY (by decide) (by decide) (by kernel_rfl)) ?_;intro k cy hG rG bG;have d := c2.go cl.out (bG.mono hG);obtain ⟨S1, g⟩ : ∃ S : World → Prop, S = (fun W => S0 W ∧ Row W k 3 (Qi [0]).toArray) := ⟨_, rfl⟩;have c3 : St S1 := by rw [g]; infer_instance
 have D1 : Hid (∀ W, S1 W → S0 W) := by show ∀ W, _; rw [g]; exact fun W h => h.1
 have ck : Hid (∀ W, S1 W → Row W k 3 (Qi [0]).toArray) := by show ∀ W, _; rw [g]; exact fun W h => h.2
 have cm : Hid (S1 cy) := by show S1 cy; rw [g]; exact ⟨d, rG⟩
 clear g;clear d cl hG rG bG;go_wp2_with (refine Zw _ _ _ rfl ?_)
 refine Stop.to ?_;refine Qy rfl 23 3 _ rfl 85 (bodyE.flatMap Nd.cells).toArray (ZT Tryz.underlying23 Ah7 (by decide) (by decide) (by kernel_rfl)) ?_;intro n bw hG rG bG;have d := c3.go cm.out (bG.mono hG);obtain ⟨S2, g⟩ : ∃ S : World → Prop, S = (fun W => S1 W ∧ Row W n 85 (bodyE.flatMap Nd.cells).toArray) := ⟨_, rfl⟩;have c4 : St S2 := by rw [g]; infer_instance
 have D2 : Hid (∀ W, S2 W → S1 W) := by show ∀ W, _; rw [g]; exact fun W h => h.1
 have cj : Hid (∀ W, S2 W → Row W n 85 (bodyE.flatMap Nd.cells).toArray) := by show ∀ W, _; rw [g]; exact fun W h => h.2
 have cn : Hid (S2 bw) := by show S2 bw; rw [g]; exact ⟨d, rG⟩
 clear g;clear d cm hG rG bG;go_wp2_with (refine QT _ rfl ?_)
 refine Stop.to ?_;refine Qm rfl 25 rfl _ _ AhL rfl ?_;intro ar di hG rG bG;go_wp2_with (refine Qv _ _ _ rfl ?_)
 refine Stop.to ?_;refine Ql rfl 25 _ _ rfl ar #[.int .i64 1, .slice (some ⟨k, 0, none⟩) 1 1, .slice (some ⟨n, 0, none⟩) 3 3] rfl rfl 25 _ rG (by kernel_rfl) rfl (by simp [Value.oneCell']) ?_;intro cf rH oH;have bH : Below (bw).heap.size bw cf := (bG.mono hG).trans (oH.below hG);have d := c4.go cn.out (bH);obtain ⟨S3, g⟩ : ∃ S : World → Prop, S = (fun W => S2 W ∧ Row W ar 25 #[.int .i64 1, .slice (some ⟨k, 0, none⟩) 1 1, .slice (some ⟨n, 0, none⟩) 3 3]) := ⟨_, rfl⟩;have c5 : St S3 := by rw [g]; infer_instance
 have D3 : Hid (∀ W, S3 W → S2 W) := by show ∀ W, _; rw [g]; exact fun W h => h.1
 have bl : Hid (∀ W, S3 W → Row W ar 25 #[.int .i64 1, .slice (some ⟨k, 0, none⟩) 1 1, .slice (some ⟨n, 0, none⟩) 3 3]) := by show ∀ W, _; rw [g]; exact fun W h => h.2
 have co : Hid (S3 cf) := by show S3 cf; rw [g]; exact ⟨d, rH⟩
 clear g;clear d cn hG rG bG rH oH bH;have ag : Hid (∀ W, S3 W → (pE k n).ok W) := by show ∀ W, _; exact fun W p => AjM (ck.out _ (D2.out _ (D3.out _ p))) (cj.out _ (D3.out _ p))
 go_wp2_with (refine Zw _ _ _ rfl ?_)
 refine Stop.to ?_;refine Qy rfl 22 1 _ rfl 3 (Qi [0]).toArray (ZT Tryz.underlying22 XY (by decide) (by decide) (by kernel_rfl)) ?_;intro aa cz hG rG bG;have d := c5.go co.out (bG.mono hG);obtain ⟨S4, g⟩ : ∃ S : World → Prop, S = (fun W => S3 W ∧ Row W aa 3 (Qi [0]).toArray) := ⟨_, rfl⟩;have c6 : St S4 := by rw [g]; infer_instance
 have D4 : Hid (∀ W, S4 W → S3 W) := by show ∀ W, _; rw [g]; exact fun W h => h.1
 have al : Hid (∀ W, S4 W → Row W aa 3 (Qi [0]).toArray) := by show ∀ W, _; rw [g]; exact fun W h => h.2
 have cp : Hid (S4 cz) := by show S4 cz; rw [g]; exact ⟨d, rG⟩
 clear g;clear d co hG rG bG;go_wp2_with (refine Zw _ _ _ rfl ?_)
 refine Stop.to ?_;refine Qy rfl 22 1 _ rfl 3 (Qi [5]).toArray (ZT Tryz.underlying22 XY (by decide) (by decide) (by kernel_rfl)) ?_;intro u b1 hG rG bG;have d := c6.go cp.out (bG.mono hG);obtain ⟨S5, g⟩ : ∃ S : World → Prop, S = (fun W => S4 W ∧ Row W u 3 (Qi [5]).toArray) := ⟨_, rfl⟩;have c7 : St S5 := by rw [g]; infer_instance
 have D5 : Hid (∀ W, S5 W → S4 W) := by show ∀ W, _; rw [g]; exact fun W h => h.1
 have am : Hid (∀ W, S5 W → Row W u 3 (Qi [5]).toArray) := by show ∀ W, _; rw [g]; exact fun W h => h.2
 have cq : Hid (S5 b1) := by show S5 b1; rw [g]; exact ⟨d, rG⟩
 clear g;clear d cp hG rG bG;go_wp2_with (refine Zw _ _ _ rfl ?_)
 refine Stop.to ?_;refine Qy rfl 46 2 _ rfl 22 (Ka [tvL aa 0, tvL u 5]).toArray (ZT Tryz.underlying46 Ah8 (by decide) (by decide) (by kernel_rfl)) ?_;intro z b2 hG rG bG;have d := c7.go cq.out (bG.mono hG);obtain ⟨S6, g⟩ : ∃ S : World → Prop, S = (fun W => S5 W ∧ Row W z 22 (Ka [tvL aa 0, tvL u 5]).toArray) := ⟨_, rfl⟩;have c8 : St S6 := by rw [g]; infer_instance
 have D6 : Hid (∀ W, S6 W → S5 W) := by show ∀ W, _; rw [g]; exact fun W h => h.1
 have ay : Hid (∀ W, S6 W → Row W z 22 (Ka [tvL aa 0, tvL u 5]).toArray) := by show ∀ W, _; rw [g]; exact fun W h => h.2
 have b8 : Hid (S6 b2) := by show S6 b2; rw [g]; exact ⟨d, rG⟩
 clear g;clear d cq hG rG bG;go_wp2_with (first | (refine wpList_load_row rfl 25 _ rfl ar rfl 25 #[.int .i64 1, .slice (some ⟨k, 0, none⟩) 1 1, .slice (some ⟨n, 0, none⟩) 3 3] (0, 0) _ (bl.out _ (D4.out _ (D5.out _ (D6.out _ b8.out)))) Tryz.underlying25 rfl (by kernel_rfl) ?_) | (refine Zw _ _ _ rfl ?_))
 refine Stop.to ?_;refine Qy rfl 22 1 _ rfl 3 (Qi [0]).toArray (ZT Tryz.underlying22 XY (by decide) (by decide) (by kernel_rfl)) ?_;intro bo bs hG rG bG;have d := c8.go b8.out (bG.mono hG);obtain ⟨S7, g⟩ : ∃ S : World → Prop, S = (fun W => S6 W ∧ Row W bo 3 (Qi [0]).toArray) := ⟨_, rfl⟩;have c9 : St S7 := by rw [g]; infer_instance
 have D7 : Hid (∀ W, S7 W → S6 W) := by show ∀ W, _; rw [g]; exact fun W h => h.1
 have ch : Hid (∀ W, S7 W → Row W bo 3 (Qi [0]).toArray) := by show ∀ W, _; rw [g]; exact fun W h => h.2
 have az : Hid (S7 bs) := by show S7 bs; rw [g]; exact ⟨d, rG⟩
 clear g;clear d b8 hG rG bG;go_wp2_with fail
 refine (KR (pE k n) ⟨some ⟨bo, 0, none⟩, 1, ⟨[0], 5, 0⟩⟩ (some ⟨z, 0, none⟩) 2 [tvL aa 0, tvL u 5] 9 bs (ag.out _ (D4.out _ (D5.out _ (D6.out _ (D7.out _ az.out))))) (Eh (ch.out _ az.out)) (by show 3 ≤ 999; omega) (JY (ay.out _ (D7.out _ az.out))) (YW (al.out _ (D5.out _ (D6.out _ (D7.out _ az.out)))) (am.out _ (D6.out _ (D7.out _ az.out)))) (by simp)).mono ?_;rintro e ba ⟨y, rfl, hy, bi, bb⟩;rw [show Z8 (pE k n) ⟨[0], 5, 0⟩ (List.map IntsV.l [tvL aa 0, tvL u 5]) 9 = 0 from AjH _ _];obtain ⟨hm, br, -⟩ := hy (AjH _ _);have ae : y.m = _ := hm.trans (Akc k n w);have ce : (rnZ (Yk (pE k n) ⟨[0], 5, 0⟩) 9 [0]).dig.length = 32 := Acz _;generalize (rnZ (Yk (pE k n) ⟨[0], 5, 0⟩) 9 [0]).dig = dga at ae ce;have c0 := Lh ce;obtain ⟨a6, a7, ym⟩ := y;simp only at ae;subst ae;clear hm ce;have d := c9.go az.out (bb);obtain ⟨S8, g⟩ : ∃ S : World → Prop, S = (fun W => S7 W ∧ MtOk W ⟨a6, a7, ⟨⟨[0], 5, 0⟩, 1, 0, 3, 0, dga⟩⟩) := ⟨_, rfl⟩;have da : St S8 := by rw [g]; infer_instance
 have D8 : Hid (∀ W, S8 W → S7 W) := by show ∀ W, _; rw [g]; exact fun W h => h.1
 have bn : Hid (∀ W, S8 W → MtOk W ⟨a6, a7, ⟨⟨[0], 5, 0⟩, 1, 0, 3, 0, dga⟩⟩) := by show ∀ W, _; rw [g]; exact fun W h => h.2
 have cr : Hid (S8 ba) := by show S8 ba; rw [g]; exact ⟨d, br⟩
 clear g;clear d az bb hy bi br;go_wp2_with (refine QT _ rfl ?_)
 refine Stop.to ?_;refine Qm rfl 54 rfl _ _ (KD _) rfl ?_;intro aq dd hG rG bG;go_wp2_with (refine Qv _ _ _ rfl ?_)
 refine Stop.to ?_;refine Ql rfl 54 _ _ rfl aq (MtV.mk a6 a7 ⟨⟨[0], 5, 0⟩, 1, 0, 3, 0, dga⟩).cells.toArray rfl rfl 54 _ rG (by kernel_rfl) rfl (by simp [MtV.cells, Value.oneCell']) ?_;intro bt rH oH;have bH : Below (ba).heap.size ba bt := (bG.mono hG).trans (oH.below hG);have d := da.go cr.out (bH);obtain ⟨S9, g⟩ : ∃ S : World → Prop, S = (fun W => S8 W ∧ Row W aq 54 (MtV.mk a6 a7 ⟨⟨[0], 5, 0⟩, 1, 0, 3, 0, dga⟩).cells.toArray) := ⟨_, rfl⟩;have db : St S9 := by rw [g]; infer_instance
 have D9 : Hid (∀ W, S9 W → S8 W) := by show ∀ W, _; rw [g]; exact fun W h => h.1
 have bf : Hid (∀ W, S9 W → Row W aq 54 (MtV.mk a6 a7 ⟨⟨[0], 5, 0⟩, 1, 0, 3, 0, dga⟩).cells.toArray) := by show ∀ W, _; rw [g]; exact fun W h => h.2
 have b9 : Hid (S9 bt) := by show S9 bt; rw [g]; exact ⟨d, rH⟩
 clear g;clear d cr hG rG bG rH oH bH;go_wp2_with (first | (refine wpList_load_row rfl 25 _ rfl ar rfl 25 #[.int .i64 1, .slice (some ⟨k, 0, none⟩) 1 1, .slice (some ⟨n, 0, none⟩) 3 3] (0, 0) _ (bl.out _ (D4.out _ (D5.out _ (D6.out _ (D7.out _ (D8.out _ (D9.out _ b9.out))))))) Tryz.underlying25 rfl (by kernel_rfl) ?_) | (refine Zw _ _ _ rfl ?_))
 refine Stop.to ?_;refine Qy rfl 22 1 _ rfl 3 (Qi [0]).toArray (ZT Tryz.underlying22 XY (by decide) (by decide) (by kernel_rfl)) ?_;intro bp bu hG rG bG;have d := db.go b9.out (bG.mono hG);obtain ⟨a0, g⟩ : ∃ S : World → Prop, S = (fun W => S9 W ∧ Row W bp 3 (Qi [0]).toArray) := ⟨_, rfl⟩;have cu : St a0 := by rw [g]; infer_instance
 have o : Hid (∀ W, a0 W → S9 W) := by show ∀ W, _; rw [g]; exact fun W h => h.1
 have ci : Hid (∀ W, a0 W → Row W bp 3 (Qi [0]).toArray) := by show ∀ W, _; rw [g]; exact fun W h => h.2
 have an : Hid (a0 bu) := by show a0 bu; rw [g]; exact ⟨d, rG⟩
 clear g;clear d b9 hG rG bG;go_wp2_with fail
 refine (KR (pE k n) ⟨some ⟨bp, 0, none⟩, 1, ⟨[0], 7, 0⟩⟩ (some ⟨z, 0, none⟩) 2 [tvL aa 0, tvL u 5] 9 bu (ag.out _ (D4.out _ (D5.out _ (D6.out _ (D7.out _ (D8.out _ (D9.out _ (o.out _ an.out)))))))) (Eh (ci.out _ an.out)) (by show 3 ≤ 999; omega) (JY (ay.out _ (D7.out _ (D8.out _ (D9.out _ (o.out _ an.out)))))) (YW (al.out _ (D5.out _ (D6.out _ (D7.out _ (D8.out _ (D9.out _ (o.out _ an.out))))))) (am.out _ (D6.out _ (D7.out _ (D8.out _ (D9.out _ (o.out _ an.out))))))) (by simp)).mono ?_;rintro e bd ⟨y, rfl, hy, bi, bb⟩;rw [show Z8 (pE k n) ⟨[0], 7, 0⟩ (List.map IntsV.l [tvL aa 0, tvL u 5]) 9 = 0 from AjI _ _];obtain ⟨hm, br, -⟩ := hy (AjI _ _);have ae : y.m = _ := hm.trans (Akd k n w);generalize (rnZ (Yk (pE k n) ⟨[0], 7, 0⟩) 9 [5]).dig = dgb at ae;obtain ⟨bj, bk, ym⟩ := y;simp only at ae;subst ae;clear hm;have d := cu.go an.out (bb);obtain ⟨a1, g⟩ : ∃ S : World → Prop, S = (fun W => a0 W ∧ MtOk W ⟨bj, bk, ⟨⟨[0], 7, 0⟩, 1, 1, 0, 0, dgb⟩⟩) := ⟨_, rfl⟩;have cv : St a1 := by rw [g]; infer_instance
 have r : Hid (∀ W, a1 W → a0 W) := by show ∀ W, _; rw [g]; exact fun W h => h.1
 have b7 : Hid (∀ W, a1 W → MtOk W ⟨bj, bk, ⟨⟨[0], 7, 0⟩, 1, 1, 0, 0, dgb⟩⟩) := by show ∀ W, _; rw [g]; exact fun W h => h.2
 have bx : Hid (a1 bd) := by show a1 bd; rw [g]; exact ⟨d, br⟩
 clear g;clear d an bb hy bi br;go_wp2_with (refine QT _ rfl ?_)
 refine Stop.to ?_;refine Qm rfl 54 rfl _ _ (KD _) rfl ?_;intro a8 de hG rG bG;go_wp2_with (refine Qv _ _ _ rfl ?_)
 refine Stop.to ?_;refine Ql rfl 54 _ _ rfl a8 (MtV.mk bj bk ⟨⟨[0], 7, 0⟩, 1, 1, 0, 0, dgb⟩).cells.toArray rfl rfl 54 _ rG (by kernel_rfl) rfl (by simp [MtV.cells, Value.oneCell']) ?_;intro be rH oH;have bH : Below (bd).heap.size bd be := (bG.mono hG).trans (oH.below hG);have d := cv.go bx.out (bH);obtain ⟨a2, g⟩ : ∃ S : World → Prop, S = (fun W => a1 W ∧ Row W a8 54 (MtV.mk bj bk ⟨⟨[0], 7, 0⟩, 1, 1, 0, 0, dgb⟩).cells.toArray) := ⟨_, rfl⟩;have b0 : St a2 := by rw [g]; infer_instance
 have q : Hid (∀ W, a2 W → a1 W) := by show ∀ W, _; rw [g]; exact fun W h => h.1
 have b5 : Hid (∀ W, a2 W → Row W a8 54 (MtV.mk bj bk ⟨⟨[0], 7, 0⟩, 1, 1, 0, 0, dgb⟩).cells.toArray) := by show ∀ W, _; rw [g]; exact fun W h => h.2
 have ai : Hid (a2 be) := by show a2 be; rw [g]; exact ⟨d, rH⟩
 clear g;clear d bx hG rG bG rH oH bH;go_wp2_with (refine wpList_load_row rfl 25 _ rfl ar rfl 25 #[.int .i64 1, .slice (some ⟨k, 0, none⟩) 1 1, .slice (some ⟨n, 0, none⟩) 3 3] (0, 0) _ (bl.out _ (D4.out _ (D5.out _ (D6.out _ (D7.out _ (D8.out _ (D9.out _ (o.out _ (r.out _ (q.out _ ai.out)))))))))) Tryz.underlying25 rfl (by kernel_rfl) ?_)
 refine (KR (pE k n) ⟨none, 0, ⟨[], 0, 0⟩⟩ (some ⟨z, 0, none⟩) 2 [tvL aa 0, tvL u 5] 9 be (ag.out _ (D4.out _ (D5.out _ (D6.out _ (D7.out _ (D8.out _ (D9.out _ (o.out _ (r.out _ (q.out _ ai.out)))))))))) ⟨Rd.nil _ _, by simp⟩ (by show 3 ≤ 999; omega) (JY (ay.out _ (D7.out _ (D8.out _ (D9.out _ (o.out _ (r.out _ (q.out _ ai.out)))))))) (YW (al.out _ (D5.out _ (D6.out _ (D7.out _ (D8.out _ (D9.out _ (o.out _ (r.out _ (q.out _ ai.out))))))))) (am.out _ (D6.out _ (D7.out _ (D8.out _ (D9.out _ (o.out _ (r.out _ (q.out _ ai.out))))))))) (by simp)).mono ?_;rintro e b3 ⟨y, rfl, hy, bi, bb⟩;rw [show Z8 (pE k n) ⟨[], 0, 0⟩ (List.map IntsV.l [tvL aa 0, tvL u 5]) 9 = 17 from AjG _ _];obtain rfl := bi (by rw [show Z8 (pE k n) ⟨[], 0, 0⟩ (List.map IntsV.l [tvL aa 0, tvL u 5]) 9 = 17 from AjG _ _]; decide);have d := b0.go ai.out (bb);replace ai := Lh d;clear d bb hy bi;go_wp2_with (refine QT _ rfl ?_)
 refine Stop.to ?_;refine Qm rfl 54 rfl _ _ (KD _) rfl ?_;intro bq df hG rG bG;go_wp2_with (refine Qv _ _ _ rfl ?_)
 refine Stop.to ?_;refine Ql rfl 54 _ _ rfl bq mt0.cells.toArray rfl rfl 54 _ rG (by kernel_rfl) rfl (by simp [mt0, MtV.cells, Value.oneCell']) ?_;intro ax rH oH;have bH : Below (b3).heap.size b3 ax := (bG.mono hG).trans (oH.below hG);have d := b0.go ai.out (bH);obtain ⟨ap, g⟩ : ∃ S : World → Prop, S = (fun W => a2 W ∧ Row W bq 54 mt0.cells.toArray) := ⟨_, rfl⟩;have cw : St ap := by rw [g]; infer_instance
 have t : Hid (∀ W, ap W → a2 W) := by show ∀ W, _; rw [g]; exact fun W h => h.1
 have dg : Hid (∀ W, ap W → Row W bq 54 mt0.cells.toArray) := by show ∀ W, _; rw [g]; exact fun W h => h.2
 have bz : Hid (ap ax) := by show ap ax; rw [g]; exact ⟨d, rH⟩
 clear g;clear d ai hG rG bG rH oH bH;go_wp2_with fail
 apply AiO (F := fun C M ab ac W => ap W ∧ Row W C 54 (MtV.mk ab ac ⟨⟨[0], 7, 0⟩, 0, -1, 0, 0, []⟩).cells.toArray)
 case hreg =>
  obtain ⟨V0, ca⟩ : ∃ V, V = (ax).drew := ⟨_, rfl⟩;have cs : ap V0 := by rw [ca]; exact St.drew bz.out
  refine wp_region_held (S := fun W => Below V0.heap.size V0 W) (by kernel_rfl) ?_;simp only [Lk, Lc, Lr, Nat.reduceAdd, Ll, Lm, Lu, Lp, Ln];show wpAnyH _ _ _ _ _ _ _ _ (ax).drew;rw [← ca];obtain ⟨T, bh⟩ : ∃ T : World → Prop, T = (fun W => Below V0.heap.size V0 W) := ⟨_, rfl⟩;rw [← bh];have t0 : Hid (∀ W, T W → ap W) := by show ∀ W, _; rw [bh]; exact fun W h => cw.go cs h
  have aj : Hid (∀ W, T W → V0.heap.size ≤ W.heap.size) := by show ∀ W, _; rw [bh]; exact fun W h => h.size
  have tB : Hid (∀ W W', T W → Below V0.heap.size W W' → T W') := by show ∀ W W', _; rw [bh]; exact fun W W' h b => h.trans b
  have a5 : T V0 := by rw [bh]; exact Below.refl _ _
  clear bh ca cs;(refine tkH 0 _ rfl ((Xl rfl 25 _ rfl ar rfl 25 #[.int .i64 1, .slice (some ⟨k, 0, none⟩) 1 1, .slice (some ⟨n, 0, none⟩) 3 3] _ (fun W p => (bl.out _ (D4.out _ (D5.out _ (D6.out _ (D7.out _ (D8.out _ (D9.out _ (o.out _ (r.out _ (q.out _ (t.out _ (t0.out W p))))))))))))) Tryz.underlying25 rfl (by kernel_rfl))) ?_; simp only [Act.put, Qa, Qb, Qc]);(refine tkH 3 (.slice (some ⟨z, 0, none⟩) 2 2) rfl (Qd rfl (fun W p => by (go_simp))) ?_; simp only [Act.put, Qa, Qb, Qc]);(refine tkH 4 (.slice (some ⟨z, 0, none⟩) 1 2) rfl (Qd rfl (fun W p => by (go_simp))) ?_; simp only [Act.put, Qa, Qb, Qc]);refine wpAnyH_all (rs := [1, 9]) (by kernel_rfl) (by simp) (fun i hi => ?_);simp only [Lv, L5, or_false] at hi;rcases hi with rfl | rfl
  · skip;refine Qg rfl rfl (fun K2 s => ?_);refine Qj (.slice (some ⟨V0.heap.size, 0, none⟩) 1 1) (QW [(0, .const (.int .i64 0))] rfl (ZT (cells := #[.int .i64 0]) Tryz.underlying22 XY (by decide) (by decide) (by kernel_rfl) V0)) ?_;refine s _ _ ?_;clear s K2;simp only [Act.put, Qa, Qb, Qc];obtain ⟨M, hM⟩ : ∃ M, M = V0.heap.size := ⟨_, rfl⟩;obtain ⟨V1, ah⟩ : ∃ V, V = V0.alloc (.cells #[.int .i64 0] 3) := ⟨_, rfl⟩;have rM : Row V1 M 3 (Qi [0]).toArray := by rw [ah, hM]; exact Row.new _ _ _
    have bM : Below V0.heap.size V0 V1 := by rw [ah]; exact (Below.refl _ _).alloc (Nat.le_refl _) _
    rw [← hM, ← ah];have ak : T V1 := tB.out _ _ a5 (bM.mono (aj.out _ a5));clear hM ah bM a5;refine ⟨ak, ?_⟩;(refine tkH 2 (.agg #[.slice (some ⟨M, 0, none⟩) 1 1, .int .i64 7, .int .i64 0]) rfl (Qd rfl (fun W p => by (go_simp))) ?_; simp only [Act.put, Qa, Qb, Qc]);refine wpAnyH_all (rs := [5, 9]) (by kernel_rfl) (by simp) (fun i hi => ?_);simp only [Lv, L5, or_false] at hi;rcases hi with rfl | rfl
    · skip;refine Qg rfl rfl (fun K2 s => ?_);refine Qt 29 #[.agg #[.int .i64 1, .slice (some ⟨k, 0, none⟩) 1 1, .slice (some ⟨n, 0, none⟩) 3 3], .agg #[.slice (some ⟨M, 0, none⟩) 1 1, .int .i64 7, .int .i64 0], .slice (some ⟨z, 0, none⟩) 1 2, .int .i64 9] (w1 := V1) (by go_simp) ((KR (pE k n) ⟨some ⟨M, 0, none⟩, 1, ⟨[0], 7, 0⟩⟩ (some ⟨z, 0, none⟩) 2 [tvL aa 0] 9 V1 (ag.out _ (D4.out _ (D5.out _ (D6.out _ (D7.out _ (D8.out _ (D9.out _ (o.out _ (r.out _ (q.out _ (t.out _ (t0.out _ ak)))))))))))) (Eh rM) (by show 3 ≤ 999; omega) (AeG (ys := [(tvL u 5).val]) (JY (ay.out _ (D7.out _ (D8.out _ (D9.out _ (o.out _ (r.out _ (q.out _ (t.out _ (t0.out _ ak))))))))))) (fun x hx => YW (al.out _ (D5.out _ (D6.out _ (D7.out _ (D8.out _ (D9.out _ (o.out _ (r.out _ (q.out _ (t.out _ (t0.out _ ak))))))))))) (am.out _ (D6.out _ (D7.out _ (D8.out _ (D9.out _ (o.out _ (r.out _ (q.out _ (t.out _ (t0.out _ ak)))))))))) x (by rw [Lo.1 hx]; simp)) (by simp)).mono ?_);rintro e V2 ⟨y, rfl, hy, -, bb⟩;refine ⟨_, rfl, ?_⟩;refine s _ _ ?_;clear s K2;simp only [Act.put, Qa, Qb, Qc];rw [show Z8 (pE k n) ⟨[0], 7, 0⟩ (List.map IntsV.l [tvL aa 0]) 9 = 0 from AfU _ _];obtain ⟨hm, -, -⟩ := hy (AfU _ _);have ae : y.m = _ := hm.trans (Ajc k n w);obtain ⟨ab, ac, ym⟩ := y;simp only at ae;subst ae;clear hm;have ah : T V2 := tB.out _ _ ak (bb.mono (aj.out _ ak));clear bb hy rM ak;refine ⟨ah, ?_⟩;(refine tkH 6 (.tuple #[.agg (MtV.mk ab ac ⟨⟨[0], 7, 0⟩, 0, -1, 0, 0, []⟩).cells.toArray, .int .i64 0]) rfl (Qd rfl (fun W p => by (go_simp))) ?_; simp only [Act.put, Qa, Qb, Qc]);(refine tkH 7 (.agg (MtV.mk ab ac ⟨⟨[0], 7, 0⟩, 0, -1, 0, 0, []⟩).cells.toArray) rfl (Qd rfl (fun W p => by (go_simp))) ?_; simp only [Act.put, Qa, Qb, Qc]);(refine tkH 8 (.int .i64 0) rfl (Qd rfl (fun W p => by (go_simp))) ?_; simp only [Act.put, Qa, Qb, Qc]);(refine wpAnyH_all (rs := [9]) (by kernel_rfl) (by simp) (fun i hi => ?_); obtain rfl : i = 9 := by simpa using hi);refine Qg rfl rfl (fun K2 s => ?_);refine ZZ 54 rfl _ _ (KD _) rfl ?_;intro C V3 hC rC bC;refine s _ _ ?_;clear s K2;simp only [Act.put, Qa, Qb, Qc];have au : V0.heap.size ≤ C := Li (aj.out _ ah) hC;have cb : T V3 := tB.out _ _ ah ((bC.mono hC).mono (aj.out _ ah));clear bC hC ah;refine ⟨cb, ?_⟩;(refine wpAnyH_all (rs := [10]) (by kernel_rfl) (by simp) (fun i hi => ?_); obtain rfl : i = 10 := by simpa using hi);refine Qg rfl rfl (fun K2 s => ?_);refine Jg 54 _ _ rfl C (MtV.mk ab ac ⟨⟨[0], 7, 0⟩, 0, -1, 0, 0, []⟩).cells.toArray rfl rfl 54 _ rC (by kernel_rfl) rfl (by simp [MtV.cells, Value.oneCell']) ?_;intro V9 r9 o9;refine s _ _ ?_;clear s K2;simp only [Act.put, Qa, Qb, Qc];have h9 : T V9 := tB.out _ _ cb (o9.below au);have d := t0.out _ h9;clear rC o9 cb;refine ⟨h9, ?_⟩;(refine tkH 11 (.int .i64 0) rfl (Qd rfl (fun W p => by (go_simp))) ?_; simp only [Act.put, Qa, Qb, Qc]);refine wpAnyH_done (by kernel_rfl) ?_ _;clear h9 t0 aj tB au T;exact ⟨C, M, ab, ac, rfl, d, r9⟩
    · skip;refine Qg rfl rfl (fun K2 s => ?_);refine ZZ 54 rfl _ _ (KD _) rfl ?_;intro C V4 hC rC bC;refine s _ _ ?_;clear s K2;simp only [Act.put, Qa, Qb, Qc];have au : V0.heap.size ≤ C := Li (aj.out _ ak) hC;replace rM := rM.below (bC.mono hC) rM.lt;have av : T V4 := tB.out _ _ ak ((bC.mono hC).mono (aj.out _ ak));clear bC hC ak;refine ⟨av, ?_⟩;(refine wpAnyH_all (rs := [5]) (by kernel_rfl) (by simp) (fun i hi => ?_); obtain rfl : i = 5 := by simpa using hi);refine Qg rfl rfl (fun K2 s => ?_);refine Qt 29 #[.agg #[.int .i64 1, .slice (some ⟨k, 0, none⟩) 1 1, .slice (some ⟨n, 0, none⟩) 3 3], .agg #[.slice (some ⟨M, 0, none⟩) 1 1, .int .i64 7, .int .i64 0], .slice (some ⟨z, 0, none⟩) 1 2, .int .i64 9] (w1 := V4) (by go_simp) ((KR (pE k n) ⟨some ⟨M, 0, none⟩, 1, ⟨[0], 7, 0⟩⟩ (some ⟨z, 0, none⟩) 2 [tvL aa 0] 9 V4 (ag.out _ (D4.out _ (D5.out _ (D6.out _ (D7.out _ (D8.out _ (D9.out _ (o.out _ (r.out _ (q.out _ (t.out _ (t0.out _ av)))))))))))) (Eh rM) (by show 3 ≤ 999; omega) (AeG (ys := [(tvL u 5).val]) (JY (ay.out _ (D7.out _ (D8.out _ (D9.out _ (o.out _ (r.out _ (q.out _ (t.out _ (t0.out _ av))))))))))) (fun x hx => YW (al.out _ (D5.out _ (D6.out _ (D7.out _ (D8.out _ (D9.out _ (o.out _ (r.out _ (q.out _ (t.out _ (t0.out _ av))))))))))) (am.out _ (D6.out _ (D7.out _ (D8.out _ (D9.out _ (o.out _ (r.out _ (q.out _ (t.out _ (t0.out _ av)))))))))) x (by rw [Lo.1 hx]; simp)) (by simp)).mono ?_);rintro e V5 ⟨y, rfl, hy, -, bb⟩;refine ⟨_, rfl, ?_⟩;refine s _ _ ?_;clear s K2;simp only [Act.put, Qa, Qb, Qc];rw [show Z8 (pE k n) ⟨[0], 7, 0⟩ (List.map IntsV.l [tvL aa 0]) 9 = 0 from AfU _ _];obtain ⟨hm, -, -⟩ := hy (AfU _ _);have ae : y.m = _ := hm.trans (Ajc k n w);obtain ⟨ab, ac, ym⟩ := y;simp only at ae;subst ae;clear hm;replace rC := rC.below bb rC.lt;have cc : T V5 := tB.out _ _ av (bb.mono (aj.out _ av));clear bb hy rM av;refine ⟨cc, ?_⟩;(refine tkH 6 (.tuple #[.agg (MtV.mk ab ac ⟨⟨[0], 7, 0⟩, 0, -1, 0, 0, []⟩).cells.toArray, .int .i64 0]) rfl (Qd rfl (fun W p => by (go_simp))) ?_; simp only [Act.put, Qa, Qb, Qc]);(refine tkH 7 (.agg (MtV.mk ab ac ⟨⟨[0], 7, 0⟩, 0, -1, 0, 0, []⟩).cells.toArray) rfl (Qd rfl (fun W p => by (go_simp))) ?_; simp only [Act.put, Qa, Qb, Qc]);(refine tkH 8 (.int .i64 0) rfl (Qd rfl (fun W p => by (go_simp))) ?_; simp only [Act.put, Qa, Qb, Qc]);(refine wpAnyH_all (rs := [10]) (by kernel_rfl) (by simp) (fun i hi => ?_); obtain rfl : i = 10 := by simpa using hi);refine Qg rfl rfl (fun K2 s => ?_);refine Jg 54 _ _ rfl C (MtV.mk ab ac ⟨⟨[0], 7, 0⟩, 0, -1, 0, 0, []⟩).cells.toArray rfl rfl 54 _ rC (by kernel_rfl) rfl (by simp [MtV.cells, Value.oneCell']) ?_;intro V9 r9 o9;refine s _ _ ?_;clear s K2;simp only [Act.put, Qa, Qb, Qc];have h9 : T V9 := tB.out _ _ cc (o9.below au);have d := t0.out _ h9;clear rC o9 cc;refine ⟨h9, ?_⟩;(refine tkH 11 (.int .i64 0) rfl (Qd rfl (fun W p => by (go_simp))) ?_; simp only [Act.put, Qa, Qb, Qc]);refine wpAnyH_done (by kernel_rfl) ?_ _;clear h9 t0 aj tB au T;exact ⟨C, M, ab, ac, rfl, d, r9⟩
  · skip;refine Qg rfl rfl (fun K2 s => ?_);refine ZZ 54 rfl _ _ (KD _) rfl ?_;intro C V6 hC rC bC;refine s _ _ ?_;clear s K2;simp only [Act.put, Qa, Qb, Qc];have au : V0.heap.size ≤ C := Li (aj.out _ a5) hC;have bv : T V6 := tB.out _ _ a5 ((bC.mono hC).mono (aj.out _ a5));clear bC hC a5;refine ⟨bv, ?_⟩;(refine wpAnyH_all (rs := [1]) (by kernel_rfl) (by simp) (fun i hi => ?_); obtain rfl : i = 1 := by simpa using hi);refine Qg rfl rfl (fun K2 s => ?_);refine Qj (.slice (some ⟨V6.heap.size, 0, none⟩) 1 1) (QW [(0, .const (.int .i64 0))] rfl (ZT (cells := #[.int .i64 0]) Tryz.underlying22 XY (by decide) (by decide) (by kernel_rfl) V6)) ?_;refine s _ _ ?_;clear s K2;simp only [Act.put, Qa, Qb, Qc];obtain ⟨M, hM⟩ : ∃ M, M = V6.heap.size := ⟨_, rfl⟩;obtain ⟨V7, ah⟩ : ∃ V, V = V6.alloc (.cells #[.int .i64 0] 3) := ⟨_, rfl⟩;have rM : Row V7 M 3 (Qi [0]).toArray := by rw [ah, hM]; exact Row.new _ _ _
    have bM : Below V6.heap.size V6 V7 := by rw [ah]; exact (Below.refl _ _).alloc (Nat.le_refl _) _
    rw [← hM, ← ah];replace rC := rC.below bM rC.lt;have aw : T V7 := tB.out _ _ bv (bM.mono (aj.out _ bv));clear hM ah bM bv;refine ⟨aw, ?_⟩;(refine tkH 2 (.agg #[.slice (some ⟨M, 0, none⟩) 1 1, .int .i64 7, .int .i64 0]) rfl (Qd rfl (fun W p => by (go_simp))) ?_; simp only [Act.put, Qa, Qb, Qc]);(refine wpAnyH_all (rs := [5]) (by kernel_rfl) (by simp) (fun i hi => ?_); obtain rfl : i = 5 := by simpa using hi);refine Qg rfl rfl (fun K2 s => ?_);refine Qt 29 #[.agg #[.int .i64 1, .slice (some ⟨k, 0, none⟩) 1 1, .slice (some ⟨n, 0, none⟩) 3 3], .agg #[.slice (some ⟨M, 0, none⟩) 1 1, .int .i64 7, .int .i64 0], .slice (some ⟨z, 0, none⟩) 1 2, .int .i64 9] (w1 := V7) (by go_simp) ((KR (pE k n) ⟨some ⟨M, 0, none⟩, 1, ⟨[0], 7, 0⟩⟩ (some ⟨z, 0, none⟩) 2 [tvL aa 0] 9 V7 (ag.out _ (D4.out _ (D5.out _ (D6.out _ (D7.out _ (D8.out _ (D9.out _ (o.out _ (r.out _ (q.out _ (t.out _ (t0.out _ aw)))))))))))) (Eh rM) (by show 3 ≤ 999; omega) (AeG (ys := [(tvL u 5).val]) (JY (ay.out _ (D7.out _ (D8.out _ (D9.out _ (o.out _ (r.out _ (q.out _ (t.out _ (t0.out _ aw))))))))))) (fun x hx => YW (al.out _ (D5.out _ (D6.out _ (D7.out _ (D8.out _ (D9.out _ (o.out _ (r.out _ (q.out _ (t.out _ (t0.out _ aw))))))))))) (am.out _ (D6.out _ (D7.out _ (D8.out _ (D9.out _ (o.out _ (r.out _ (q.out _ (t.out _ (t0.out _ aw)))))))))) x (by rw [Lo.1 hx]; simp)) (by simp)).mono ?_);rintro e V8 ⟨y, rfl, hy, -, bb⟩;refine ⟨_, rfl, ?_⟩;refine s _ _ ?_;clear s K2;simp only [Act.put, Qa, Qb, Qc];rw [show Z8 (pE k n) ⟨[0], 7, 0⟩ (List.map IntsV.l [tvL aa 0]) 9 = 0 from AfU _ _];obtain ⟨hm, -, -⟩ := hy (AfU _ _);have ae : y.m = _ := hm.trans (Ajc k n w);obtain ⟨ab, ac, ym⟩ := y;simp only at ae;subst ae;clear hm;replace rC := rC.below bb rC.lt;have cd : T V8 := tB.out _ _ aw (bb.mono (aj.out _ aw));clear bb hy rM aw;refine ⟨cd, ?_⟩;(refine tkH 6 (.tuple #[.agg (MtV.mk ab ac ⟨⟨[0], 7, 0⟩, 0, -1, 0, 0, []⟩).cells.toArray, .int .i64 0]) rfl (Qd rfl (fun W p => by (go_simp))) ?_; simp only [Act.put, Qa, Qb, Qc]);(refine tkH 7 (.agg (MtV.mk ab ac ⟨⟨[0], 7, 0⟩, 0, -1, 0, 0, []⟩).cells.toArray) rfl (Qd rfl (fun W p => by (go_simp))) ?_; simp only [Act.put, Qa, Qb, Qc]);(refine tkH 8 (.int .i64 0) rfl (Qd rfl (fun W p => by (go_simp))) ?_; simp only [Act.put, Qa, Qb, Qc]);(refine wpAnyH_all (rs := [10]) (by kernel_rfl) (by simp) (fun i hi => ?_); obtain rfl : i = 10 := by simpa using hi);refine Qg rfl rfl (fun K2 s => ?_);refine Jg 54 _ _ rfl C (MtV.mk ab ac ⟨⟨[0], 7, 0⟩, 0, -1, 0, 0, []⟩).cells.toArray rfl rfl 54 _ rC (by kernel_rfl) rfl (by simp [MtV.cells, Value.oneCell']) ?_;intro V9 r9 o9;refine s _ _ ?_;clear s K2;simp only [Act.put, Qa, Qb, Qc];have h9 : T V9 := tB.out _ _ cd (o9.below au);have d := t0.out _ h9;clear rC o9 cd;refine ⟨h9, ?_⟩;(refine tkH 11 (.int .i64 0) rfl (Qd rfl (fun W p => by (go_simp))) ?_; simp only [Act.put, Qa, Qb, Qc]);refine wpAnyH_done (by kernel_rfl) ?_ _;clear h9 t0 aj tB au T;exact ⟨C, M, ab, ac, rfl, d, r9⟩
 case cont =>
  rintro C M ab ac V9 ⟨d, r9⟩;obtain ⟨a3, g⟩ : ∃ S : World → Prop, S = (fun W => ap W ∧ Row W C 54 (MtV.mk ab ac ⟨⟨[0], 7, 0⟩, 0, -1, 0, 0, []⟩).cells.toArray) := ⟨_, rfl⟩;have cx : St a3 := by rw [g]; infer_instance
  have ad : Hid (∀ W, a3 W → ap W) := by show ∀ W, _; rw [g]; exact fun W h => h.1
  have cg : Hid (∀ W, a3 W → Row W C 54 (MtV.mk ab ac ⟨⟨[0], 7, 0⟩, 0, -1, 0, 0, []⟩).cells.toArray) := by show ∀ W, _; rw [g]; exact fun W h => h.2
  have ao : Hid (a3 V9) := by show a3 V9; rw [g]; exact ⟨d, r9⟩
  clear g;clear d r9 bz
  as_aux_lemma =>
   go_wp2_with (refine wpList_load_row rfl 25 _ rfl ar rfl 25 #[.int .i64 1, .slice (some ⟨k, 0, none⟩) 1 1, .slice (some ⟨n, 0, none⟩) 3 3] (0, 0) _ (bl.out _ (D4.out _ (D5.out _ (D6.out _ (D7.out _ (D8.out _ (D9.out _ (o.out _ (r.out _ (q.out _ (t.out _ (ad.out _ ao.out)))))))))))) Tryz.underlying25 rfl (by kernel_rfl) ?_)
   refine (VP (pE k n) (some ⟨z, 0, none⟩) 2 [tvL aa 0, tvL u 5] 9 V9 (ag.out _ (D4.out _ (D5.out _ (D6.out _ (D7.out _ (D8.out _ (D9.out _ (o.out _ (r.out _ (q.out _ (t.out _ (ad.out _ ao.out)))))))))))) (by show 3 ≤ 1000; omega) (JY (ay.out _ (D7.out _ (D8.out _ (D9.out _ (o.out _ (r.out _ (q.out _ (t.out _ (ad.out _ ao.out)))))))))) (YW (al.out _ (D5.out _ (D6.out _ (D7.out _ (D8.out _ (D9.out _ (o.out _ (r.out _ (q.out _ (t.out _ (ad.out _ ao.out))))))))))) (am.out _ (D6.out _ (D7.out _ (D8.out _ (D9.out _ (o.out _ (r.out _ (q.out _ (t.out _ (ad.out _ ao.out))))))))))) (by simp)).mono ?_;rintro e b4 ⟨v, rfl, own, bb⟩;rw [show JE (pE k n) (List.map IntsV.l [tvL aa 0, tvL u 5]) 9 = 0 from Agy _ _ (.inl rfl)];obtain ⟨q0, q5, c1⟩ := Aj9 k n w;rw [show KI (pE k n) (List.map IntsV.l [tvL aa 0, tvL u 5]) 9 = _ from c1] at own;obtain ⟨bg, bc, rfl⟩ := Aiq own;have d := cx.go ao.out (bb);obtain ⟨a4, g⟩ : ∃ S : World → Prop, S = (fun W => a3 W ∧ Rd W (some ⟨bg, 0, none⟩) (Z3 [⟨0, 0, q0⟩, ⟨0, 5, q5⟩])) := ⟨_, rfl⟩;have dc : St a4 := by rw [g]; infer_instance
   have af : Hid (∀ W, a4 W → a3 W) := by show ∀ W, _; rw [g]; exact fun W h => h.1
   have bm : Hid (∀ W, a4 W → Rd W (some ⟨bg, 0, none⟩) (Z3 [⟨0, 0, q0⟩, ⟨0, 5, q5⟩])) := by show ∀ W, _; rw [g]; exact fun W h => h.2
   have a9 : Hid (a4 b4) := by show a4 b4; rw [g]; exact ⟨d, Xq own⟩
   clear g;clear d ao bb own;go_wp2_with fail
   refine ZA a4 (by kernel_rfl) (by kernel_rfl) (St.drew a9.out) ?_;(refine Qf rfl ?_ (fun W p => ?_) ?_; rotate_left; (focus (go_simp; exact rfl)); simp only [Act.put, Qa, Qb, Qc])
   as_aux_lemma =>
    (refine Qf rfl ?_ (fun W p => ?_) ?_; rotate_left; (focus (have c := (bf.out _ (o.out _ (r.out _ (q.out _ (t.out _ (ad.out _ (af.out _ p))))))).cellv (i := 3) (v := .int .i64 1) rfl; go_simp; exact rfl)); simp only [Act.put, Qa, Qb, Qc])
    iterate 3 (refine Qf rfl ?_ (fun W p => ?_) ?_; rotate_left; (focus (go_simp; exact rfl)); simp only [Act.put, Qa, Qb, Qc])
    (refine Qf rfl ?_ (fun W p => ?_) ?_; rotate_left; (focus (have c := (bf.out _ (o.out _ (r.out _ (q.out _ (t.out _ (ad.out _ (af.out _ p))))))).cellv (i := 4) (v := .int .i64 0) rfl; go_simp; exact rfl)); simp only [Act.put, Qa, Qb, Qc])
    iterate 5 (refine Qf rfl ?_ (fun W p => ?_) ?_; rotate_left; (focus (go_simp; exact rfl)); simp only [Act.put, Qa, Qb, Qc])
    (refine Qf rfl ?_ (fun W p => ?_) ?_; rotate_left; (focus (have c := (bf.out _ (o.out _ (r.out _ (q.out _ (t.out _ (ad.out _ (af.out _ p))))))).cellv (i := 5) (v := .int .i64 3) rfl; go_simp; exact rfl)); simp only [Act.put, Qa, Qb, Qc])
    iterate 4 (refine Qf rfl ?_ (fun W p => ?_) ?_; rotate_left; (focus (go_simp; exact rfl)); simp only [Act.put, Qa, Qb, Qc])
    (refine Qf rfl ?_ (fun W p => ?_) ?_; rotate_left; (focus (have c := (bf.out _ (o.out _ (r.out _ (q.out _ (t.out _ (ad.out _ (af.out _ p))))))).cellv (i := 7) (v := .string ⟨dga.toArray⟩) rfl; go_simp; exact rfl)); simp only [Act.put, Qa, Qb, Qc]);(refine Qf rfl ?_ (fun W p => ?_) ?_; rotate_left; (focus ((have dh : (⟨dga.toArray⟩ : ByteArray).size = 32 := (by rw [Ux]; exact c0.out)); go_simp; exact rfl)); simp only [Act.put, Qa, Qb, Qc])
    iterate 4 (refine Qf rfl ?_ (fun W p => ?_) ?_; rotate_left; (focus (go_simp; exact rfl)); simp only [Act.put, Qa, Qb, Qc])
    as_aux_lemma =>
     iterate 4 (refine Qf rfl ?_ (fun W p => ?_) ?_; rotate_left; (focus (go_simp; exact rfl)); simp only [Act.put, Qa, Qb, Qc])
     (refine Qf rfl ?_ (fun W p => ?_) ?_; rotate_left; (focus (have c := (b5.out _ (t.out _ (ad.out _ (af.out _ p)))).cellv (i := 3) (v := .int .i64 1) rfl; go_simp; exact rfl)); simp only [Act.put, Qa, Qb, Qc])
     iterate 4 (refine Qf rfl ?_ (fun W p => ?_) ?_; rotate_left; (focus (go_simp; exact rfl)); simp only [Act.put, Qa, Qb, Qc])
     (refine Qf rfl ?_ (fun W p => ?_) ?_; rotate_left; (focus (have c := (b5.out _ (t.out _ (ad.out _ (af.out _ p)))).cellv (i := 4) (v := .int .i64 1) rfl; go_simp; exact rfl)); simp only [Act.put, Qa, Qb, Qc])
     iterate 12 (refine Qf rfl ?_ (fun W p => ?_) ?_; rotate_left; (focus (go_simp; exact rfl)); simp only [Act.put, Qa, Qb, Qc])
     as_aux_lemma =>
      (refine Qf rfl ?_ (fun W p => ?_) ?_; rotate_left; (focus (have c := (cg.out _ (af.out _ p)).cellv (i := 3) (v := .int .i64 0) rfl; go_simp; exact rfl)); simp only [Act.put, Qa, Qb, Qc])
      iterate 4 (refine Qf rfl ?_ (fun W p => ?_) ?_; rotate_left; (focus (go_simp; exact rfl)); simp only [Act.put, Qa, Qb, Qc])
      (refine Qf rfl ?_ (fun W p => ?_) ?_; rotate_left; (focus (have c := (cg.out _ (af.out _ p)).cellv (i := 4) (v := .int .i64 (-1)) rfl; go_simp; exact rfl)); simp only [Act.put, Qa, Qb, Qc])
      iterate 10 (refine Qf rfl ?_ (fun W p => ?_) ?_; rotate_left; (focus (go_simp; exact rfl)); simp only [Act.put, Qa, Qb, Qc])
      (refine Qf rfl ?_ (fun W p => ?_) ?_; rotate_left; (focus (have c := Uo (bm.out _ p) (j := 3) (v := .int .i64 5) rfl; go_simp; exact rfl)); simp only [Act.put, Qa, Qb, Qc])
      iterate 5 (refine Qf rfl ?_ (fun W p => ?_) ?_; rotate_left; (focus (go_simp; exact rfl)); simp only [Act.put, Qa, Qb, Qc])
      as_aux_lemma =>
       iterate 4 (refine Qf rfl ?_ (fun W p => ?_) ?_; rotate_left; (focus (go_simp; exact rfl)); simp only [Act.put, Qa, Qb, Qc])
       (refine ZJ rfl 37 _ rfl (⟨bg, 0, none⟩) rfl [.int .i64 0, .int .i64 0] _ (fun W p => Aiw (bm.out _ p)) Tryz.underlying37 rfl (by kernel_rfl) ?_; simp only [Act.put, Qa, Qb, Qc])
       iterate 2 (refine Qf rfl ?_ (fun W p => ?_) ?_; rotate_left; (focus (go_simp; exact rfl)); simp only [Act.put, Qa, Qb, Qc])
       (refine ZJ rfl 37 _ rfl (⟨bg, 2, none⟩) rfl [.int .i64 0, .int .i64 5] _ (fun W p => Aix (bm.out _ p)) Tryz.underlying37 rfl (by kernel_rfl) ?_; simp only [Act.put, Qa, Qb, Qc]);(refine QB rfl 27 _ (fun W => by (go_simp; try rfl)) (.int .i64 1) (fun W p => AhA q0 q5 W) ?_; simp only [Act.put, Qa, Qb, Qc])
       iterate 3 (refine Qf rfl ?_ (fun W p => ?_) ?_; rotate_left; (focus (go_simp; exact rfl)); simp only [Act.put, Qa, Qb, Qc])
       iterate 2 (refine QD rfl 54 _ rfl (aq) rfl 54 _ _ (fun W p => (bf.out _ (o.out _ (r.out _ (q.out _ (t.out _ (ad.out _ (af.out _ p)))))))) Tryz.underlying54 rfl (by kernel_rfl) ?_; simp only [Act.put, Qa, Qb, Qc])
       (refine QB rfl 32 _ (fun W => by (go_simp; try rfl)) (.bool true) (fun W p => AiF a6 a7 dga W (bn.out _ (D9.out _ (o.out _ (r.out _ (q.out _ (t.out _ (ad.out _ (af.out _ p))))))))) ?_; simp only [Act.put, Qa, Qb, Qc])
       iterate 2 (refine Qf rfl ?_ (fun W p => ?_) ?_; rotate_left; (focus (go_simp; exact rfl)); simp only [Act.put, Qa, Qb, Qc])
       (refine QD rfl 54 _ rfl (aq) rfl 54 _ _ (fun W p => (bf.out _ (o.out _ (r.out _ (q.out _ (t.out _ (ad.out _ (af.out _ p)))))))) Tryz.underlying54 rfl (by kernel_rfl) ?_; simp only [Act.put, Qa, Qb, Qc]);(refine QD rfl 54 _ rfl (a8) rfl 54 _ _ (fun W p => (b5.out _ (t.out _ (ad.out _ (af.out _ p))))) Tryz.underlying54 rfl (by kernel_rfl) ?_; simp only [Act.put, Qa, Qb, Qc]);(refine QB rfl 32 _ (fun W => by (go_simp; try rfl)) (.bool false) (fun W p => AiG a6 a7 bj bk dga dgb W (bn.out _ (D9.out _ (o.out _ (r.out _ (q.out _ (t.out _ (ad.out _ (af.out _ p)))))))) (b7.out _ (q.out _ (t.out _ (ad.out _ (af.out _ p)))))) ?_; simp only [Act.put, Qa, Qb, Qc])
       iterate 3 (refine Qf rfl ?_ (fun W p => ?_) ?_; rotate_left; (focus (go_simp; exact rfl)); simp only [Act.put, Qa, Qb, Qc])
       refine QG fun W9 ct => ?_
       clear a9;have a9 : Hid (a4 W9) := ct;clear ct;go_wp2_with fail
       go_ret
       exact ⟨rfl, (b6.out _ (D1.out _ (D2.out _ (D3.out _ (D4.out _ (D5.out _ (D6.out _ (D7.out _ (D8.out _ (D9.out _ (o.out _ (r.out _ (q.out _ (t.out _ (ad.out _ (af.out _ a9.out))))))))))))))))⟩
end Go.Proofs.YtdcmppdhdcjpfaaGreat
