/- Lemmas for VerdictMoreP. -/
import Derived.Test.YtdcmppdhdcjpfaaGreatZr1
import Derived.Test.YtdcmppdhdcjpfaaGreatZr34
import Derived.Test.YtdcmppdhdcjpfaaGreatZr35
set_option linter.unusedVariables false
set_option linter.unusedSimpArgs false
set_option maxRecDepth 100000
set_option maxHeartbeats 16000000
namespace Go.Proofs.YtdcmppdhdcjpfaaGreat
open Go.RowKit Go.Deep
theorem Ab1 : (Tryz.prog.info? 22).map (fun i => (i.zero, i.size, i.bytes)) = some (some (.slice none 0 0), 1, 24) := by kernel_rfl
theorem Ah2 (l : List IntsV) : ∀ u ∈ Z6 l, u.oneCell' = true := by
 intro u hu
 simp only [Z6, List.mem_map] at hu
 obtain ⟨x, _, rfl⟩ := hu
 rfl
theorem Ah1 (l : List IntsV) : (Z6 l).length = l.length := by simp [Z6]
instance stJ {c : Prop} {y : MtV} : St (fun W => c → MtT W y) := ⟨fun h b hc => (h hc).go b⟩
theorem AcM (ts : List IntsV) (g : IntsV) : Z6 (ts ++ [g]) = Z6 ts ++ [g.val] := by simp [Z6]
theorem Aiu (W : World) : (Instr.buildSlice 46 0 #[]).run Tryz.prog W = .ok (.slice (some ⟨W.heap.size, 0, none⟩) 0 0) (W.alloc (.cells #[] 22)) := by kernel_rfl
theorem Aiv (A : Option Addr) (n c : Nat) (W : World) : (Instr.buildSlice 46 1 #[(0, .slice A n c)]).run Tryz.prog W = .ok (.slice (some ⟨W.heap.size, 0, none⟩) 1 1) (W.alloc (.cells #[.slice A n c] 22)) := by kernel_rfl
theorem AdV {params fuel : Int} {ts : List (List Int)} {l : List Int} (h : Jd params ts fuel = 0) (hl : (l.length : Int) = params) (h5 : ts.length ≤ 5) : Jd params (ts ++ [l]) fuel = 0 := by
 obtain ⟨h1, h2, h3, h4, h6⟩ := Aap h
 unfold Jd
 rw [if_neg (by simp; omega), if_pos (fun x hx => ?_), if_neg (by omega)]
 rcases List.mem_append.1 hx with hx | hx
 · exact h3 x hx
 · rw [List.mem_singleton.1 hx]; exact hl
theorem Ae4 {p : PgV} {d : Dl} {fuel : Int} {ts : List (List Int)} {l : List Int} (h : QQ p d ts fuel = 0) (hl : (l.length : Int) = p.params) (h5 : ts.length ≤ 5) : QQ p d (ts ++ [l]) fuel = 0 := by
 have hb : JT p ts fuel = 0 := by
  unfold QQ at h
  split at h
  · rename_i h1; exact absurd h h1
  · rename_i h1; simpa using h1
 have hm : Ue p d = 0 := by unfold QQ at h; rwa [if_neg (by rw [hb]; simp)] at h
 have hs : Jd p.params ts fuel = 0 ∧ Zb p = 0 := by
  unfold JT at hb
  split at hb
  · rename_i h1; exact absurd hb h1
  · rename_i h1; exact ⟨hb, by simpa using h1⟩
 unfold QQ JT
 rw [hs.2, if_neg (by rw [if_neg (by simp), AdV hs.1 hl h5]; simp), hm]
theorem Ah7 {P : Program} {c : Code} {a : Act} {w : World} {Q : Exit → Act → World → Prop} {F : Nat → Value → Nat → Nat → Nat → Nat → MtV → World → Prop} {f : Nat → Value → Nat → Nat → Nat → Nat → MtV → Act}
 (hreg : c.wp P (Ends fun _ a' w' => ∃ (g2 : Nat) (v5 : Value) (g7 g8 cap8 ga : Nat) (y : MtV), a' = f g2 v5 g7 g8 cap8 ga y ∧ F g2 v5 g7 g8 cap8 ga y w') a w) (cont : ∀ g2 v5 g7 g8 cap8 ga y w', F g2 v5 g7 g8 cap8 ga y w' → Q .normal (f g2 v5 g7 g8 cap8 ga y) w') : c.wp P Q a w :=
 Code.wp_mono (fun e a' w' h => by
  cases e with
  | normal =>
   obtain ⟨g2, v5, g7, g8, cap8, ga, y, rfl, hF⟩ := (h : ∃ (g2 : Nat) (v5 : Value) (g7 g8 cap8 ga : Nat) (y : MtV), a' = f g2 v5 g7 g8 cap8 ga y ∧ F g2 v5 g7 g8 cap8 ga y w')
   exact cont _ _ _ _ _ _ _ _ hF
  | _ => exact (h : False).elim) hreg
theorem AgT {P : Program} {md : Region.Mode} {o : Array Oper} {Q : Exit → Act → World → Prop} {S : World → Prop} {n : Nat} {L : Array Bool} {f : Nat → Value → Nat → Act} {F : Nat → Value → Nat → World → Prop} {G : Prop}
 (main : (∀ (g2 : Nat) (v5 : Value) (g7 : Nat) W, F g2 v5 g7 W → wpAnyH P md o Q S n L (f g2 v5 g7) W) → G) (tail : ∀ (g2 : Nat) (v5 : Value) (g7 : Nat) W, F g2 v5 g7 W → wpAnyH P md o Q S n L (f g2 v5 g7) W) : G := main tail
theorem AgU {P : Program} {md : Region.Mode} {o : Array Oper} {Q : Exit → Act → World → Prop} {S : World → Prop} {n : Nat} {L : Array Bool} {f : Nat → Value → Nat → Nat → Act} {F : Nat → Value → Nat → Nat → World → Prop} {G : Prop}
 (main : (∀ (g2 : Nat) (v5 : Value) (g7 : Nat) (ga : Nat) W, F g2 v5 g7 ga W → wpAnyH P md o Q S n L (f g2 v5 g7 ga) W) → G) (tail : ∀ (g2 : Nat) (v5 : Value) (g7 : Nat) (ga : Nat) W, F g2 v5 g7 ga W → wpAnyH P md o Q S n L (f g2 v5 g7 ga) W) : G := main tail
theorem AgV {P : Program} {md : Region.Mode} {o : Array Oper} {Q : Exit → Act → World → Prop} {S : World → Prop} {n : Nat} {L : Array Bool} {f : Nat → Value → Nat → Nat → Nat → Nat → Act} {F : Nat → Value → Nat → Nat → Nat → Nat → World → Prop} {G : Prop}
 (main : (∀ (g2 : Nat) (v5 : Value) (g7 : Nat) (g8 : Nat) (cap8 : Nat) (ga : Nat) W, F g2 v5 g7 g8 cap8 ga W → wpAnyH P md o Q S n L (f g2 v5 g7 g8 cap8 ga) W) → G) (tail : ∀ (g2 : Nat) (v5 : Value) (g7 : Nat) (g8 : Nat) (cap8 : Nat) (ga : Nat) W, F g2 v5 g7 g8 cap8 ga W → wpAnyH P md o Q S n L (f g2 v5 g7 g8 cap8 ga) W) : G := main tail
theorem Uv (p : PgV) (x : DlV) (t : TsV) (g : IntsV) (fuel : Int) (hfuelI : -9223372036854775808 ≤ fuel ∧ fuel ≤ 9223372036854775807) (w : World) (hok : p.ok w) (hx : DlRaw w x) (ht : TsRaw w t) (hg : g.ok w) : Calls Tryz.prog 6 #[p.val, .agg x.cells, t.val, g.val, .int .i64 fuel] w fun e w' => e = .returned (.bool true) ∧ Below w.heap.size w w' := by
 obtain ⟨tA, tcap, ts⟩ := t
 obtain ⟨ht1, ht2, ht3, ht4, ht5⟩ := ht
 rw [show p.val = .agg p.cells from rfl, show (TsV.mk tA tcap ts).val = .slice tA ts.length tcap from rfl]
 have Htn : Hid (ts.length ≤ tcap ∧ tcap ≤ maxLen ∧ (tA = none → tcap = 0)) := ⟨ht1, ht2, ht3⟩
 obtain ⟨xA, xc, d⟩ := x
 rw [show (DlV.mk xA xc d).cells = #[.slice xA d.path.length xc, .int .i64 d.op, .int .i64 d.n] from rfl]
 have hxr : Rd w xA (Qi d.path) := hx.rd
 obtain ⟨gA, gc, gl⟩ := g
 rw [show (IntsV.mk gA gc gl).val = .slice gA gl.length gc from rfl]
 go_enter Tryz.func6, Tryz.ntmps6
 obtain ⟨S0, hSd⟩ : ∃ S : World → Prop, S = (fun W => Below w.heap.size w W ∧ p.ok W ∧ Rd W xA (Qi d.path) ∧ Rd W tA (Z6 ts) ∧ (∀ y ∈ ts, y.ok W) ∧ (⟨gA, gc, gl⟩ : IntsV).ok W) := ⟨_, rfl⟩
 have st0 : St S0 := by rw [hSd]; infer_instance
 have F_low : Hid (∀ W, S0 W → Below w.heap.size w W) := by show ∀ W, _; rw [hSd]; exact fun W h => h.1
 have F_okp : Hid (∀ W, S0 W → p.ok W) := by show ∀ W, _; rw [hSd]; exact fun W h => h.2.1
 have F_rdx : Hid (∀ W, S0 W → Rd W xA (Qi d.path)) := by show ∀ W, _; rw [hSd]; exact fun W h => h.2.2.1
 have F_rdt : Hid (∀ W, S0 W → Rd W tA (Z6 ts)) := by show ∀ W, _; rw [hSd]; exact fun W h => h.2.2.2.1
 have F_okt : Hid (∀ W, S0 W → (∀ y ∈ ts, y.ok W)) := by show ∀ W, _; rw [hSd]; exact fun W h => h.2.2.2.2.1
 have F_okg : Hid (∀ W, S0 W → (⟨gA, gc, gl⟩ : IntsV).ok W) := by show ∀ W, _; rw [hSd]; exact fun W h => h.2.2.2.2.2
 have HS0 : Hid (S0 w) := by show S0 w; rw [hSd]; exact ⟨Below.refl _ _, hok, hxr, ht4, ht5, hg⟩
 clear hSd
 clear ht1 ht2 ht3 ht4 ht5 hok hxr hx hg
 go_wp2_with (refine Qp _ _ rfl ?_)
 refine Stop.to ?_
 refine Qf rfl 25 _ rfl p.cells rfl ?_
 intro G_1 w_2 hG rG bG
 have hprev := st0.go HS0.out (bG.mono hG)
 obtain ⟨S1, hSd⟩ : ∃ S : World → Prop, S = (fun W => S0 W ∧ Row W G_1 25 p.cells) := ⟨_, rfl⟩
 have st1 : St S1 := by rw [hSd]; infer_instance
 have D1 : Hid (∀ W, S1 W → S0 W) := by show ∀ W, _; rw [hSd]; exact fun W h => h.1
 have F_P : Hid (∀ W, S1 W → Row W G_1 25 p.cells) := by show ∀ W, _; rw [hSd]; exact fun W h => h.2
 have HS1 : Hid (S1 w_2) := by show S1 w_2; rw [hSd]; exact ⟨hprev, rG⟩
 clear hSd
 clear hprev HS0 hG rG bG
 go_wp2_with (refine Qp _ _ rfl ?_)
 refine Stop.to ?_
 refine Qf rfl 35 _ rfl #[.slice xA d.path.length xc, .int .i64 d.op, .int .i64 d.n] rfl ?_
 intro G_3 w_4 hG rG bG
 have hprev := st1.go HS1.out (bG.mono hG)
 obtain ⟨S2, hSd⟩ : ∃ S : World → Prop, S = (fun W => S1 W ∧ Row W G_3 35 #[.slice xA d.path.length xc, .int .i64 d.op, .int .i64 d.n]) := ⟨_, rfl⟩
 have st2 : St S2 := by rw [hSd]; infer_instance
 have D2 : Hid (∀ W, S2 W → S1 W) := by show ∀ W, _; rw [hSd]; exact fun W h => h.1
 have F_D : Hid (∀ W, S2 W → Row W G_3 35 #[.slice xA d.path.length xc, .int .i64 d.op, .int .i64 d.n]) := by show ∀ W, _; rw [hSd]; exact fun W h => h.2
 have HS2 : Hid (S2 w_4) := by show S2 w_4; rw [hSd]; exact ⟨hprev, rG⟩
 clear hSd
 clear hprev HS1 hG rG bG
 go_wp2_with fail
 refine (AcU w_4).mono ?_
 rintro e w_5 ⟨rfl, bb⟩
 have hprev := st2.go HS2.out (bb)
 replace HS2 := Lh hprev
 clear hprev bb
 go_wp2_with (refine wpList_load_row rfl 25 _ rfl G_1 rfl 25 p.cells (0, 0) _ (F_P.out _ (D2.out _ HS2.out)) Tryz.underlying25 rfl (by kernel_rfl) ?_)
 refine (AeS p tA tcap ts fuel w_5 (F_rdt.out _ (D1.out _ (D2.out _ HS2.out)))).mono ?_
 rintro e w_6 ⟨rfl, bb⟩
 have hprev := st2.go HS2.out (bb)
 replace HS2 := Lh hprev
 clear hprev bb
 generalize hq : AfZ p ts fuel = q
 have Hq := Lh hq
 clear hq
 cases q
 · skip
   go_wp2_with fail
   go_ret
   exact ⟨rfl, (F_low.out _ (D1.out _ (D2.out _ HS2.out)))⟩
 have hfz := Ahk Hq.out
 have Hbl : Hid (p.body.length ≤ 40) := hfz.1
 have Htl : Hid (ts.length ≤ 5) := hfz.2.2.1
 have Htm : Hid (∀ x ∈ ts, x.l.length ≤ 40) := hfz.2.2.2.1
 have htl5 : (ts.length : Int) ≤ 5 := by omega
 clear hfz Hq
 have cd0 := (F_D.out _ HS2.out).cellv (i := 0) (v := .slice xA d.path.length xc) rfl
 have cp0 := (F_P.out _ (D2.out _ HS2.out)).cellv (i := 0) (v := .int .i64 p.params) rfl
 by_cases hd : 60 < (d.path.length : Int)
 · skip
   go_wp2_with fail
   go_ret
   exact ⟨rfl, (F_low.out _ (D1.out _ (D2.out _ HS2.out)))⟩
 have hd60 : (d.path.length : Int) ≤ 60 := by omega
 have Hd : Hid (d.path.length ≤ 1000000) := by show _ ≤ _; omega
 by_cases hgp : (gl.length : Int) = p.params
 rotate_left
 · have hgp2 : ((gl.length : Int) != p.params) = true := by simpa using hgp
   go_wp2_with fail
   go_ret
   exact ⟨rfl, (F_low.out _ (D1.out _ (D2.out _ HS2.out)))⟩
 have hgp2 : ((gl.length : Int) != p.params) = false := by simpa using hgp
 have Hgp := Lh hgp
 clear hgp
 go_wp2_with (first | (refine wpList_load_row rfl 25 _ rfl G_1 rfl 25 p.cells (0, 0) _ (F_P.out _ (D2.out _ HS2.out)) Tryz.underlying25 rfl (by kernel_rfl) ?_) | (refine wpList_load_row rfl 35 _ rfl G_3 rfl 35 #[.slice xA d.path.length xc, .int .i64 d.op, .int .i64 d.n] (0, 0) _ (F_D.out _ HS2.out) Tryz.underlying35 rfl (by kernel_rfl) ?_))
 refine (Jg p ⟨xA, xc, d⟩ tA tcap ts fuel w_6 (F_okp.out _ (D1.out _ (D2.out _ HS2.out))) ⟨(F_rdx.out _ (D1.out _ (D2.out _ HS2.out))), Hd.out⟩ (by have := Hbl.out; omega) (F_rdt.out _ (D1.out _ (D2.out _ HS2.out))) (F_okt.out _ (D1.out _ (D2.out _ HS2.out))) (by have := Htl.out; omega)).mono ?_
 rintro e w_7 ⟨yA, rfl, hy, hy0, bb⟩
 have HYA := Lh hy0
 have HCA : Hid (QQ p d (List.map IntsV.l ts) fuel = 0 → yA.m = Kn p d (List.map IntsV.l ts) fuel) := fun h => (hy h).1
 have hprev := st2.go HS2.out (bb)
 obtain ⟨S3, hSd⟩ : ∃ S : World → Prop, S = (fun W => S2 W ∧ (QQ p d (List.map IntsV.l ts) fuel = 0 → MtT W yA)) := ⟨_, rfl⟩
 have st3 : St S3 := by rw [hSd]; infer_instance
 have D3 : Hid (∀ W, S3 W → S2 W) := by show ∀ W, _; rw [hSd]; exact fun W h => h.1
 have F_okA : Hid (∀ W, S3 W → (QQ p d (List.map IntsV.l ts) fuel = 0 → MtT W yA)) := by show ∀ W, _; rw [hSd]; exact fun W h => h.2
 have HS3 : Hid (S3 w_7) := by show S3 w_7; rw [hSd]; exact ⟨hprev, (fun h => (hy h).2)⟩
 clear hSd
 clear hprev HS2 bb
 clear cd0 cp0
 go_wp2_with (refine QY _ rfl ?_)
 refine Stop.to ?_
 refine Ql rfl 54 rfl _ _ (Zq _) rfl ?_
 intro G_8 w_9 hG rG bG
 go_wp2_with (refine QD _ _ _ rfl ?_)
 refine Stop.to ?_
 refine Qk rfl 54 _ _ rfl G_8 yA.cells.toArray rfl rfl 54 _ rG (by kernel_rfl) rfl (by simp [MtV.cells, Value.oneCell']) ?_
 intro w_10 rH oH
 have bH : Below (w_7).heap.size w_7 w_10 := (bG.mono hG).trans (oH.below hG)
 have hprev := st3.go HS3.out (bH)
 obtain ⟨S4, hSd⟩ : ∃ S : World → Prop, S = (fun W => S3 W ∧ Row W G_8 54 yA.cells.toArray) := ⟨_, rfl⟩
 have st4 : St S4 := by rw [hSd]; infer_instance
 have D4 : Hid (∀ W, S4 W → S3 W) := by show ∀ W, _; rw [hSd]; exact fun W h => h.1
 have F_A : Hid (∀ W, S4 W → Row W G_8 54 yA.cells.toArray) := by show ∀ W, _; rw [hSd]; exact fun W h => h.2
 have HS4 : Hid (S4 w_10) := by show S4 w_10; rw [hSd]; exact ⟨hprev, rH⟩
 clear hSd
 clear hprev HS3 hG rG bG rH oH bH
 go_wp2_with fail
 apply Ah7 (F := fun g2 v5 g7 g8 cap8 ga y W => S4 W ∧ Row W ga 54 y.cells.toArray ∧ (QQ p d (List.map IntsV.l (ts ++ [⟨gA, gc, gl⟩])) fuel = 0 → MtT W y) ∧ (QQ p d (List.map IntsV.l (ts ++ [⟨gA, gc, gl⟩])) fuel = 0 → y.m = Kn p d (List.map IntsV.l (ts ++ [⟨gA, gc, gl⟩])) fuel))
 case hreg =>
  obtain ⟨B, hBd⟩ : ∃ B, B = (w_10).heap.size := ⟨_, rfl⟩
  obtain ⟨T, hTd⟩ : ∃ T : World → Prop, T = (fun W => Below B (w_10) W) := ⟨_, rfl⟩
  have t0 : ∀ W, T W → S4 W := by rw [hTd, hBd]; exact fun W h => st4.go HS4.out h
  have sz : ∀ W, T W → B ≤ W.heap.size := by rw [hTd, hBd]; exact fun W h => h.size
  have sB : ∀ W W', T W → Below B W W' → T W' := by rw [hTd]; exact fun W W' h b => h.trans b
  have stT : St T := ⟨fun h b => sB _ _ h (b.mono (sz _ h))⟩
  have hS : T (w_10).drew := by rw [hTd, hBd]; exact St.drew (S := fun W => Below (w_10).heap.size (w_10) W) (Below.refl _ _)
  have hBs : B ≤ (w_10).drew.heap.size := sz _ hS
  clear hTd hBd
  have mk0 := Aiu
  have mk1 := Aiv gA gl.length gc
  have app5 : ∀ (W : World) {v : Value}, T W → W.ownsRow B 22 1 v 0 [] → ∃ v' W', (Builtin.append_ #[46, 46] 46 #[v, .slice tA ts.length tcap]).run Tryz.prog W = .ok v' W' ∧ W'.ownsRow B 22 1 v' ts.length (Z6 ts) ∧ W.grownBy W' v.ownBlock ∧ (v'.ownBlock = v.ownBlock ∨ v'.ownBlock = some W.heap.size) := by
   intro W v hT hown
   obtain ⟨v', W', h1, h2, h3, h4⟩ := ZB (P := Tryz.prog) 46 22 (.slice none 0 0) 1 24 Tryz.underlying46 Ab1 rfl (by decide) (by decide) hown (sz _ hT) ((F_rdt.out _ (D1.out _ (D2.out _ (D3.out _ (D4.out _ (t0 _ hT))))))) (m := ts.length) (cap := tcap) (by rw [Ah1, Nat.mul_one]) (Ah2 ts) (fun e => by have := Htn.out.2.2 e; have := Htn.out.1; omega) (by have := Htl.out; omega)
   exact ⟨v', W', h1, by simpa using h2, h3, h4⟩
  have app8 : ∀ (W : World) (g7 : Nat) {v : Value}, W.ownsRow B 22 1 v ts.length (Z6 ts) → Row W g7 22 #[.slice gA gl.length gc] → B ≤ W.heap.size → ∃ v' W', (Builtin.append_ #[46, 46] 46 #[v, .slice (some ⟨g7, 0, none⟩) 1 1]).run Tryz.prog W = .ok v' W' ∧ W'.ownsRow B 22 1 v' (ts.length + 1) (Z6 ts ++ [.slice gA gl.length gc]) ∧ W.grownBy W' v.ownBlock ∧ (v'.ownBlock = v.ownBlock ∨ v'.ownBlock = some W.heap.size) := by
   intro W g7 v hown hrow hB
   exact ZB (P := Tryz.prog) 46 22 (.slice none 0 0) 1 24 Tryz.underlying46 Ab1 rfl (by decide) (by decide) hown hB (JM (cs := [.slice gA gl.length gc]) hrow) (m := 1) (cap := 1) rfl (by intro u hu; rw [List.mem_singleton.1 hu]; rfl) (fun h => by cases h) (by have := Htl.out; omega)
  refine wp_region_held (S := T) (by kernel_rfl) ?_
  simp only [List.size_toArray, List.length_cons, List.length_nil, Nat.reduceAdd, Array.replicate_succ, Array.replicate_zero, List.push_toArray, List.nil_append, List.cons_append]
  show wpAnyH _ _ _ _ _ _ _ _ (w_10).drew
  generalize (w_10).drew = w_t0 at hS hBs ⊢
  (refine tkH 0 _ rfl ((J9 rfl 25 _ rfl G_1 rfl 25 p.cells _ (fun W hW => (F_P.out _ (D2.out _ (D3.out _ (D4.out _ (t0 _ hW)))))) Tryz.underlying25 rfl (by kernel_rfl))) ?_; simp only [Act.put, Qa, Qb, Qc])
  (refine tkH 1 _ rfl ((J9 rfl 35 _ rfl G_3 rfl 35 #[.slice xA d.path.length xc, .int .i64 d.op, .int .i64 d.n] _ (fun W hW => (F_D.out _ (D3.out _ (D4.out _ (t0 _ hW))))) Tryz.underlying35 rfl (by kernel_rfl))) ?_; simp only [Act.put, Qa, Qb, Qc])
  (refine tkH 3 (.slice tA ts.length tcap) rfl (Qd rfl (fun W hW => by (go_simp))) ?_; simp only [Act.put, Qa, Qb, Qc])
  (refine tkH 5 (.slice gA gl.length gc) rfl (Qd rfl (fun W hW => by (go_simp))) ?_; simp only [Act.put, Qa, Qb, Qc])
  (refine tkH 8 (.int .i64 fuel) rfl (Qd rfl (fun W hW => by (go_simp))) ?_; simp only [Act.put, Qa, Qb, Qc])
  apply AgV (F := fun g2 v5 g7 g8 cap8 ga W => T W ∧ W.ownsRow B 22 1 (.slice (some ⟨g8, 0, none⟩) (ts.length + 1) cap8) (ts.length + 1) (Z6 ts ++ [.slice gA gl.length gc]) ∧ Row W ga 54 mt0.cells.toArray ∧ B ≤ ga)
  case main =>
   intro tC
   apply AgU (F := fun g2 v5 g7 ga W => T W ∧ W.ownsRow B 22 1 v5 ts.length (Z6 ts) ∧ Row W g7 22 #[.slice gA gl.length gc] ∧ v5.ownBlock ≠ some g7 ∧ Row W ga 54 mt0.cells.toArray ∧ B ≤ ga)
   case main =>
    intro tB
    apply AgT (F := fun g2 v5 g7 W => T W ∧ W.ownsRow B 22 1 v5 ts.length (Z6 ts) ∧ Row W g7 22 #[.slice gA gl.length gc] ∧ v5.ownBlock ≠ some g7)
    case main =>
     intro tA
     refine wpAnyH_all (rs := [2, 6, 13]) (by kernel_rfl) (by simp) (fun i hi => ?_)
     simp only [List.mem_cons, List.not_mem_nil, or_false] at hi
     rcases hi with rfl | rfl | rfl
     · skip
       refine Qe rfl rfl (fun K2 hK2 => ?_)
       refine Qj (.slice (some ⟨w_t0.heap.size, 0, none⟩) 0 0) (w1 := w_t0.alloc (.cells #[] 22)) (by exact Qn [] rfl (mk0 w_t0)) ?_
       refine hK2 _ _ ?_
       clear hK2 K2
       simp only [Act.put, Qa, Qb, Qc]
       have bw := (Below.refl w_t0.heap.size w_t0).alloc (Nat.le_refl _) (.cells #[] 22)
       have lw : B ≤ w_t0.heap.size := sz _ hS
       have nr := Row.new w_t0 22 #[]
       obtain ⟨g2, hg2⟩ : ∃ g, g = w_t0.heap.size := ⟨_, rfl⟩
       have own2 : (w_t0.alloc (.cells #[] 22)).ownsRow B 22 1 (.slice (some ⟨g2, 0, none⟩) 0 0) 0 [] := by rw [hg2]; exact ZY lw nr
       have hS := sB _ _ hS (bw.mono lw)
       rw [← hg2]
       have r2l : g2 < (w_t0.alloc (.cells #[] 22)).heap.size := by rw [hg2]; simp
       clear nr bw lw hg2
       generalize w_t0.alloc (.cells #[] 22) = w_t1 at *
       refine ⟨hS, ?_⟩
       refine wpAnyH_all (rs := [4, 6, 13]) (by kernel_rfl) (by simp) (fun i hi => ?_)
       simp only [List.mem_cons, List.not_mem_nil, or_false] at hi
       rcases hi with rfl | rfl | rfl
       · skip
         refine Qe rfl rfl (fun K2 hK2 => ?_)
         obtain ⟨v5, w_t2, hrun, own5, hgr, hat⟩ := app5 w_t1 hS own2
         refine Qj v5 (w1 := w_t2) (by exact Qq rfl hrun) ?_
         refine hK2 _ _ ?_
         clear hK2 K2
         simp only [Act.put, Qa, Qb, Qc]
         have lw : B ≤ w_t1.heap.size := sz _ hS
         have bw := Qm (Below.refl B w_t1) own2 hgr lw (Nat.le_refl _)
         have hS := sB _ _ hS bw
         clear bw lw hrun hgr hat own2
         refine ⟨hS, ?_⟩
         refine wpAnyH_all (rs := [6, 13]) (by kernel_rfl) (by simp) (fun i hi => ?_)
         simp only [List.mem_cons, List.not_mem_nil, or_false] at hi
         rcases hi with rfl | rfl
         · skip
           refine Qe rfl rfl (fun K2 hK2 => ?_)
           refine Qj (.slice (some ⟨w_t2.heap.size, 0, none⟩) 1 1) (w1 := w_t2.alloc (.cells #[.slice gA gl.length gc] 22)) (by exact Qn [(0, .tmp 52)] rfl (mk1 w_t2)) ?_
           refine hK2 _ _ ?_
           clear hK2 K2
           simp only [Act.put, Qa, Qb, Qc]
           have bw := (Below.refl w_t2.heap.size w_t2).alloc (Nat.le_refl _) (.cells #[.slice gA gl.length gc] 22)
           have lw : B ≤ w_t2.heap.size := sz _ hS
           have nr := Row.new w_t2 22 #[.slice gA gl.length gc]
           obtain ⟨g7, hg7⟩ : ∃ g, g = w_t2.heap.size := ⟨_, rfl⟩
           have ne57 : v5.ownBlock ≠ some g7 := fun e => by have := (own5.lt _ e).2; omega
           have own5 := Qs own5 bw
           have r7 : Row (w_t2.alloc (.cells #[.slice gA gl.length gc] 22)) g7 22 #[.slice gA gl.length gc] := by rw [hg7]; exact nr
           have hS := sB _ _ hS (bw.mono lw)
           rw [← hg7]
           clear nr bw lw hg7
           generalize w_t2.alloc (.cells #[.slice gA gl.length gc] 22) = w_t3 at *
           refine ⟨hS, ?_⟩
           exact tA g2 v5 g7 _ ⟨hS, own5, r7, ne57⟩
         · skip
           refine Qe rfl rfl (fun K2 hK2 => ?_)
           refine Q0 54 rfl _ _ (Zq _) rfl ?_
           intro ga w_t3 hga ra bx
           refine hK2 _ _ ?_
           clear hK2 K2
           simp only [Act.put, Qa, Qb, Qc]
           have bw := bx.mono hga
           have lw : B ≤ w_t2.heap.size := sz _ hS
           have la : B ≤ ga := Nat.le_trans lw hga
           have own5 := Qs own5 bw
           have hS := sB _ _ hS (bw.mono lw)
           clear bw lw bx hga
           refine ⟨hS, ?_⟩
           (refine wpAnyH_all (rs := [6]) (by kernel_rfl) (by simp) (fun i hi => ?_); obtain rfl : i = 6 := by simpa using hi)
           refine Qe rfl rfl (fun K2 hK2 => ?_)
           refine Qj (.slice (some ⟨w_t3.heap.size, 0, none⟩) 1 1) (w1 := w_t3.alloc (.cells #[.slice gA gl.length gc] 22)) (by exact Qn [(0, .tmp 52)] rfl (mk1 w_t3)) ?_
           refine hK2 _ _ ?_
           clear hK2 K2
           simp only [Act.put, Qa, Qb, Qc]
           have bw := (Below.refl w_t3.heap.size w_t3).alloc (Nat.le_refl _) (.cells #[.slice gA gl.length gc] 22)
           have lw : B ≤ w_t3.heap.size := sz _ hS
           have nr := Row.new w_t3 22 #[.slice gA gl.length gc]
           obtain ⟨g7, hg7⟩ : ∃ g, g = w_t3.heap.size := ⟨_, rfl⟩
           have ne57 : v5.ownBlock ≠ some g7 := fun e => by have := (own5.lt _ e).2; omega
           have own5 := Qs own5 bw
           have ra := ra.below bw ra.lt
           have r7 : Row (w_t3.alloc (.cells #[.slice gA gl.length gc] 22)) g7 22 #[.slice gA gl.length gc] := by rw [hg7]; exact nr
           have hS := sB _ _ hS (bw.mono lw)
           rw [← hg7]
           clear nr bw lw hg7
           generalize w_t3.alloc (.cells #[.slice gA gl.length gc] 22) = w_t4 at *
           refine ⟨hS, ?_⟩
           exact tB g2 v5 g7 ga _ ⟨hS, own5, r7, ne57, ra, la⟩
       · skip
         refine Qe rfl rfl (fun K2 hK2 => ?_)
         refine Qj (.slice (some ⟨w_t1.heap.size, 0, none⟩) 1 1) (w1 := w_t1.alloc (.cells #[.slice gA gl.length gc] 22)) (by exact Qn [(0, .tmp 52)] rfl (mk1 w_t1)) ?_
         refine hK2 _ _ ?_
         clear hK2 K2
         simp only [Act.put, Qa, Qb, Qc]
         have bw := (Below.refl w_t1.heap.size w_t1).alloc (Nat.le_refl _) (.cells #[.slice gA gl.length gc] 22)
         have lw : B ≤ w_t1.heap.size := sz _ hS
         have nr := Row.new w_t1 22 #[.slice gA gl.length gc]
         obtain ⟨g7, hg7⟩ : ∃ g, g = w_t1.heap.size := ⟨_, rfl⟩
         have ne27 : g2 ≠ g7 := by have := r2l; omega
         have own2 := Qs own2 bw
         have r7 : Row (w_t1.alloc (.cells #[.slice gA gl.length gc] 22)) g7 22 #[.slice gA gl.length gc] := by rw [hg7]; exact nr
         have hS := sB _ _ hS (bw.mono lw)
         rw [← hg7]
         clear nr bw lw hg7
         generalize w_t1.alloc (.cells #[.slice gA gl.length gc] 22) = w_t2 at *
         refine ⟨hS, ?_⟩
         refine wpAnyH_all (rs := [4, 13]) (by kernel_rfl) (by simp) (fun i hi => ?_)
         simp only [List.mem_cons, List.not_mem_nil, or_false] at hi
         rcases hi with rfl | rfl
         · skip
           refine Qe rfl rfl (fun K2 hK2 => ?_)
           obtain ⟨v5, w_t3, hrun, own5, hgr, hat⟩ := app5 w_t2 hS own2
           refine Qj v5 (w1 := w_t3) (by exact Qq rfl hrun) ?_
           refine hK2 _ _ ?_
           clear hK2 K2
           simp only [Act.put, Qa, Qb, Qc]
           have lw : B ≤ w_t2.heap.size := sz _ hS
           have bw := Qm (Below.refl B w_t2) own2 hgr lw (Nat.le_refl _)
           have ne57 : v5.ownBlock ≠ some g7 := by rcases hat with h | h <;> rw [h] <;> intro e <;> simp [Value.ownBlock] at e <;> (have := r7.lt; omega)
           have r7 := r7.grown hgr (by simp [Value.ownBlock]; exact ne27)
           have hS := sB _ _ hS bw
           clear bw lw hrun hgr hat own2
           refine ⟨hS, ?_⟩
           exact tA g2 v5 g7 _ ⟨hS, own5, r7, ne57⟩
         · skip
           refine Qe rfl rfl (fun K2 hK2 => ?_)
           refine Q0 54 rfl _ _ (Zq _) rfl ?_
           intro ga w_t3 hga ra bx
           refine hK2 _ _ ?_
           clear hK2 K2
           simp only [Act.put, Qa, Qb, Qc]
           have bw := bx.mono hga
           have lw : B ≤ w_t2.heap.size := sz _ hS
           have la : B ≤ ga := Nat.le_trans lw hga
           have own2 := Qs own2 bw
           have r7 := r7.below bw r7.lt
           have hS := sB _ _ hS (bw.mono lw)
           clear bw lw bx hga
           refine ⟨hS, ?_⟩
           (refine wpAnyH_all (rs := [4]) (by kernel_rfl) (by simp) (fun i hi => ?_); obtain rfl : i = 4 := by simpa using hi)
           refine Qe rfl rfl (fun K2 hK2 => ?_)
           obtain ⟨v5, w_t4, hrun, own5, hgr, hat⟩ := app5 w_t3 hS own2
           refine Qj v5 (w1 := w_t4) (by exact Qq rfl hrun) ?_
           refine hK2 _ _ ?_
           clear hK2 K2
           simp only [Act.put, Qa, Qb, Qc]
           have lw : B ≤ w_t3.heap.size := sz _ hS
           have bw := Qm (Below.refl B w_t3) own2 hgr lw (Nat.le_refl _)
           have ra := ra.grown hgr (Qz own2 ra (by decide))
           have ne57 : v5.ownBlock ≠ some g7 := by rcases hat with h | h <;> rw [h] <;> intro e <;> simp [Value.ownBlock] at e <;> (have := r7.lt; omega)
           have r7 := r7.grown hgr (by simp [Value.ownBlock]; exact ne27)
           have hS := sB _ _ hS bw
           clear bw lw hrun hgr hat own2
           refine ⟨hS, ?_⟩
           exact tB g2 v5 g7 ga _ ⟨hS, own5, r7, ne57, ra, la⟩
       · skip
         refine Qe rfl rfl (fun K2 hK2 => ?_)
         refine Q0 54 rfl _ _ (Zq _) rfl ?_
         intro ga w_t2 hga ra bx
         refine hK2 _ _ ?_
         clear hK2 K2
         simp only [Act.put, Qa, Qb, Qc]
         have bw := bx.mono hga
         have lw : B ≤ w_t1.heap.size := sz _ hS
         have la : B ≤ ga := Nat.le_trans lw hga
         have own2 := Qs own2 bw
         have r2l : g2 < w_t2.heap.size := by have := bw.size; omega
         have hS := sB _ _ hS (bw.mono lw)
         clear bw lw bx hga
         refine ⟨hS, ?_⟩
         refine wpAnyH_all (rs := [4, 6]) (by kernel_rfl) (by simp) (fun i hi => ?_)
         simp only [List.mem_cons, List.not_mem_nil, or_false] at hi
         rcases hi with rfl | rfl
         · skip
           refine Qe rfl rfl (fun K2 hK2 => ?_)
           obtain ⟨v5, w_t3, hrun, own5, hgr, hat⟩ := app5 w_t2 hS own2
           refine Qj v5 (w1 := w_t3) (by exact Qq rfl hrun) ?_
           refine hK2 _ _ ?_
           clear hK2 K2
           simp only [Act.put, Qa, Qb, Qc]
           have lw : B ≤ w_t2.heap.size := sz _ hS
           have bw := Qm (Below.refl B w_t2) own2 hgr lw (Nat.le_refl _)
           have ra := ra.grown hgr (Qz own2 ra (by decide))
           have hS := sB _ _ hS bw
           clear bw lw hrun hgr hat own2
           refine ⟨hS, ?_⟩
           (refine wpAnyH_all (rs := [6]) (by kernel_rfl) (by simp) (fun i hi => ?_); obtain rfl : i = 6 := by simpa using hi)
           refine Qe rfl rfl (fun K2 hK2 => ?_)
           refine Qj (.slice (some ⟨w_t3.heap.size, 0, none⟩) 1 1) (w1 := w_t3.alloc (.cells #[.slice gA gl.length gc] 22)) (by exact Qn [(0, .tmp 52)] rfl (mk1 w_t3)) ?_
           refine hK2 _ _ ?_
           clear hK2 K2
           simp only [Act.put, Qa, Qb, Qc]
           have bw := (Below.refl w_t3.heap.size w_t3).alloc (Nat.le_refl _) (.cells #[.slice gA gl.length gc] 22)
           have lw : B ≤ w_t3.heap.size := sz _ hS
           have nr := Row.new w_t3 22 #[.slice gA gl.length gc]
           obtain ⟨g7, hg7⟩ : ∃ g, g = w_t3.heap.size := ⟨_, rfl⟩
           have ne57 : v5.ownBlock ≠ some g7 := fun e => by have := (own5.lt _ e).2; omega
           have own5 := Qs own5 bw
           have ra := ra.below bw ra.lt
           have r7 : Row (w_t3.alloc (.cells #[.slice gA gl.length gc] 22)) g7 22 #[.slice gA gl.length gc] := by rw [hg7]; exact nr
           have hS := sB _ _ hS (bw.mono lw)
           rw [← hg7]
           clear nr bw lw hg7
           generalize w_t3.alloc (.cells #[.slice gA gl.length gc] 22) = w_t4 at *
           refine ⟨hS, ?_⟩
           exact tB g2 v5 g7 ga _ ⟨hS, own5, r7, ne57, ra, la⟩
         · skip
           refine Qe rfl rfl (fun K2 hK2 => ?_)
           refine Qj (.slice (some ⟨w_t2.heap.size, 0, none⟩) 1 1) (w1 := w_t2.alloc (.cells #[.slice gA gl.length gc] 22)) (by exact Qn [(0, .tmp 52)] rfl (mk1 w_t2)) ?_
           refine hK2 _ _ ?_
           clear hK2 K2
           simp only [Act.put, Qa, Qb, Qc]
           have bw := (Below.refl w_t2.heap.size w_t2).alloc (Nat.le_refl _) (.cells #[.slice gA gl.length gc] 22)
           have lw : B ≤ w_t2.heap.size := sz _ hS
           have nr := Row.new w_t2 22 #[.slice gA gl.length gc]
           obtain ⟨g7, hg7⟩ : ∃ g, g = w_t2.heap.size := ⟨_, rfl⟩
           have ne27 : g2 ≠ g7 := by have := r2l; omega
           have own2 := Qs own2 bw
           have ra := ra.below bw ra.lt
           have r7 : Row (w_t2.alloc (.cells #[.slice gA gl.length gc] 22)) g7 22 #[.slice gA gl.length gc] := by rw [hg7]; exact nr
           have hS := sB _ _ hS (bw.mono lw)
           rw [← hg7]
           clear nr bw lw hg7
           generalize w_t2.alloc (.cells #[.slice gA gl.length gc] 22) = w_t3 at *
           refine ⟨hS, ?_⟩
           (refine wpAnyH_all (rs := [4]) (by kernel_rfl) (by simp) (fun i hi => ?_); obtain rfl : i = 4 := by simpa using hi)
           refine Qe rfl rfl (fun K2 hK2 => ?_)
           obtain ⟨v5, w_t4, hrun, own5, hgr, hat⟩ := app5 w_t3 hS own2
           refine Qj v5 (w1 := w_t4) (by exact Qq rfl hrun) ?_
           refine hK2 _ _ ?_
           clear hK2 K2
           simp only [Act.put, Qa, Qb, Qc]
           have lw : B ≤ w_t3.heap.size := sz _ hS
           have bw := Qm (Below.refl B w_t3) own2 hgr lw (Nat.le_refl _)
           have ra := ra.grown hgr (Qz own2 ra (by decide))
           have ne57 : v5.ownBlock ≠ some g7 := by rcases hat with h | h <;> rw [h] <;> intro e <;> simp [Value.ownBlock] at e <;> (have := r7.lt; omega)
           have r7 := r7.grown hgr (by simp [Value.ownBlock]; exact ne27)
           have hS := sB _ _ hS bw
           clear bw lw hrun hgr hat own2
           refine ⟨hS, ?_⟩
           exact tB g2 v5 g7 ga _ ⟨hS, own5, r7, ne57, ra, la⟩
     · skip
       refine Qe rfl rfl (fun K2 hK2 => ?_)
       refine Qj (.slice (some ⟨w_t0.heap.size, 0, none⟩) 1 1) (w1 := w_t0.alloc (.cells #[.slice gA gl.length gc] 22)) (by exact Qn [(0, .tmp 52)] rfl (mk1 w_t0)) ?_
       refine hK2 _ _ ?_
       clear hK2 K2
       simp only [Act.put, Qa, Qb, Qc]
       have bw := (Below.refl w_t0.heap.size w_t0).alloc (Nat.le_refl _) (.cells #[.slice gA gl.length gc] 22)
       have lw : B ≤ w_t0.heap.size := sz _ hS
       have nr := Row.new w_t0 22 #[.slice gA gl.length gc]
       obtain ⟨g7, hg7⟩ : ∃ g, g = w_t0.heap.size := ⟨_, rfl⟩
       have r7 : Row (w_t0.alloc (.cells #[.slice gA gl.length gc] 22)) g7 22 #[.slice gA gl.length gc] := by rw [hg7]; exact nr
       have hS := sB _ _ hS (bw.mono lw)
       rw [← hg7]
       clear nr bw lw hg7
       generalize w_t0.alloc (.cells #[.slice gA gl.length gc] 22) = w_t1 at *
       refine ⟨hS, ?_⟩
       refine wpAnyH_all (rs := [2, 13]) (by kernel_rfl) (by simp) (fun i hi => ?_)
       simp only [List.mem_cons, List.not_mem_nil, or_false] at hi
       rcases hi with rfl | rfl
       · skip
         refine Qe rfl rfl (fun K2 hK2 => ?_)
         refine Qj (.slice (some ⟨w_t1.heap.size, 0, none⟩) 0 0) (w1 := w_t1.alloc (.cells #[] 22)) (by exact Qn [] rfl (mk0 w_t1)) ?_
         refine hK2 _ _ ?_
         clear hK2 K2
         simp only [Act.put, Qa, Qb, Qc]
         have bw := (Below.refl w_t1.heap.size w_t1).alloc (Nat.le_refl _) (.cells #[] 22)
         have lw : B ≤ w_t1.heap.size := sz _ hS
         have nr := Row.new w_t1 22 #[]
         obtain ⟨g2, hg2⟩ : ∃ g, g = w_t1.heap.size := ⟨_, rfl⟩
         have ne27 : g2 ≠ g7 := by have := r7.lt; omega
         have r7 := r7.below bw r7.lt
         have own2 : (w_t1.alloc (.cells #[] 22)).ownsRow B 22 1 (.slice (some ⟨g2, 0, none⟩) 0 0) 0 [] := by rw [hg2]; exact ZY lw nr
         have hS := sB _ _ hS (bw.mono lw)
         rw [← hg2]
         have r2l : g2 < (w_t1.alloc (.cells #[] 22)).heap.size := by rw [hg2]; simp
         clear nr bw lw hg2
         generalize w_t1.alloc (.cells #[] 22) = w_t2 at *
         refine ⟨hS, ?_⟩
         refine wpAnyH_all (rs := [4, 13]) (by kernel_rfl) (by simp) (fun i hi => ?_)
         simp only [List.mem_cons, List.not_mem_nil, or_false] at hi
         rcases hi with rfl | rfl
         · skip
           refine Qe rfl rfl (fun K2 hK2 => ?_)
           obtain ⟨v5, w_t3, hrun, own5, hgr, hat⟩ := app5 w_t2 hS own2
           refine Qj v5 (w1 := w_t3) (by exact Qq rfl hrun) ?_
           refine hK2 _ _ ?_
           clear hK2 K2
           simp only [Act.put, Qa, Qb, Qc]
           have lw : B ≤ w_t2.heap.size := sz _ hS
           have bw := Qm (Below.refl B w_t2) own2 hgr lw (Nat.le_refl _)
           have ne57 : v5.ownBlock ≠ some g7 := by rcases hat with h | h <;> rw [h] <;> intro e <;> simp [Value.ownBlock] at e <;> (have := r7.lt; omega)
           have r7 := r7.grown hgr (by simp [Value.ownBlock]; exact ne27)
           have hS := sB _ _ hS bw
           clear bw lw hrun hgr hat own2
           refine ⟨hS, ?_⟩
           exact tA g2 v5 g7 _ ⟨hS, own5, r7, ne57⟩
         · skip
           refine Qe rfl rfl (fun K2 hK2 => ?_)
           refine Q0 54 rfl _ _ (Zq _) rfl ?_
           intro ga w_t3 hga ra bx
           refine hK2 _ _ ?_
           clear hK2 K2
           simp only [Act.put, Qa, Qb, Qc]
           have bw := bx.mono hga
           have lw : B ≤ w_t2.heap.size := sz _ hS
           have la : B ≤ ga := Nat.le_trans lw hga
           have own2 := Qs own2 bw
           have r7 := r7.below bw r7.lt
           have hS := sB _ _ hS (bw.mono lw)
           clear bw lw bx hga
           refine ⟨hS, ?_⟩
           (refine wpAnyH_all (rs := [4]) (by kernel_rfl) (by simp) (fun i hi => ?_); obtain rfl : i = 4 := by simpa using hi)
           refine Qe rfl rfl (fun K2 hK2 => ?_)
           obtain ⟨v5, w_t4, hrun, own5, hgr, hat⟩ := app5 w_t3 hS own2
           refine Qj v5 (w1 := w_t4) (by exact Qq rfl hrun) ?_
           refine hK2 _ _ ?_
           clear hK2 K2
           simp only [Act.put, Qa, Qb, Qc]
           have lw : B ≤ w_t3.heap.size := sz _ hS
           have bw := Qm (Below.refl B w_t3) own2 hgr lw (Nat.le_refl _)
           have ra := ra.grown hgr (Qz own2 ra (by decide))
           have ne57 : v5.ownBlock ≠ some g7 := by rcases hat with h | h <;> rw [h] <;> intro e <;> simp [Value.ownBlock] at e <;> (have := r7.lt; omega)
           have r7 := r7.grown hgr (by simp [Value.ownBlock]; exact ne27)
           have hS := sB _ _ hS bw
           clear bw lw hrun hgr hat own2
           refine ⟨hS, ?_⟩
           exact tB g2 v5 g7 ga _ ⟨hS, own5, r7, ne57, ra, la⟩
       · skip
         refine Qe rfl rfl (fun K2 hK2 => ?_)
         refine Q0 54 rfl _ _ (Zq _) rfl ?_
         intro ga w_t2 hga ra bx
         refine hK2 _ _ ?_
         clear hK2 K2
         simp only [Act.put, Qa, Qb, Qc]
         have bw := bx.mono hga
         have lw : B ≤ w_t1.heap.size := sz _ hS
         have la : B ≤ ga := Nat.le_trans lw hga
         have r7 := r7.below bw r7.lt
         have hS := sB _ _ hS (bw.mono lw)
         clear bw lw bx hga
         refine ⟨hS, ?_⟩
         (refine wpAnyH_all (rs := [2]) (by kernel_rfl) (by simp) (fun i hi => ?_); obtain rfl : i = 2 := by simpa using hi)
         refine Qe rfl rfl (fun K2 hK2 => ?_)
         refine Qj (.slice (some ⟨w_t2.heap.size, 0, none⟩) 0 0) (w1 := w_t2.alloc (.cells #[] 22)) (by exact Qn [] rfl (mk0 w_t2)) ?_
         refine hK2 _ _ ?_
         clear hK2 K2
         simp only [Act.put, Qa, Qb, Qc]
         have bw := (Below.refl w_t2.heap.size w_t2).alloc (Nat.le_refl _) (.cells #[] 22)
         have lw : B ≤ w_t2.heap.size := sz _ hS
         have nr := Row.new w_t2 22 #[]
         obtain ⟨g2, hg2⟩ : ∃ g, g = w_t2.heap.size := ⟨_, rfl⟩
         have ne27 : g2 ≠ g7 := by have := r7.lt; omega
         have r7 := r7.below bw r7.lt
         have ra := ra.below bw ra.lt
         have own2 : (w_t2.alloc (.cells #[] 22)).ownsRow B 22 1 (.slice (some ⟨g2, 0, none⟩) 0 0) 0 [] := by rw [hg2]; exact ZY lw nr
         have hS := sB _ _ hS (bw.mono lw)
         rw [← hg2]
         have r2l : g2 < (w_t2.alloc (.cells #[] 22)).heap.size := by rw [hg2]; simp
         clear nr bw lw hg2
         generalize w_t2.alloc (.cells #[] 22) = w_t3 at *
         refine ⟨hS, ?_⟩
         (refine wpAnyH_all (rs := [4]) (by kernel_rfl) (by simp) (fun i hi => ?_); obtain rfl : i = 4 := by simpa using hi)
         refine Qe rfl rfl (fun K2 hK2 => ?_)
         obtain ⟨v5, w_t4, hrun, own5, hgr, hat⟩ := app5 w_t3 hS own2
         refine Qj v5 (w1 := w_t4) (by exact Qq rfl hrun) ?_
         refine hK2 _ _ ?_
         clear hK2 K2
         simp only [Act.put, Qa, Qb, Qc]
         have lw : B ≤ w_t3.heap.size := sz _ hS
         have bw := Qm (Below.refl B w_t3) own2 hgr lw (Nat.le_refl _)
         have ra := ra.grown hgr (Qz own2 ra (by decide))
         have ne57 : v5.ownBlock ≠ some g7 := by rcases hat with h | h <;> rw [h] <;> intro e <;> simp [Value.ownBlock] at e <;> (have := r7.lt; omega)
         have r7 := r7.grown hgr (by simp [Value.ownBlock]; exact ne27)
         have hS := sB _ _ hS bw
         clear bw lw hrun hgr hat own2
         refine ⟨hS, ?_⟩
         exact tB g2 v5 g7 ga _ ⟨hS, own5, r7, ne57, ra, la⟩
     · skip
       refine Qe rfl rfl (fun K2 hK2 => ?_)
       refine Q0 54 rfl _ _ (Zq _) rfl ?_
       intro ga w_t1 hga ra bx
       refine hK2 _ _ ?_
       clear hK2 K2
       simp only [Act.put, Qa, Qb, Qc]
       have bw := bx.mono hga
       have lw : B ≤ w_t0.heap.size := sz _ hS
       have la : B ≤ ga := Nat.le_trans lw hga
       have hS := sB _ _ hS (bw.mono lw)
       clear bw lw bx hga
       refine ⟨hS, ?_⟩
       refine wpAnyH_all (rs := [2, 6]) (by kernel_rfl) (by simp) (fun i hi => ?_)
       simp only [List.mem_cons, List.not_mem_nil, or_false] at hi
       rcases hi with rfl | rfl
       · skip
         refine Qe rfl rfl (fun K2 hK2 => ?_)
         refine Qj (.slice (some ⟨w_t1.heap.size, 0, none⟩) 0 0) (w1 := w_t1.alloc (.cells #[] 22)) (by exact Qn [] rfl (mk0 w_t1)) ?_
         refine hK2 _ _ ?_
         clear hK2 K2
         simp only [Act.put, Qa, Qb, Qc]
         have bw := (Below.refl w_t1.heap.size w_t1).alloc (Nat.le_refl _) (.cells #[] 22)
         have lw : B ≤ w_t1.heap.size := sz _ hS
         have nr := Row.new w_t1 22 #[]
         obtain ⟨g2, hg2⟩ : ∃ g, g = w_t1.heap.size := ⟨_, rfl⟩
         have ra := ra.below bw ra.lt
         have own2 : (w_t1.alloc (.cells #[] 22)).ownsRow B 22 1 (.slice (some ⟨g2, 0, none⟩) 0 0) 0 [] := by rw [hg2]; exact ZY lw nr
         have hS := sB _ _ hS (bw.mono lw)
         rw [← hg2]
         have r2l : g2 < (w_t1.alloc (.cells #[] 22)).heap.size := by rw [hg2]; simp
         clear nr bw lw hg2
         generalize w_t1.alloc (.cells #[] 22) = w_t2 at *
         refine ⟨hS, ?_⟩
         refine wpAnyH_all (rs := [4, 6]) (by kernel_rfl) (by simp) (fun i hi => ?_)
         simp only [List.mem_cons, List.not_mem_nil, or_false] at hi
         rcases hi with rfl | rfl
         · skip
           refine Qe rfl rfl (fun K2 hK2 => ?_)
           obtain ⟨v5, w_t3, hrun, own5, hgr, hat⟩ := app5 w_t2 hS own2
           refine Qj v5 (w1 := w_t3) (by exact Qq rfl hrun) ?_
           refine hK2 _ _ ?_
           clear hK2 K2
           simp only [Act.put, Qa, Qb, Qc]
           have lw : B ≤ w_t2.heap.size := sz _ hS
           have bw := Qm (Below.refl B w_t2) own2 hgr lw (Nat.le_refl _)
           have ra := ra.grown hgr (Qz own2 ra (by decide))
           have hS := sB _ _ hS bw
           clear bw lw hrun hgr hat own2
           refine ⟨hS, ?_⟩
           (refine wpAnyH_all (rs := [6]) (by kernel_rfl) (by simp) (fun i hi => ?_); obtain rfl : i = 6 := by simpa using hi)
           refine Qe rfl rfl (fun K2 hK2 => ?_)
           refine Qj (.slice (some ⟨w_t3.heap.size, 0, none⟩) 1 1) (w1 := w_t3.alloc (.cells #[.slice gA gl.length gc] 22)) (by exact Qn [(0, .tmp 52)] rfl (mk1 w_t3)) ?_
           refine hK2 _ _ ?_
           clear hK2 K2
           simp only [Act.put, Qa, Qb, Qc]
           have bw := (Below.refl w_t3.heap.size w_t3).alloc (Nat.le_refl _) (.cells #[.slice gA gl.length gc] 22)
           have lw : B ≤ w_t3.heap.size := sz _ hS
           have nr := Row.new w_t3 22 #[.slice gA gl.length gc]
           obtain ⟨g7, hg7⟩ : ∃ g, g = w_t3.heap.size := ⟨_, rfl⟩
           have ne57 : v5.ownBlock ≠ some g7 := fun e => by have := (own5.lt _ e).2; omega
           have own5 := Qs own5 bw
           have ra := ra.below bw ra.lt
           have r7 : Row (w_t3.alloc (.cells #[.slice gA gl.length gc] 22)) g7 22 #[.slice gA gl.length gc] := by rw [hg7]; exact nr
           have hS := sB _ _ hS (bw.mono lw)
           rw [← hg7]
           clear nr bw lw hg7
           generalize w_t3.alloc (.cells #[.slice gA gl.length gc] 22) = w_t4 at *
           refine ⟨hS, ?_⟩
           exact tB g2 v5 g7 ga _ ⟨hS, own5, r7, ne57, ra, la⟩
         · skip
           refine Qe rfl rfl (fun K2 hK2 => ?_)
           refine Qj (.slice (some ⟨w_t2.heap.size, 0, none⟩) 1 1) (w1 := w_t2.alloc (.cells #[.slice gA gl.length gc] 22)) (by exact Qn [(0, .tmp 52)] rfl (mk1 w_t2)) ?_
           refine hK2 _ _ ?_
           clear hK2 K2
           simp only [Act.put, Qa, Qb, Qc]
           have bw := (Below.refl w_t2.heap.size w_t2).alloc (Nat.le_refl _) (.cells #[.slice gA gl.length gc] 22)
           have lw : B ≤ w_t2.heap.size := sz _ hS
           have nr := Row.new w_t2 22 #[.slice gA gl.length gc]
           obtain ⟨g7, hg7⟩ : ∃ g, g = w_t2.heap.size := ⟨_, rfl⟩
           have ne27 : g2 ≠ g7 := by have := r2l; omega
           have own2 := Qs own2 bw
           have ra := ra.below bw ra.lt
           have r7 : Row (w_t2.alloc (.cells #[.slice gA gl.length gc] 22)) g7 22 #[.slice gA gl.length gc] := by rw [hg7]; exact nr
           have hS := sB _ _ hS (bw.mono lw)
           rw [← hg7]
           clear nr bw lw hg7
           generalize w_t2.alloc (.cells #[.slice gA gl.length gc] 22) = w_t3 at *
           refine ⟨hS, ?_⟩
           (refine wpAnyH_all (rs := [4]) (by kernel_rfl) (by simp) (fun i hi => ?_); obtain rfl : i = 4 := by simpa using hi)
           refine Qe rfl rfl (fun K2 hK2 => ?_)
           obtain ⟨v5, w_t4, hrun, own5, hgr, hat⟩ := app5 w_t3 hS own2
           refine Qj v5 (w1 := w_t4) (by exact Qq rfl hrun) ?_
           refine hK2 _ _ ?_
           clear hK2 K2
           simp only [Act.put, Qa, Qb, Qc]
           have lw : B ≤ w_t3.heap.size := sz _ hS
           have bw := Qm (Below.refl B w_t3) own2 hgr lw (Nat.le_refl _)
           have ra := ra.grown hgr (Qz own2 ra (by decide))
           have ne57 : v5.ownBlock ≠ some g7 := by rcases hat with h | h <;> rw [h] <;> intro e <;> simp [Value.ownBlock] at e <;> (have := r7.lt; omega)
           have r7 := r7.grown hgr (by simp [Value.ownBlock]; exact ne27)
           have hS := sB _ _ hS bw
           clear bw lw hrun hgr hat own2
           refine ⟨hS, ?_⟩
           exact tB g2 v5 g7 ga _ ⟨hS, own5, r7, ne57, ra, la⟩
       · skip
         refine Qe rfl rfl (fun K2 hK2 => ?_)
         refine Qj (.slice (some ⟨w_t1.heap.size, 0, none⟩) 1 1) (w1 := w_t1.alloc (.cells #[.slice gA gl.length gc] 22)) (by exact Qn [(0, .tmp 52)] rfl (mk1 w_t1)) ?_
         refine hK2 _ _ ?_
         clear hK2 K2
         simp only [Act.put, Qa, Qb, Qc]
         have bw := (Below.refl w_t1.heap.size w_t1).alloc (Nat.le_refl _) (.cells #[.slice gA gl.length gc] 22)
         have lw : B ≤ w_t1.heap.size := sz _ hS
         have nr := Row.new w_t1 22 #[.slice gA gl.length gc]
         obtain ⟨g7, hg7⟩ : ∃ g, g = w_t1.heap.size := ⟨_, rfl⟩
         have ra := ra.below bw ra.lt
         have r7 : Row (w_t1.alloc (.cells #[.slice gA gl.length gc] 22)) g7 22 #[.slice gA gl.length gc] := by rw [hg7]; exact nr
         have hS := sB _ _ hS (bw.mono lw)
         rw [← hg7]
         clear nr bw lw hg7
         generalize w_t1.alloc (.cells #[.slice gA gl.length gc] 22) = w_t2 at *
         refine ⟨hS, ?_⟩
         (refine wpAnyH_all (rs := [2]) (by kernel_rfl) (by simp) (fun i hi => ?_); obtain rfl : i = 2 := by simpa using hi)
         refine Qe rfl rfl (fun K2 hK2 => ?_)
         refine Qj (.slice (some ⟨w_t2.heap.size, 0, none⟩) 0 0) (w1 := w_t2.alloc (.cells #[] 22)) (by exact Qn [] rfl (mk0 w_t2)) ?_
         refine hK2 _ _ ?_
         clear hK2 K2
         simp only [Act.put, Qa, Qb, Qc]
         have bw := (Below.refl w_t2.heap.size w_t2).alloc (Nat.le_refl _) (.cells #[] 22)
         have lw : B ≤ w_t2.heap.size := sz _ hS
         have nr := Row.new w_t2 22 #[]
         obtain ⟨g2, hg2⟩ : ∃ g, g = w_t2.heap.size := ⟨_, rfl⟩
         have ne27 : g2 ≠ g7 := by have := r7.lt; omega
         have r7 := r7.below bw r7.lt
         have ra := ra.below bw ra.lt
         have own2 : (w_t2.alloc (.cells #[] 22)).ownsRow B 22 1 (.slice (some ⟨g2, 0, none⟩) 0 0) 0 [] := by rw [hg2]; exact ZY lw nr
         have hS := sB _ _ hS (bw.mono lw)
         rw [← hg2]
         have r2l : g2 < (w_t2.alloc (.cells #[] 22)).heap.size := by rw [hg2]; simp
         clear nr bw lw hg2
         generalize w_t2.alloc (.cells #[] 22) = w_t3 at *
         refine ⟨hS, ?_⟩
         (refine wpAnyH_all (rs := [4]) (by kernel_rfl) (by simp) (fun i hi => ?_); obtain rfl : i = 4 := by simpa using hi)
         refine Qe rfl rfl (fun K2 hK2 => ?_)
         obtain ⟨v5, w_t4, hrun, own5, hgr, hat⟩ := app5 w_t3 hS own2
         refine Qj v5 (w1 := w_t4) (by exact Qq rfl hrun) ?_
         refine hK2 _ _ ?_
         clear hK2 K2
         simp only [Act.put, Qa, Qb, Qc]
         have lw : B ≤ w_t3.heap.size := sz _ hS
         have bw := Qm (Below.refl B w_t3) own2 hgr lw (Nat.le_refl _)
         have ra := ra.grown hgr (Qz own2 ra (by decide))
         have ne57 : v5.ownBlock ≠ some g7 := by rcases hat with h | h <;> rw [h] <;> intro e <;> simp [Value.ownBlock] at e <;> (have := r7.lt; omega)
         have r7 := r7.grown hgr (by simp [Value.ownBlock]; exact ne27)
         have hS := sB _ _ hS bw
         clear bw lw hrun hgr hat own2
         refine ⟨hS, ?_⟩
         exact tB g2 v5 g7 ga _ ⟨hS, own5, r7, ne57, ra, la⟩
    case tail =>
     rintro g2 v5 g7 w_t0 ⟨hS, own5, r7, ne57⟩
     refine wpAnyH_all (rs := [7, 13]) (by kernel_rfl) (by simp) (fun i hi => ?_)
     simp only [List.mem_cons, List.not_mem_nil, or_false] at hi
     rcases hi with rfl | rfl
     · skip
       refine Qe rfl rfl (fun K2 hK2 => ?_)
       obtain ⟨v8, w_t1, hrun, own8, hgr, hat⟩ := app8 w_t0 g7 own5 r7 (sz _ hS)
       refine Qj v8 (w1 := w_t1) (by exact Qq rfl hrun) ?_
       refine hK2 _ _ ?_
       clear hK2 K2
       simp only [Act.put, Qa, Qb, Qc]
       have lw : B ≤ w_t0.heap.size := sz _ hS
       have bw := Qm (Below.refl B w_t0) own5 hgr lw (Nat.le_refl _)
       have hS := sB _ _ hS bw
       clear bw lw hrun hgr hat own5
       clear r7 ne57
       refine ⟨hS, ?_⟩
       obtain ⟨g8, cap8, rfl⟩ := Aaj own8
       refine wpAnyH_all (rs := [9, 13]) (by kernel_rfl) (by simp) (fun i hi => ?_)
       simp only [List.mem_cons, List.not_mem_nil, or_false] at hi
       rcases hi with rfl | rfl
       · skip
         refine Qe rfl rfl (fun K2 hK2 => ?_)
         have hj := Jg p ⟨xA, xc, d⟩ (some ⟨g8, 0, none⟩) cap8 (ts ++ [(⟨gA, gc, gl⟩ : IntsV)]) fuel w_t1 (F_okp.out _ (D1.out _ (D2.out _ (D3.out _ (D4.out _ (t0 _ hS)))))) ⟨(F_rdx.out _ (D1.out _ (D2.out _ (D3.out _ (D4.out _ (t0 _ hS)))))), Hd.out⟩ (by have := Hbl.out; omega) (by rw [AcM]; exact KT own8) (fun x hx => by rcases List.mem_append.1 hx with hx | hx; exact (F_okt.out _ (D1.out _ (D2.out _ (D3.out _ (D4.out _ (t0 _ hS)))))) x hx; rw [List.mem_singleton.1 hx]; exact (F_okg.out _ (D1.out _ (D2.out _ (D3.out _ (D4.out _ (t0 _ hS))))))) (by rw [List.length_append, List.length_singleton]; have := Htl.out; omega)
         rw [List.length_append, List.length_singleton] at hj
         refine Qx 29 #[.agg p.cells, .agg #[.slice xA d.path.length xc, .int .i64 d.op, .int .i64 d.n], .slice (some ⟨g8, 0, none⟩) (ts.length + 1) cap8, .int .i64 fuel] (w1 := w_t1) (by go_simp) (hj.mono ?_)
         rintro e w_t2 ⟨y, rfl, hy, -, bb⟩
         refine ⟨_, rfl, ?_⟩
         refine hK2 _ _ ?_
         clear hK2 K2 hj
         simp only [Act.put, Qa, Qb, Qc]
         have okB : QQ p d (List.map IntsV.l (ts ++ [(⟨gA, gc, gl⟩ : IntsV)])) fuel = 0 → MtT w_t2 y := fun h => (hy h).2
         have hcB : QQ p d (List.map IntsV.l (ts ++ [(⟨gA, gc, gl⟩ : IntsV)])) fuel = 0 → y.m = Kn p d (List.map IntsV.l (ts ++ [(⟨gA, gc, gl⟩ : IntsV)])) fuel := fun h => (hy h).1
         clear hy
         have hS := sB _ _ hS (bb.mono (sz _ hS))
         clear bb own8
         refine ⟨hS, ?_⟩
         (refine tkH 10 (.tuple #[.agg y.cells.toArray, (.int .i64 (QQ p d (List.map IntsV.l (ts ++ [(⟨gA, gc, gl⟩ : IntsV)])) fuel))]) rfl (Qd rfl (fun W hW => by (go_simp))) ?_; simp only [Act.put, Qa, Qb, Qc])
         (refine tkH 11 (.agg y.cells.toArray) rfl (Qd rfl (fun W hW => by (go_simp))) ?_; simp only [Act.put, Qa, Qb, Qc])
         (refine tkH 12 ((.int .i64 (QQ p d (List.map IntsV.l (ts ++ [(⟨gA, gc, gl⟩ : IntsV)])) fuel))) rfl (Qd rfl (fun W hW => by (go_simp))) ?_; simp only [Act.put, Qa, Qb, Qc])
         (refine wpAnyH_all (rs := [13]) (by kernel_rfl) (by simp) (fun i hi => ?_); obtain rfl : i = 13 := by simpa using hi)
         refine Qe rfl rfl (fun K2 hK2 => ?_)
         refine Q0 54 rfl _ _ (Zq _) rfl ?_
         intro ga w_t3 hga ra bx
         refine hK2 _ _ ?_
         clear hK2 K2
         simp only [Act.put, Qa, Qb, Qc]
         have bw := bx.mono hga
         have lw : B ≤ w_t2.heap.size := sz _ hS
         have la : B ≤ ga := Nat.le_trans lw hga
         have okB := fun h => (okB h).go bw
         have hS := sB _ _ hS (bw.mono lw)
         clear bw lw bx hga
         refine ⟨hS, ?_⟩
         (refine wpAnyH_all (rs := [14]) (by kernel_rfl) (by simp) (fun i hi => ?_); obtain rfl : i = 14 := by simpa using hi)
         refine Qe rfl rfl (fun K2 hK2 => ?_)
         refine ZM 54 _ _ rfl ga y.cells.toArray rfl rfl 54 _ ra (by kernel_rfl) rfl (by simp [MtV.cells, Value.oneCell']) ?_
         intro wz rz oz
         refine hK2 _ _ ?_
         clear hK2 K2
         simp only [Act.put, Qa, Qb, Qc]
         have hS := sB _ _ hS (oz.below la)
         have okB := fun h => YJ (okB h) ra (by decide) oz
         refine ⟨hS, ?_⟩
         (refine tkH 15 ((.int .i64 (QQ p d (List.map IntsV.l (ts ++ [(⟨gA, gc, gl⟩ : IntsV)])) fuel))) rfl (Qd rfl (fun W hW => by (go_simp))) ?_; simp only [Act.put, Qa, Qb, Qc])
         refine wpAnyH_done (by kernel_rfl) ?_ _
         exact ⟨g2, v5, g7, g8, cap8, ga, y, rfl, t0 _ hS, rz, okB, hcB⟩
       · skip
         refine Qe rfl rfl (fun K2 hK2 => ?_)
         refine Q0 54 rfl _ _ (Zq _) rfl ?_
         intro ga w_t2 hga ra bx
         refine hK2 _ _ ?_
         clear hK2 K2
         simp only [Act.put, Qa, Qb, Qc]
         have bw := bx.mono hga
         have lw : B ≤ w_t1.heap.size := sz _ hS
         have la : B ≤ ga := Nat.le_trans lw hga
         have own8 := Qs own8 bw
         have hS := sB _ _ hS (bw.mono lw)
         clear bw lw bx hga
         refine ⟨hS, ?_⟩
         exact tC g2 v5 g7 g8 cap8 ga _ ⟨hS, own8, ra, la⟩
     · skip
       refine Qe rfl rfl (fun K2 hK2 => ?_)
       refine Q0 54 rfl _ _ (Zq _) rfl ?_
       intro ga w_t1 hga ra bx
       refine hK2 _ _ ?_
       clear hK2 K2
       simp only [Act.put, Qa, Qb, Qc]
       have bw := bx.mono hga
       have lw : B ≤ w_t0.heap.size := sz _ hS
       have la : B ≤ ga := Nat.le_trans lw hga
       have own5 := Qs own5 bw
       have r7 := r7.below bw r7.lt
       have hS := sB _ _ hS (bw.mono lw)
       clear bw lw bx hga
       refine ⟨hS, ?_⟩
       exact tB g2 v5 g7 ga _ ⟨hS, own5, r7, ne57, ra, la⟩
   case tail =>
    rintro g2 v5 g7 ga w_t0 ⟨hS, own5, r7, ne57, ra, la⟩
    (refine wpAnyH_all (rs := [7]) (by kernel_rfl) (by simp) (fun i hi => ?_); obtain rfl : i = 7 := by simpa using hi)
    refine Qe rfl rfl (fun K2 hK2 => ?_)
    obtain ⟨v8, w_t1, hrun, own8, hgr, hat⟩ := app8 w_t0 g7 own5 r7 (sz _ hS)
    refine Qj v8 (w1 := w_t1) (by exact Qq rfl hrun) ?_
    refine hK2 _ _ ?_
    clear hK2 K2
    simp only [Act.put, Qa, Qb, Qc]
    have lw : B ≤ w_t0.heap.size := sz _ hS
    have bw := Qm (Below.refl B w_t0) own5 hgr lw (Nat.le_refl _)
    have ra := ra.grown hgr (Qz own5 ra (by decide))
    have hS := sB _ _ hS bw
    clear bw lw hrun hgr hat own5
    clear r7 ne57
    refine ⟨hS, ?_⟩
    obtain ⟨g8, cap8, rfl⟩ := Aaj own8
    exact tC g2 v5 g7 g8 cap8 ga _ ⟨hS, own8, ra, la⟩
  case tail =>
   rintro g2 v5 g7 g8 cap8 ga w_t0 ⟨hS, own8, ra, la⟩
   (refine wpAnyH_all (rs := [9]) (by kernel_rfl) (by simp) (fun i hi => ?_); obtain rfl : i = 9 := by simpa using hi)
   refine Qe rfl rfl (fun K2 hK2 => ?_)
   have hj := Jg p ⟨xA, xc, d⟩ (some ⟨g8, 0, none⟩) cap8 (ts ++ [(⟨gA, gc, gl⟩ : IntsV)]) fuel w_t0 (F_okp.out _ (D1.out _ (D2.out _ (D3.out _ (D4.out _ (t0 _ hS)))))) ⟨(F_rdx.out _ (D1.out _ (D2.out _ (D3.out _ (D4.out _ (t0 _ hS)))))), Hd.out⟩ (by have := Hbl.out; omega) (by rw [AcM]; exact KT own8) (fun x hx => by rcases List.mem_append.1 hx with hx | hx; exact (F_okt.out _ (D1.out _ (D2.out _ (D3.out _ (D4.out _ (t0 _ hS)))))) x hx; rw [List.mem_singleton.1 hx]; exact (F_okg.out _ (D1.out _ (D2.out _ (D3.out _ (D4.out _ (t0 _ hS))))))) (by rw [List.length_append, List.length_singleton]; have := Htl.out; omega)
   rw [List.length_append, List.length_singleton] at hj
   refine Qx 29 #[.agg p.cells, .agg #[.slice xA d.path.length xc, .int .i64 d.op, .int .i64 d.n], .slice (some ⟨g8, 0, none⟩) (ts.length + 1) cap8, .int .i64 fuel] (w1 := w_t0) (by go_simp) (hj.mono ?_)
   rintro e w_t1 ⟨y, rfl, hy, -, bb⟩
   refine ⟨_, rfl, ?_⟩
   refine hK2 _ _ ?_
   clear hK2 K2 hj
   simp only [Act.put, Qa, Qb, Qc]
   have okB : QQ p d (List.map IntsV.l (ts ++ [(⟨gA, gc, gl⟩ : IntsV)])) fuel = 0 → MtT w_t1 y := fun h => (hy h).2
   have hcB : QQ p d (List.map IntsV.l (ts ++ [(⟨gA, gc, gl⟩ : IntsV)])) fuel = 0 → y.m = Kn p d (List.map IntsV.l (ts ++ [(⟨gA, gc, gl⟩ : IntsV)])) fuel := fun h => (hy h).1
   clear hy
   have ra := ra.below bb ra.lt
   have hS := sB _ _ hS (bb.mono (sz _ hS))
   clear bb own8
   refine ⟨hS, ?_⟩
   (refine tkH 10 (.tuple #[.agg y.cells.toArray, (.int .i64 (QQ p d (List.map IntsV.l (ts ++ [(⟨gA, gc, gl⟩ : IntsV)])) fuel))]) rfl (Qd rfl (fun W hW => by (go_simp))) ?_; simp only [Act.put, Qa, Qb, Qc])
   (refine tkH 11 (.agg y.cells.toArray) rfl (Qd rfl (fun W hW => by (go_simp))) ?_; simp only [Act.put, Qa, Qb, Qc])
   (refine tkH 12 ((.int .i64 (QQ p d (List.map IntsV.l (ts ++ [(⟨gA, gc, gl⟩ : IntsV)])) fuel))) rfl (Qd rfl (fun W hW => by (go_simp))) ?_; simp only [Act.put, Qa, Qb, Qc])
   (refine wpAnyH_all (rs := [14]) (by kernel_rfl) (by simp) (fun i hi => ?_); obtain rfl : i = 14 := by simpa using hi)
   refine Qe rfl rfl (fun K2 hK2 => ?_)
   refine ZM 54 _ _ rfl ga y.cells.toArray rfl rfl 54 _ ra (by kernel_rfl) rfl (by simp [MtV.cells, Value.oneCell']) ?_
   intro wz rz oz
   refine hK2 _ _ ?_
   clear hK2 K2
   simp only [Act.put, Qa, Qb, Qc]
   have hS := sB _ _ hS (oz.below la)
   have okB := fun h => YJ (okB h) ra (by decide) oz
   refine ⟨hS, ?_⟩
   (refine tkH 15 ((.int .i64 (QQ p d (List.map IntsV.l (ts ++ [(⟨gA, gc, gl⟩ : IntsV)])) fuel))) rfl (Qd rfl (fun W hW => by (go_simp))) ?_; simp only [Act.put, Qa, Qb, Qc])
   refine wpAnyH_done (by kernel_rfl) ?_ _
   exact ⟨g2, v5, g7, g8, cap8, ga, y, rfl, t0 _ hS, rz, okB, hcB⟩
 case cont =>
  rintro g2 v5 g7 g8 cap8 ga yB V9 ⟨hprev, rB, okB, hcB⟩
  obtain ⟨S5, hSd⟩ : ∃ S : World → Prop, S = (fun W => S4 W ∧ Row W ga 54 yB.cells.toArray ∧ (QQ p d (List.map IntsV.l (ts ++ [(⟨gA, gc, gl⟩ : IntsV)])) fuel = 0 → MtT W yB)) := ⟨_, rfl⟩
  have st5 : St S5 := by rw [hSd]; infer_instance
  have D5 : Hid (∀ W, S5 W → S4 W) := by show ∀ W, _; rw [hSd]; exact fun W h => h.1
  have F_B : Hid (∀ W, S5 W → Row W ga 54 yB.cells.toArray) := by show ∀ W, _; rw [hSd]; exact fun W h => h.2.1
  have F_okB : Hid (∀ W, S5 W → (QQ p d (List.map IntsV.l (ts ++ [(⟨gA, gc, gl⟩ : IntsV)])) fuel = 0 → MtT W yB)) := by show ∀ W, _; rw [hSd]; exact fun W h => h.2.2
  have HS5 : Hid (S5 V9) := by show S5 V9; rw [hSd]; exact ⟨hprev, rB, okB⟩
  clear hSd
  have HCB := Lh hcB
  clear hprev rB okB hcB HS4
  by_cases hc : QQ p d (List.map IntsV.l ts) fuel = 0
  rotate_left
  · have hc2 : (QQ p d (List.map IntsV.l ts) fuel != 0) = true := by simpa using hc
    go_wp2_with fail
    go_ret
    exact ⟨rfl, (F_low.out _ (D1.out _ (D2.out _ (D3.out _ (D4.out _ (D5.out _ HS5.out))))))⟩
  have hc3 : QQ p d (List.map IntsV.l (ts ++ [(⟨gA, gc, gl⟩ : IntsV)])) fuel = 0 := by rw [List.map_append]; exact Ae4 hc Hgp.out (by rw [List.length_map]; exact Htl.out)
  have hmore : (yA.m.verdict = 1 → yB.m = yA.m) ∧ (yB.m = yA.m ∨ (yB.m.verdict = 1 ∧ yB.m.test = ts.length) ∨ (yA.m.verdict = 0 ∧ yB.m.verdict = 2 ∧ yB.m.test = ts.length)) := by
   rw [HCA.out hc, HCB.out hc3, List.map_append]
   have h := Adr (f := rnZ p fuel) (g := rnZ (XE p d) fuel) (d := d) (ts := List.map IntsV.l ts) gl
   rw [List.length_map] at h
   exact h
  have OA : Hid (∀ W, S5 W → MtOk W yA) := by show ∀ W, _; exact fun W hW => ((F_okA.out _ (D4.out _ (D5.out _ hW))) hc).1
  have OB : Hid (∀ W, S5 W → MtOk W yB) := by show ∀ W, _; exact fun W hW => ((F_okB.out _ hW) hc3).1
  rw [hc, hc3]
  have Hm := Lh hmore
  clear hmore hc hc3 HYA HCA HCB hy hy0
  have cA3 := (F_A.out _ (D5.out _ HS5.out)).cellv (i := 3) (v := .int .i64 yA.m.verdict) rfl
  by_cases hv : yA.m.verdict = 1
  · have hv2 : (yA.m.verdict == 1) = true := by simpa using hv
    have Hs : Hid (Kq yA.m yB.m = true) := sameM_iff.2 (Hm.out.1 hv).symm
    go_wp2_with (first | (refine Zj rfl 54 _ rfl G_8 rfl 54 yA.cells.toArray (0, 0) _ (F_A.out _ (D5.out _ HS5.out)) Tryz.underlying54 rfl (by kernel_rfl) ?_) | (refine Zj rfl 54 _ rfl ga rfl 54 yB.cells.toArray (0, 0) _ (F_B.out _ HS5.out) Tryz.underlying54 rfl (by kernel_rfl) ?_))
    refine (KG yA yB V9 (OA.out _ HS5.out) (OB.out _ HS5.out)).mono ?_
    rintro e w_11 ⟨rfl, bb⟩
    have hprev := st5.go HS5.out (bb)
    replace HS5 := Lh hprev
    clear hprev bb
    clear cA3
    rw [Hs.out]
    go_wp2_with fail
    go_ret
    exact ⟨rfl, (F_low.out _ (D1.out _ (D2.out _ (D3.out _ (D4.out _ (D5.out _ HS5.out))))))⟩
  have hv2 : (yA.m.verdict == 1) = false := by simpa using hv
  have cB3 := (F_B.out _ HS5.out).cellv (i := 3) (v := .int .i64 yB.m.verdict) rfl
  have cB4 := (F_B.out _ HS5.out).cellv (i := 4) (v := .int .i64 yB.m.test) rfl
  by_cases h1 : yB.m.verdict = 1 ∧ yB.m.test = ts.length
  · have b1 : (yB.m.verdict == 1) = true := by simpa using h1.1
    have b2 : (yB.m.test == (ts.length : Int)) = true := by simpa using h1.2
    go_wp2_with fail
    go_ret
    exact ⟨rfl, (F_low.out _ (D1.out _ (D2.out _ (D3.out _ (D4.out _ (D5.out _ HS5.out))))))⟩
  by_cases h2 : yA.m.verdict = 0 ∧ yB.m.verdict = 2 ∧ yB.m.test = ts.length
  · have b1 : (yB.m.verdict == 1) = false := by rw [h2.2.1]; decide
    have b2 : (yB.m.test == (ts.length : Int)) = true := by simpa using h2.2.2
    have b3 : (yA.m.verdict == 0) = true := by simpa using h2.1
    have b4 : (yB.m.verdict == 2) = true := by simpa using h2.2.1
    go_wp2_with fail
    go_ret
    exact ⟨rfl, (F_low.out _ (D1.out _ (D2.out _ (D3.out _ (D4.out _ (D5.out _ HS5.out))))))⟩
  have hs : yB.m = yA.m := by rcases Hm.out.2 with h | h | h; exact h; exact absurd h h1; exact absurd h h2
  have Hs : Hid (Kq yA.m yB.m = true) := sameM_iff.2 hs.symm
  have b1 : (yB.m.verdict == 1) = false := by rw [hs]; exact hv2
  by_cases h3 : yA.m.verdict = 0
  · have b3 : (yA.m.verdict == 0) = true := by simpa using h3
    have b4 : (yB.m.verdict == 2) = false := by rw [hs, h3]; decide
    go_wp2_with (first | (refine Zj rfl 54 _ rfl G_8 rfl 54 yA.cells.toArray (0, 0) _ (F_A.out _ (D5.out _ HS5.out)) Tryz.underlying54 rfl (by kernel_rfl) ?_) | (refine Zj rfl 54 _ rfl ga rfl 54 yB.cells.toArray (0, 0) _ (F_B.out _ HS5.out) Tryz.underlying54 rfl (by kernel_rfl) ?_))
    refine (KG yA yB V9 (OA.out _ HS5.out) (OB.out _ HS5.out)).mono ?_
    rintro e w_12 ⟨rfl, bb⟩
    have hprev := st5.go HS5.out (bb)
    replace HS5 := Lh hprev
    clear hprev bb
    clear cA3 cB3 cB4
    rw [Hs.out]
    go_wp2_with fail
    go_ret
    exact ⟨rfl, (F_low.out _ (D1.out _ (D2.out _ (D3.out _ (D4.out _ (D5.out _ HS5.out))))))⟩
  have b3 : (yA.m.verdict == 0) = false := by simpa using h3
  go_wp2_with (first | (refine Zj rfl 54 _ rfl G_8 rfl 54 yA.cells.toArray (0, 0) _ (F_A.out _ (D5.out _ HS5.out)) Tryz.underlying54 rfl (by kernel_rfl) ?_) | (refine Zj rfl 54 _ rfl ga rfl 54 yB.cells.toArray (0, 0) _ (F_B.out _ HS5.out) Tryz.underlying54 rfl (by kernel_rfl) ?_))
  refine (KG yA yB V9 (OA.out _ HS5.out) (OB.out _ HS5.out)).mono ?_
  rintro e w_13 ⟨rfl, bb⟩
  have hprev := st5.go HS5.out (bb)
  replace HS5 := Lh hprev
  clear hprev bb
  clear cA3 cB3 cB4
  rw [Hs.out]
  go_wp2_with fail
  go_ret
  exact ⟨rfl, (F_low.out _ (D1.out _ (D2.out _ (D3.out _ (D4.out _ (D5.out _ HS5.out))))))⟩
end Go.Proofs.YtdcmppdhdcjpfaaGreat
