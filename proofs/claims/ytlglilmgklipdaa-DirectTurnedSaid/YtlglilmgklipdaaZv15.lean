/- Lemmas for DirectTurnedP. -/
import Derived.Test.YtlglilmgklipdaaZv14
import Derived.Test.YtlglilmgklipdaaZv8
namespace Go.Proofs.Ytlglilmgklipdaa
set_option linter.unusedVariables false
open Go.RowKit Go.Deep
theorem rd_rowP {W : World} {g : Nat} {t : TypeId} {cs : List Value} (h : Row W g t cs.toArray) : Rd W (some ⟨g, 0, none⟩) cs := fun j u hj => ⟨_, rfl, by
 have := h.cellv (i := j) (v := u) (by simpa using hj)
 unfold Addr.add
 by_cases h0 : j = 0
 · subst h0; exact this
 · rw [if_neg h0]; simpa using this⟩
theorem info_nds : (Try.prog.info? 23).map (fun i => (i.zero, i.size)) = some (some (.slice none 0 0), 1) := by kernel_rfl
structure NdsR (l : List Nd) (w w' : World) (e : Ending) : Prop where
 ex : ∃ v, e = .returned v ∧ w'.ownsRow w.heap.size 44 2 v l.length (l.flatMap Nd.cells) ∧ Below w.heap.size w w'
set_option maxRecDepth 100000 in
set_option maxHeartbeats 2000000 in
theorem joined_any (A : Option Addr) (m cp : Nat) (ps : List PtV) (w : World) (hm : m = ps.length) (hr : Rd w A (ps.map PtV.val)) (hps : ∀ q ∈ ps, q.rd w) (hl : (partsL ps).length ≤ 1000000) (hml : m ≤ 1000) :
 Calls Try.prog 46 #[.slice A m cp] w (fun e w' => NdsR (partsL ps) w w' e) := by
 have Hc := Lib.hid (concat_any A m cp ps w hm hr hps hl hml)
 clear hm hr hps hl hml
 go_enter Try.func46, Try.ntmps46
 go_wp2_with fail
 refine Hc.out.mono ?_
 rintro e w1 ⟨v, rfl, hown, b1⟩
 obtain ⟨A3, c3, rfl⟩ := own_sl hown
 go_wp2
 go_ret
 exact ⟨_, rfl, hown, b1⟩
set_option maxRecDepth 100000 in
set_option maxHeartbeats 2000000 in
theorem part_any (A : Option Addr) (cap : Nat) (l : List Nd) (q : Nat) (t : Tr) (w : World) (hat : At l q t) (hr : Rd w A (l.flatMap Nd.cells)) (hl : l.length ≤ 1000) (hlc : l.length ≤ cap) (hcm : cap ≤ maxLen) :
 Calls Try.prog 28 #[.slice A l.length cap, .int .i64 (q : Int)] w (fun e w' => NdsR t.flat w w' e) := by
 have he := end_any A cap l (q : Int) w hr hl
 rw [hat.endZ] at he
 have hle := hat.le
 have hts := t.size_eq
 obtain ⟨ad, rfl, _⟩ := nd_at hr hat.root
 obtain ⟨rest, hrest⟩ := hat.here
 have hpart : ∀ W, Rd W (some ad) (l.flatMap Nd.cells) → Rd W (some (ad.add (q * 2))) (t.flat.flatMap Nd.cells) := by
  intro W h j u hj
  obtain ⟨ad', e, hc⟩ := h.part (q * 2) (t.flat.flatMap Nd.cells) (fun j u hj => by
   have h1 : l = l.take q ++ (t.flat ++ rest) := by rw [← hrest, List.take_append_drop]
   have h2 : (l.take q).length = q := by rw [List.length_take]; omega
   rw [h1, List.flatMap_append, List.getElem?_append_right (by rw [ndc_len, h2]; omega), ndc_len, h2, Nat.add_sub_cancel_left, List.flatMap_append, List.getElem?_append_left (List.getElem?_eq_some_iff.1 hj).1]
   exact hj) (by rw [t.flat_eq]; simp [Nd.cells])
  injection e with e
  subst e
  exact ⟨_, rfl, hc j u hj⟩
 have Hpart := Lib.hid hpart
 have He := Lib.hid he
 have Hr := Lib.hid hr
 have Hlen : Hid (t.flat.length = t.size) := rfl
 generalize hsz : t.size = sz at *
 have hcm' : (cap : Int) ≤ 9223372036854775807 := by unfold maxLen at hcm; omega
 have hq1 : (q : Int) ≤ ((q + sz : Nat) : Int) := by omega
 have hq2 : ((q + sz : Nat) : Int) ≤ (cap : Int) := by omega
 have hq3 : ¬ (((q + sz : Nat) : Int) < 0) := by omega
 have hs1 : (1 : Int) ≤ (sz : Int) := by omega
 clear he hr hpart hrest hat hts hsz
 go_enter Try.func28, Try.ntmps28
 go_wp2_with fail
 refine He.out.mono ?_
 rintro e w1 ⟨rfl, b1⟩
 have Hr1 := Lib.hid (Hr.out.go b1)
 have Hb1 := Lib.hid b1
 clear He Hr b1
 go_wp2_with (refine at_slice _ _ _ rfl ?_)
 refine Stop.to ?_
 have hv : PtV.val ⟨some (ad.add (q * 2)), cap - q, t.flat⟩ = .slice (some (ad.add (q * 2))) (q + sz - q) (cap - q) := by unfold PtV.val; rw [Hlen.out, Nat.add_sub_cancel_left]
 refine wpList_slice_gen rfl 104 1 _ rfl 23 #[PtV.val ⟨some (ad.add (q * 2)), cap - q, t.flat⟩] ?_ ?_
 · rw [hv]
   exact bs_run Try.underlying104 info_nds (by decide) (by decide) (by kernel_rfl)
 intro G w2 hG rG bG
 have b2 := Hb1.out.trans ((bG.mono hG).mono Hb1.out.size)
 have hj := joined_any (some ⟨G, 0, none⟩) 1 1 [⟨some (ad.add (q * 2)), cap - q, t.flat⟩] w2 rfl (rd_rowP (cs := [PtV.val ⟨some (ad.add (q * 2)), cap - q, t.flat⟩]) rG) (fun x hx => by
  rw [List.mem_singleton.1 hx]
  exact ⟨Hpart.out _ (Hr1.out.go (bG.mono hG)), fun e => by cases e⟩) (by simp [partsL]; have := Hlen.out; omega) (by omega)
 have Hj := Lib.hid hj
 have Hb2 := Lib.hid b2
 clear hj b2 rG bG hG Hr1 Hb1 Hpart hv
 go_wp2_with fail
 refine Hj.out.mono ?_
 rintro e w3 ⟨v, rfl, hown, b3⟩
 rw [show partsL [⟨some (ad.add (q * 2)), cap - q, t.flat⟩] = t.flat by simp [partsL]] at hown
 obtain ⟨A3, c3, rfl⟩ := own_sl hown
 go_wp2
 go_ret
 exact ⟨_, rfl, own_base hown Hb2.out.size, Hb2.out.trans (b3.mono Hb2.out.size)⟩
end Go.Proofs.Ytlglilmgklipdaa
namespace Go.Proofs.Ytlglilmgklipdaa
set_option linter.unusedVariables false
open Go.RowKit Go.Deep
def ndNe (x y : Nd) : Bool := !(x.tag == y.tag && x.n == y.n)
theorem ndNe_true {x y : Nd} (h : x ≠ y) : ndNe x y = true := by
 cases x; cases y
 simp [ndNe] at h ⊢
 rename_i a b c d
 by_cases e : a = c
 · exact .inr (h e)
 · exact .inl e
theorem ndNe_self (x : Nd) : ndNe x x = false := by simp [ndNe]
theorem neq_nd (x y : Nd) (W : World) : (binOp .neq 44 (.agg x.cells.toArray) (.agg y.cells.toArray)).run Try.prog W = .ok (.bool (ndNe x y)) W := by
 unfold Nd.cells ndNe
 simp [go_sem]
 by_cases h1 : x.tag = y.tag <;> by_cases h2 : x.n = y.n <;> simp [h1, h2]
theorem mk0_nd (W : World) : (Instr.buildSlice 23 0 #[]).run Try.prog W = .ok (.slice (some ⟨W.heap.size, 0, none⟩) 0 0) (W.alloc (.cells #[] 44)) := by kernel_rfl
set_option maxRecDepth 100000 in
set_option maxHeartbeats 16000000 in
theorem directTurned_walk (p : PgV) (g : IntsV) (fuel : Int) (hfI : -9223372036854775808 ≤ fuel ∧ fuel ≤ 9223372036854775807) (w : World) (hok : p.ok w) (hg : g.ok w) : Calls Try.prog 10 #[p.val, g.val, .int .i64 fuel] w fun e w' => e = .returned (.bool true) ∧ Below w.heap.size w w' := by
 obtain ⟨aa, acap, args⟩ := g
 rw [show p.val = .agg p.cells from rfl, show (IntsV.mk aa acap args).val = .slice aa args.length acap from rfl]
 have Hin : Hid (∀ a ∈ args, InI a) := hg.all
 have hrd0 : Rd w aa (ints args) := hg.reads
 go_enter Try.func10, Try.ntmps10
 obtain ⟨S0, hSd⟩ : ∃ S : World → Prop, S = (fun W => Below w.heap.size w W ∧ p.ok W ∧ Rd W aa (ints args)) := ⟨_, rfl⟩
 have st0 : St S0 := by rw [hSd]; infer_instance
 have F_low : Hid (∀ W, S0 W → Below w.heap.size w W) := by show ∀ W, _; rw [hSd]; exact fun W h => h.1
 have F_ok : Hid (∀ W, S0 W → p.ok W) := by show ∀ W, _; rw [hSd]; exact fun W h => h.2.1
 have F_rda : Hid (∀ W, S0 W → Rd W aa (ints args)) := by show ∀ W, _; rw [hSd]; exact fun W h => h.2.2
 have HS0 : Hid (S0 w) := by show S0 w; rw [hSd]; exact ⟨Below.refl _ _, hok, hrd0⟩
 clear hSd
 clear hok hg hrd0 hfI
 go_wp2_with (refine at_box _ _ rfl ?_)
 refine Stop.to ?_
 refine wpList_box_gen rfl 25 _ rfl p.cells rfl ?_
 intro G_1 w_2 hG rG bG
 have hprev := st0.go HS0.out (bG.mono hG)
 obtain ⟨S1, hSd⟩ : ∃ S : World → Prop, S = (fun W => S0 W ∧ Row W G_1 25 p.cells) := ⟨_, rfl⟩
 have st1 : St S1 := by rw [hSd]; infer_instance
 have D1 : Hid (∀ W, S1 W → S0 W) := by show ∀ W, _; rw [hSd]; exact fun W h => h.1
 have F_P : Hid (∀ W, S1 W → Row W G_1 25 p.cells) := by show ∀ W, _; rw [hSd]; exact fun W h => h.2
 have HS1 : Hid (S1 w_2) := by show S1 w_2; rw [hSd]; exact ⟨hprev, rG⟩
 clear hSd
 clear hprev HS0 hG rG bG
 go_wp2_with fail
 refine (works17_any w_2).mono ?_
 rintro e w_3 ⟨rfl, bb⟩
 have hprev := st1.go HS1.out (bb)
 replace HS1 := Lib.hid hprev
 clear hprev bb
 go_wp2_with (refine wpList_load_row rfl 25 _ rfl G_1 rfl 25 p.cells (0, 0) _ (F_P.out _ HS1.out) Try.underlying25 rfl (by kernel_rfl) ?_)
 refine (few17_any p aa acap args.length fuel w_3).mono ?_
 rintro e w_4 ⟨rfl, bb⟩
 have hprev := st1.go HS1.out (bb)
 replace HS1 := Lib.hid hprev
 clear hprev bb
 generalize hq : fewZ p args.length fuel = q
 have Hq := Lib.hid hq
 clear hq
 cases q
 · skip
   go_wp2_with fail
   go_ret
   exact ⟨rfl, (F_low.out _ (D1.out _ HS1.out))⟩
 have hfz := fewZ_of Hq.out
 have Hbl := Lib.hid hfz.1
 have Hal := Lib.hid hfz.2.1
 have Hfu := Lib.hid hfz.2.2
 clear hfz Hq
 have cp2 := (F_P.out _ HS1.out).cellv (i := 2) (v := .slice p.ba p.body.length p.bcap) rfl
 by_cases h1 : p.body.length < 2
 · have h1p : (p.body.length : Int) < 2 := by omega
   go_wp2_with fail
   go_ret
   exact ⟨rfl, (F_low.out _ (D1.out _ HS1.out))⟩
 have h1p : ¬ ((p.body.length : Int) < 2) := by omega
 have h1d : decide ((p.body.length : Int) < 2) = false := by simp; omega
 obtain ⟨x0, hx0⟩ : ∃ x, p.body[0]? = some x := ⟨_, List.getElem?_eq_getElem (by omega)⟩
 obtain ⟨x1, hx1⟩ : ∃ x, p.body[1]? = some x := ⟨_, List.getElem?_eq_getElem (by omega)⟩
 obtain ⟨bd, hbd, _⟩ := nd_at ((F_ok.out _ (D1.out _ HS1.out))).brd hx0
 have hl0 : (0 : Int) < (p.body.length : Int) := by omega
 have hl1 : (1 : Int) < (p.body.length : Int) := by omega
 have Hbrd : Hid (∀ W, S1 W → Rd W (some bd) (p.body.flatMap Nd.cells)) := fun W hW => by have := ((F_ok.out _ (D1.out _ hW))).brd; rw [hbd] at this; exact this
 have F_brd := Hbrd
 clear Hbrd
 have Hn0 : Hid (∀ W, S1 W → ∀ j v, x0.cells[j]? = some v → W.cell? (bd.add j) = some v) := fun W hW j v hj => by
  obtain ⟨b2, e, hc⟩ := nd_at (F_brd.out _ hW) hx0
  injection e with e
  subst e
  have := hc j v hj
  rwa [show bd.add (0 * 2) = bd from rfl] at this
 have Hn1 : Hid (∀ W, S1 W → W.cell? ⟨bd.block, bd.off + 2, none⟩ = some (.int .i64 x1.tag)) := fun W hW => by
  obtain ⟨b2, e, hc⟩ := nd_at (F_brd.out _ hW) hx1
  injection e with e
  subst e
  simpa [Addr.add] using hc 0 (.int .i64 x1.tag) rfl
 have Hx0 := Lib.hid hx0
 have Hx1 := Lib.hid hx1
 have Hne := Lib.hid (neq_nd x0 ⟨20, 1⟩)
 rw [hbd] at cp2
 have Hbd := Lib.hid hbd
 clear hx0 hx1 hbd h1
 go_wp2_with (refine at_load 44 _ rfl ?_)
 refine Stop.to ?_
 refine wpList_holdN S1 3 HS1.out ?_
 simp only [List.take_succ_cons, List.take_zero, List.drop_succ_cons, List.drop_zero]
 (refine hold_load_at rfl 44 _ rfl (bd) rfl (Nd.cells x0) _ (fun W hW => Hn0.out W hW) Try.underlying44 rfl (by kernel_rfl) ?_; simp only [Act.put, List.setIfInBounds_toArray, List.set_cons_zero, List.set_cons_succ])
 (refine hold_value rfl (.agg (Nd.cells ⟨20, 1⟩).toArray) (fun W hW => by (go_simp; try exact rfl)) ?_; simp only [Act.put, List.setIfInBounds_toArray, List.set_cons_zero, List.set_cons_succ])
 refine hold_value rfl (.bool (ndNe x0 ⟨20, 1⟩)) (fun W _ => run_exec_binop rfl _ (run_eqGuard_agg _ _ _ _ _ _ _ (by kernel_rfl)) (by exact Hne.out W)) ?_
 simp only [Act.put, List.setIfInBounds_toArray, List.set_cons_zero, List.set_cons_succ]
 refine wpHold_nil fun W9 hW9 => ?_
 clear cp2
 have HT1 := Lib.hid hW9
 clear HS1 hW9
 have HS1 := HT1
 clear HT1
 by_cases hx : x0 = ⟨20, 1⟩
 rotate_left
 · rw [ndNe_true hx]
   clear hx
   have cp2 := (F_P.out _ HS1.out).cellv (i := 2) (v := .slice p.ba p.body.length p.bcap) rfl
   rw [Hbd.out] at cp2
   go_wp2_with fail
   go_ret
   exact ⟨rfl, (F_low.out _ (D1.out _ HS1.out))⟩
 subst hx
 rw [ndNe_self]
 have cp2 := (F_P.out _ HS1.out).cellv (i := 2) (v := .slice p.ba p.body.length p.bcap) rfl
 rw [Hbd.out] at cp2
 have hcn := Hn1.out _ HS1.out
 by_cases h23 : x1.tag = 23
 rotate_left
 · have hne : (x1.tag != 23) = true := by simpa using h23
   clear h23
   go_wp2_with fail
   go_ret
   exact ⟨rfl, (F_low.out _ (D1.out _ HS1.out))⟩
 have hne : (x1.tag != 23) = false := by simp [h23]
 have H23 := Lib.hid h23
 clear h23
 go_wp2_with fail
 refine (kids_any (some bd) p.bcap p.body 1 W9 (F_brd.out _ HS1.out) (by have := Hbl.out; omega)).mono ?_
 rintro e w_5 ⟨v, rfl, hown, bb⟩
 obtain ⟨ka, kc, rfl, hkr, _, _, _⟩ := own_ev hown
 have hprev := st1.go HS1.out (bb)
 obtain ⟨S2, hSd⟩ : ∃ S : World → Prop, S = (fun W => S1 W ∧ Rd W ka (ints (kidsZ p.body 1))) := ⟨_, rfl⟩
 have st2 : St S2 := by rw [hSd]; infer_instance
 have D2 : Hid (∀ W, S2 W → S1 W) := by show ∀ W, _; rw [hSd]; exact fun W h => h.1
 have F_kid : Hid (∀ W, S2 W → Rd W ka (ints (kidsZ p.body 1))) := by show ∀ W, _; rw [hSd]; exact fun W h => h.2
 have HS2 : Hid (S2 w_5) := by show S2 w_5; rw [hSd]; exact ⟨hprev, hkr⟩
 clear hSd
 clear hprev HS1 bb hown hkr
 clear cp2 hcn hne
 go_wp2_with (refine wpList_load_row rfl 25 _ rfl G_1 rfl 25 p.cells (0, 0) _ (F_P.out _ (D2.out _ HS2.out)) Try.underlying25 rfl (by kernel_rfl) ?_)
 refine (dRunA p aa acap args fuel w_5 (by have := Hbl.out; omega) (by have := Hal.out; omega) (F_ok.out _ (D1.out _ (D2.out _ HS2.out))) (F_rda.out _ (D1.out _ (D2.out _ HS2.out))) Hin.out).mono ?_
 rintro e w_6 ⟨A_a, c_a, rfl, hrd, hle_a, hmx_a, hni_a, bb⟩
 have hprev := st2.go HS2.out (bb)
 obtain ⟨S3, hSd⟩ : ∃ S : World → Prop, S = (fun W => S2 W ∧ Rd3 ((runZ p args fuel).rv A_a c_a) W) := ⟨_, rfl⟩
 have st3 : St S3 := by rw [hSd]; infer_instance
 have D3 : Hid (∀ W, S3 W → S2 W) := by show ∀ W, _; rw [hSd]; exact fun W h => h.1
 have F_rd_a : Hid (∀ W, S3 W → Rd3 ((runZ p args fuel).rv A_a c_a) W) := by show ∀ W, _; rw [hSd]; exact fun W h => h.2
 have HS3 : Hid (S3 w_6) := by show S3 w_6; rw [hSd]; exact ⟨hprev, hrd⟩
 clear hSd
 clear hprev HS2 bb hrd
 go_wp2_with (refine at_alloc _ rfl ?_)
 refine Stop.to ?_
 refine wpList_alloc_gen rfl 32 rfl _ _ zero_run2 rfl ?_
 intro G_7 w_8 hG rG bG
 go_wp2_with (refine at_store _ _ _ rfl ?_)
 refine Stop.to ?_
 refine wpList_store_gen rfl 32 _ _ rfl G_7 ((runZ p args fuel).rv A_a c_a).cells rfl rfl 32 _ rG (by kernel_rfl) rfl (rv_one _) ?_
 intro w_9 rH oH
 have bH : Below (w_6).heap.size w_6 w_9 := (bG.mono hG).trans (oH.below hG)
 have hprev := st3.go HS3.out (bH)
 obtain ⟨S4, hSd⟩ : ∃ S : World → Prop, S = (fun W => S3 W ∧ Row W G_7 32 ((runZ p args fuel).rv A_a c_a).cells) := ⟨_, rfl⟩
 have st4 : St S4 := by rw [hSd]; infer_instance
 have D4 : Hid (∀ W, S4 W → S3 W) := by show ∀ W, _; rw [hSd]; exact fun W h => h.1
 have F_a : Hid (∀ W, S4 W → Row W G_7 32 ((runZ p args fuel).rv A_a c_a).cells) := by show ∀ W, _; rw [hSd]; exact fun W h => h.2
 have HS4 : Hid (S4 w_9) := by show S4 w_9; rw [hSd]; exact ⟨hprev, rH⟩
 clear hSd
 clear hprev HS3 hG rG bG rH oH bH
 by_cases hc0 : checkZ p args.length fuel = 0
 rotate_left
 · have hc1 : (checkZ p args.length fuel != 0) = true := by simpa using hc0
   generalize checkZ p args.length fuel = cz at hc1
   clear hc0
   go_wp2_with fail
   go_ret
   exact ⟨rfl, (F_low.out _ (D1.out _ (D2.out _ (D3.out _ (D4.out _ HS4.out)))))⟩
 rw [hc0]
 by_cases h2 : fuel < 2
 · clear hc0
   go_wp2_with fail
   go_ret
   exact ⟨rfl, (F_low.out _ (D1.out _ (D2.out _ (D3.out _ (D4.out _ HS4.out)))))⟩
 have h2p : 2 ≤ fuel := by omega
 have hf4 : fuel ≤ 400 := by have := Hfu.out; obtain ⟨_, _, _, _, a7⟩ := checkZ_zero hc0; omega
 obtain ⟨tc, tb1, tb2, hTK⟩ := turn_law (F_ok.out _ (D1.out _ (D2.out _ (D3.out _ (D4.out _ HS4.out))))) Hin.out hc0 Hx0.out Hx1.out H23.out h2p (by omega)
 have HTK := Lib.hid hTK
 have hkl : (kidsZ p.body 1).length = 3 := by rw [hTK.kids]; rfl
 rw [hkl]
 have HK0 : Hid (∀ W, S4 W → Rd W ka (ints [2, ((2 + tc.size : Nat) : Int), ((2 + tc.size + tb1.size : Nat) : Int)])) := fun W hW => by have := (F_kid.out _ (D3.out _ (D4.out _ hW))); rw [HTK.out.kids] at this; exact this
 have HLs : Hid ((runZ p args fuel).steps ≤ 10000) := by show _ ≤ _; obtain ⟨t, v, s, hK⟩ := runZ_is (F_ok.out _ (D1.out _ (D2.out _ (D3.out _ (D4.out _ HS4.out))))) Hin.out hc0; have := hK.steps; rw [hK.eq, stopped_steps]; omega
 have hel := run_few p args fuel
 have ewf : IntKind.i64.wrap (fuel + 1) = fuel + 1 := IntWalk.i64_in _ (by omega)
 obtain ⟨ad, rfl, _⟩ := int_at (k := 0) (x := 2) (HK0.out _ HS4.out) rfl
 have HKc0 : Hid (∀ W, S4 W → W.cell? ad = some (.int .i64 2)) := fun W hW => by
  obtain ⟨a2, e, hc⟩ := int_at (k := 0) (x := 2) (HK0.out W hW) rfl
  injection e with e
  subst e
  simpa [Addr.add] using hc
 have HKc1 : Hid (∀ W, S4 W → W.cell? ⟨ad.block, ad.off + 1, none⟩ = some (.int .i64 ((2 + tc.size : Nat) : Int))) := fun W hW => by
  obtain ⟨a2, e, hc⟩ := int_at (k := 1) (x := ((2 + tc.size : Nat) : Int)) (HK0.out W hW) rfl
  injection e with e
  subst e
  simpa [Addr.add] using hc
 have HKc2 : Hid (∀ W, S4 W → W.cell? ⟨ad.block, ad.off + 2, none⟩ = some (.int .i64 ((2 + tc.size + tb1.size : Nat) : Int))) := fun W hW => by
  obtain ⟨a2, e, hc⟩ := int_at (k := 2) (x := ((2 + tc.size + tb1.size : Nat) : Int)) (HK0.out W hW) rfl
  injection e with e
  subst e
  simpa [Addr.add] using hc
 have hb2c : (2 : Int) ≤ (p.bcap : Int) := by have := ((F_ok.out _ (D1.out _ (D2.out _ (D3.out _ (D4.out _ HS4.out)))))).blen; omega
 have hbm := ((F_ok.out _ (D1.out _ (D2.out _ (D3.out _ (D4.out _ HS4.out)))))).bmax
 have hbl60 := Hbl.out
 have hble := ((F_ok.out _ (D1.out _ (D2.out _ (D3.out _ (D4.out _ HS4.out)))))).blen
 clear hc0 h2 hle_a hmx_a hni_a hTK
 obtain ⟨B, hBd⟩ : ∃ B, B = (w_9).heap.size := ⟨_, rfl⟩
 obtain ⟨T, hTd⟩ : ∃ T : World → Prop, T = (fun W => Below B (w_9) W) := ⟨_, rfl⟩
 have T0 : Hid (∀ W, T W → S4 W) := by show ∀ W, _; rw [hTd, hBd]; exact fun W h => st4.go HS4.out h
 have Tz : Hid (∀ W, T W → B ≤ W.heap.size) := by show ∀ W, _; rw [hTd, hBd]; exact fun W h => h.size
 have TB : Hid (∀ W W', T W → Below B W W' → T W') := by show ∀ W W', _; rw [hTd]; exact fun W W' h b => h.trans b
 have Tb : Hid (∀ W, T W → Below (w_9).heap.size (w_9) W) := by show ∀ W, _; rw [hTd, hBd]; exact fun W h => h
 have stT : St T := ⟨fun h b => TB.out _ _ h (b.mono (Tz.out _ h))⟩
 have HT0 : Hid (T (w_9)) := by show T _; rw [hTd]; exact Below.refl _ _
 clear hTd hBd HS4
 go_wp2_with (refine at_slice _ _ _ rfl ?_)
 refine Stop.to ?_
 refine wpList_slice_gen rfl 23 0 _ rfl 44 #[] (fun W => by simpa using mk0_nd W) ?_
 intro g0 w_a hg0 r0 b0
 have hBg : B ≤ g0 := Nat.le_trans (Tz.out _ HT0.out) hg0
 have HTa : Hid (T w_a) := TB.out _ _ HT0.out (b0.mono hBg)
 have own0 : w_a.ownsRow B 44 2 (.slice (some ⟨g0, 0, none⟩) 0 0) 0 [] := own_emptyS hBg r0
 clear r0 b0 hg0 HT0 hBg
 have cp2 := (F_P.out _ (D2.out _ (D3.out _ (D4.out _ (T0.out _ HTa.out))))).cellv (i := 2) (v := .slice p.ba p.body.length p.bcap) rfl
 rw [Hbd.out] at cp2
 have rd2 : Rd w_a (some bd) (([⟨20, 1⟩, x1] : List Nd).flatMap Nd.cells) := fun j u hj => (F_brd.out _ (D2.out _ (D3.out _ (D4.out _ (T0.out _ HTa.out))))) j u (by
  have h1 : p.body = [⟨20, 1⟩, x1] ++ p.body.drop 2 := by
   have h3 := Hx0.out
   have h4 := Hx1.out
   match hb : p.body, h3, h4 with
   | a :: b :: l, h3, h4 => simp at h3 h4; subst h3; subst h4; rfl
  rw [h1, List.flatMap_append, List.getElem?_append_left (List.getElem?_eq_some_iff.1 hj).1]; exact hj)
 obtain ⟨v1, wq1, hrun, own1, hgr, _⟩ := append_nds (cap := p.bcap) (l := [⟨20, 1⟩, x1]) own0 (Tz.out _ HTa.out) rd2 rfl (fun h => by cases h) (by simp; try omega)
 have bw := below_grown_own (Below.refl B w_a) own0 hgr (Tz.out _ HTa.out) (Nat.le_refl _)
 have HTn1 : Hid (T wq1) := TB.out _ _ HTa.out bw
 have Hrun := Lib.hid hrun
 clear hrun hgr bw
 go_wp2_with (at_builtin; refine at_stopC ?_)
 refine Stop.to ?_
 refine wpList_res rfl _ (run_exec_append rfl Hrun.out) ?_
 obtain ⟨A1, k1, rfl⟩ := own_sl own1
 clear Hrun own0 HTa
 clear cp2 rd2
 go_wp2_with (refine at_slice _ _ _ rfl ?_)
 refine Stop.to ?_
 refine wpList_slice_gen rfl 23 1 _ rfl 44 (Nd.cells ⟨6, 0⟩).toArray (bs_run Try.underlying23 info_n (by decide) (by decide) (by kernel_rfl)) ?_
 intro g1 w_b hg1 r1 b1
 have HTb : Hid (T w_b) := TB.out _ _ HTn1.out (b1.mono (Nat.le_trans (Tz.out _ HTn1.out) hg1))
 have ownb := own_below own1 (b1.mono hg1)
 have rd1 := rd_row r1
 clear r1 b1 hg1 own1 HTn1
 obtain ⟨v2, wq2, hrun, own2, hgr, _⟩ := append_nds (cap := 1) (l := [⟨6, 0⟩]) ownb (Tz.out _ HTb.out) (by simpa using rd1) rfl (fun h => by cases h) (by simp; try omega)
 have bw := below_grown_own (Below.refl B w_b) ownb hgr (Tz.out _ HTb.out) (Nat.le_refl _)
 have HTn2 : Hid (T wq2) := TB.out _ _ HTb.out bw
 have Hrun := Lib.hid hrun
 clear hrun hgr bw
 go_wp2_with (at_builtin; refine at_stopC ?_)
 refine Stop.to ?_
 refine wpList_res rfl _ (run_exec_append rfl Hrun.out) ?_
 obtain ⟨A2, k2, rfl⟩ := own_sl own2
 clear Hrun ownb HTb
 clear rd1
 have hTl := HTK.out.len
 have hsc : tc.flat.length = tc.size := rfl
 have hs1 : tb1.flat.length = tb1.size := rfl
 have hs2 : tb2.flat.length = tb2.size := rfl
 go_wp2_with fail
 refine wp_region_held (S := T) (by kernel_rfl) ?_
 simp only [List.size_toArray, List.length_cons, List.length_nil, Nat.reduceAdd, Array.replicate_succ, Array.replicate_zero, List.push_toArray, List.nil_append, List.cons_append]
 show wpAnyH _ _ _ _ _ _ _ _ (wq2).drew
 have hS : T (wq2).drew := St.drew HTn2.out
 have ownh := own_below own2 (⟨rfl, rfl, rfl, Nat.le_refl _, fun _ _ => rfl⟩ : Below (wq2).heap.size (wq2) (wq2).drew)
 clear own2 HTn2
 generalize (wq2).drew = Wh2 at hS ownh ⊢
 have h3 : ((0 : Nat) : Int) < ((3 : Nat) : Int) := by omega
 (refine takeH (i := 0) (v := _) rfl (by kernel_rfl) (by kernel_rfl) (by kernel_rfl) (fun _ _ _ h => h) (yields_val rfl (fun W hW => by (go_simp; try exact rfl))) (by assumption) ?_; simp only [Act.put, List.setIfInBounds_toArray, List.set_cons_zero, List.set_cons_succ])
 (refine takeH (i := 1) (v := .pointer (some ⟨G_1, 2, none⟩)) rfl (by kernel_rfl) (by kernel_rfl) (by kernel_rfl) (fun _ _ _ h => h) (yields_val rfl (fun W hW => by ((go_simp)))) (by assumption) ?_; simp only [Act.put, List.setIfInBounds_toArray, List.set_cons_zero, List.set_cons_succ])
 (refine takeH (i := 2) (v := .slice (some bd) p.body.length p.bcap) rfl (by kernel_rfl) (by kernel_rfl) (by kernel_rfl) (fun _ _ _ h => h) (yields_val rfl (fun W hW => by ((have c := (F_P.out _ (D2.out _ (D3.out _ (D4.out _ (T0.out _ hW))))).cellv (i := 2) (v := .slice p.ba p.body.length p.bcap) rfl; rw [Hbd.out] at c; go_simp)))) (by assumption) ?_; simp only [Act.put, List.setIfInBounds_toArray, List.set_cons_zero, List.set_cons_succ])
 (refine takeH (i := 3) (v := .slice (some ad) 3 kc) rfl (by kernel_rfl) (by kernel_rfl) (by kernel_rfl) (fun _ _ _ h => h) (yields_val rfl (fun W hW => by ((go_simp)))) (by assumption) ?_; simp only [Act.put, List.setIfInBounds_toArray, List.set_cons_zero, List.set_cons_succ])
 (refine takeH (i := 4) (v := .pointer (some ad)) rfl (by kernel_rfl) (by kernel_rfl) (by kernel_rfl) (fun _ _ _ h => h) (yields_val rfl (fun W hW => by ((go_simp; try exact rfl)))) (by assumption) ?_; simp only [Act.put, List.setIfInBounds_toArray, List.set_cons_zero, List.set_cons_succ])
 (refine takeH (i := 5) (v := .int .i64 2) rfl (by kernel_rfl) (by kernel_rfl) (by kernel_rfl) (fun _ _ _ h => h) (yields_val rfl (fun W hW => by ((have c := HKc0.out W (T0.out _ hW); go_simp)))) (by assumption) ?_; simp only [Act.put, List.setIfInBounds_toArray, List.set_cons_zero, List.set_cons_succ])
 (refine wpAnyH_all (rs := [6]) (by kernel_rfl) (by simp) (fun i hi => ?_); obtain rfl : i = 6 := by simpa using hi)
 refine wpOp_plain rfl rfl (fun K2 hK2 => ?_)
 refine wp_call_any 28 #[.slice (some bd) p.body.length p.bcap, .int .i64 2] (w1 := Wh2) (by go_simp) ?_
 refine (part_any (some bd) p.bcap p.body 2 tc Wh2 HTK.out.atc (F_brd.out _ (D2.out _ (D3.out _ (D4.out _ (T0.out _ hS))))) (by omega) hble hbm).mono ?_
 rintro e Wp2 ⟨vp, rfl, hownp, bp⟩
 have hTp : T Wp2 := stT.go hS bp
 have ownp := own_below ownh bp
 obtain ⟨Ap, cpp, rfl, hrp, hcp, _, hnp⟩ := own_ev hownp
 have hsp := tc.size_eq
 clear hownp bp hS ownh
 refine hK2 _ _ ?_
 clear hK2 K2
 simp only [Act.put, List.setIfInBounds_toArray, List.set_cons_zero, List.set_cons_succ]
 refine ⟨hTp, ?_⟩
 (refine wpAnyH_all (rs := [7]) (by kernel_rfl) (by simp) (fun i hi => ?_); obtain rfl : i = 7 := by simpa using hi)
 refine wpOp_plain rfl rfl (fun K2 hK2 => ?_)
 obtain ⟨v3, wq3, hrun, own3, hgr, _⟩ := append_nds (cap := cpp) (l := tc.flat) ownp (Tz.out _ hTp) hrp rfl (fun h => by have := hnp h; have e2 : tc.flat.length = tc.size := rfl; omega) (by simp; omega)
 have bw := below_grown_own (Below.refl B Wp2) ownp hgr (Tz.out _ hTp) (Nat.le_refl _)
 have hTq := TB.out _ _ hTp bw
 obtain ⟨A3, k3, rfl⟩ := own_sl own3
 refine wp_res_gen _ (w1 := wq3) (by exact run_exec_append rfl hrun) ?_
 refine hK2 _ _ ?_
 clear hK2 K2 hrun hgr bw ownp hTp hrp hcp hnp hsp
 simp only [Act.put, List.setIfInBounds_toArray, List.set_cons_zero, List.set_cons_succ]
 refine ⟨hTq, ?_⟩
 (refine takeH (i := 8) (v := _) rfl (by kernel_rfl) (by kernel_rfl) (by kernel_rfl) (fun _ _ _ h => h) (yields_val rfl (fun W hW => by (go_simp; try exact rfl))) (by assumption) ?_; simp only [Act.put, List.setIfInBounds_toArray, List.set_cons_zero, List.set_cons_succ])
 refine wpAnyH_done (by kernel_rfl) ?_ _
 have HTn3 : Hid (T wq3) := hTq
 clear hTq h3
 go_wp2_with fail
 refine wp_region_held (S := T) (by kernel_rfl) ?_
 simp only [List.size_toArray, List.length_cons, List.length_nil, Nat.reduceAdd, Array.replicate_succ, Array.replicate_zero, List.push_toArray, List.nil_append, List.cons_append]
 show wpAnyH _ _ _ _ _ _ _ _ (wq3).drew
 have hS : T (wq3).drew := St.drew HTn3.out
 have ownh := own_below own3 (⟨rfl, rfl, rfl, Nat.le_refl _, fun _ _ => rfl⟩ : Below (wq3).heap.size (wq3) (wq3).drew)
 clear own3 HTn3
 generalize (wq3).drew = Wh3 at hS ownh ⊢
 have h3 : ((2 : Nat) : Int) < ((3 : Nat) : Int) := by omega
 (refine takeH (i := 0) (v := _) rfl (by kernel_rfl) (by kernel_rfl) (by kernel_rfl) (fun _ _ _ h => h) (yields_val rfl (fun W hW => by (go_simp; try exact rfl))) (by assumption) ?_; simp only [Act.put, List.setIfInBounds_toArray, List.set_cons_zero, List.set_cons_succ])
 (refine takeH (i := 1) (v := .pointer (some ⟨G_1, 2, none⟩)) rfl (by kernel_rfl) (by kernel_rfl) (by kernel_rfl) (fun _ _ _ h => h) (yields_val rfl (fun W hW => by ((go_simp)))) (by assumption) ?_; simp only [Act.put, List.setIfInBounds_toArray, List.set_cons_zero, List.set_cons_succ])
 (refine takeH (i := 2) (v := .slice (some bd) p.body.length p.bcap) rfl (by kernel_rfl) (by kernel_rfl) (by kernel_rfl) (fun _ _ _ h => h) (yields_val rfl (fun W hW => by ((have c := (F_P.out _ (D2.out _ (D3.out _ (D4.out _ (T0.out _ hW))))).cellv (i := 2) (v := .slice p.ba p.body.length p.bcap) rfl; rw [Hbd.out] at c; go_simp)))) (by assumption) ?_; simp only [Act.put, List.setIfInBounds_toArray, List.set_cons_zero, List.set_cons_succ])
 (refine takeH (i := 3) (v := .slice (some ad) 3 kc) rfl (by kernel_rfl) (by kernel_rfl) (by kernel_rfl) (fun _ _ _ h => h) (yields_val rfl (fun W hW => by ((go_simp)))) (by assumption) ?_; simp only [Act.put, List.setIfInBounds_toArray, List.set_cons_zero, List.set_cons_succ])
 (refine takeH (i := 4) (v := .pointer (some ⟨ad.block, ad.off + 2, none⟩)) rfl (by kernel_rfl) (by kernel_rfl) (by kernel_rfl) (fun _ _ _ h => h) (yields_val rfl (fun W hW => by ((go_simp; try exact rfl)))) (by assumption) ?_; simp only [Act.put, List.setIfInBounds_toArray, List.set_cons_zero, List.set_cons_succ])
 (refine takeH (i := 5) (v := .int .i64 ((2 + tc.size + tb1.size : Nat) : Int)) rfl (by kernel_rfl) (by kernel_rfl) (by kernel_rfl) (fun _ _ _ h => h) (yields_val rfl (fun W hW => by ((have c := HKc2.out W (T0.out _ hW); go_simp)))) (by assumption) ?_; simp only [Act.put, List.setIfInBounds_toArray, List.set_cons_zero, List.set_cons_succ])
 (refine wpAnyH_all (rs := [6]) (by kernel_rfl) (by simp) (fun i hi => ?_); obtain rfl : i = 6 := by simpa using hi)
 refine wpOp_plain rfl rfl (fun K2 hK2 => ?_)
 refine wp_call_any 28 #[.slice (some bd) p.body.length p.bcap, .int .i64 ((2 + tc.size + tb1.size : Nat) : Int)] (w1 := Wh3) (by go_simp) ?_
 refine (part_any (some bd) p.bcap p.body (2 + tc.size + tb1.size) tb2 Wh3 HTK.out.at2 (F_brd.out _ (D2.out _ (D3.out _ (D4.out _ (T0.out _ hS))))) (by omega) hble hbm).mono ?_
 rintro e Wp3 ⟨vp, rfl, hownp, bp⟩
 have hTp : T Wp3 := stT.go hS bp
 have ownp := own_below ownh bp
 obtain ⟨Ap, cpp, rfl, hrp, hcp, _, hnp⟩ := own_ev hownp
 have hsp := tb2.size_eq
 clear hownp bp hS ownh
 refine hK2 _ _ ?_
 clear hK2 K2
 simp only [Act.put, List.setIfInBounds_toArray, List.set_cons_zero, List.set_cons_succ]
 refine ⟨hTp, ?_⟩
 (refine wpAnyH_all (rs := [7]) (by kernel_rfl) (by simp) (fun i hi => ?_); obtain rfl : i = 7 := by simpa using hi)
 refine wpOp_plain rfl rfl (fun K2 hK2 => ?_)
 obtain ⟨v4, wq4, hrun, own4, hgr, _⟩ := append_nds (cap := cpp) (l := tb2.flat) ownp (Tz.out _ hTp) hrp rfl (fun h => by have := hnp h; have e2 : tb2.flat.length = tb2.size := rfl; omega) (by simp; omega)
 have bw := below_grown_own (Below.refl B Wp3) ownp hgr (Tz.out _ hTp) (Nat.le_refl _)
 have hTq := TB.out _ _ hTp bw
 obtain ⟨A4, k4, rfl⟩ := own_sl own4
 refine wp_res_gen _ (w1 := wq4) (by exact run_exec_append rfl hrun) ?_
 refine hK2 _ _ ?_
 clear hK2 K2 hrun hgr bw ownp hTp hrp hcp hnp hsp
 simp only [Act.put, List.setIfInBounds_toArray, List.set_cons_zero, List.set_cons_succ]
 refine ⟨hTq, ?_⟩
 (refine takeH (i := 8) (v := _) rfl (by kernel_rfl) (by kernel_rfl) (by kernel_rfl) (fun _ _ _ h => h) (yields_val rfl (fun W hW => by (go_simp; try exact rfl))) (by assumption) ?_; simp only [Act.put, List.setIfInBounds_toArray, List.set_cons_zero, List.set_cons_succ])
 refine wpAnyH_done (by kernel_rfl) ?_ _
 have HTn4 : Hid (T wq4) := hTq
 clear hTq h3
 go_wp2_with fail
 refine wp_region_held (S := T) (by kernel_rfl) ?_
 simp only [List.size_toArray, List.length_cons, List.length_nil, Nat.reduceAdd, Array.replicate_succ, Array.replicate_zero, List.push_toArray, List.nil_append, List.cons_append]
 show wpAnyH _ _ _ _ _ _ _ _ (wq4).drew
 have hS : T (wq4).drew := St.drew HTn4.out
 have ownh := own_below own4 (⟨rfl, rfl, rfl, Nat.le_refl _, fun _ _ => rfl⟩ : Below (wq4).heap.size (wq4) (wq4).drew)
 clear own4 HTn4
 generalize (wq4).drew = Wh4 at hS ownh ⊢
 have h3 : ((1 : Nat) : Int) < ((3 : Nat) : Int) := by omega
 (refine takeH (i := 0) (v := _) rfl (by kernel_rfl) (by kernel_rfl) (by kernel_rfl) (fun _ _ _ h => h) (yields_val rfl (fun W hW => by (go_simp; try exact rfl))) (by assumption) ?_; simp only [Act.put, List.setIfInBounds_toArray, List.set_cons_zero, List.set_cons_succ])
 (refine takeH (i := 1) (v := .pointer (some ⟨G_1, 2, none⟩)) rfl (by kernel_rfl) (by kernel_rfl) (by kernel_rfl) (fun _ _ _ h => h) (yields_val rfl (fun W hW => by ((go_simp)))) (by assumption) ?_; simp only [Act.put, List.setIfInBounds_toArray, List.set_cons_zero, List.set_cons_succ])
 (refine takeH (i := 2) (v := .slice (some bd) p.body.length p.bcap) rfl (by kernel_rfl) (by kernel_rfl) (by kernel_rfl) (fun _ _ _ h => h) (yields_val rfl (fun W hW => by ((have c := (F_P.out _ (D2.out _ (D3.out _ (D4.out _ (T0.out _ hW))))).cellv (i := 2) (v := .slice p.ba p.body.length p.bcap) rfl; rw [Hbd.out] at c; go_simp)))) (by assumption) ?_; simp only [Act.put, List.setIfInBounds_toArray, List.set_cons_zero, List.set_cons_succ])
 (refine takeH (i := 3) (v := .slice (some ad) 3 kc) rfl (by kernel_rfl) (by kernel_rfl) (by kernel_rfl) (fun _ _ _ h => h) (yields_val rfl (fun W hW => by ((go_simp)))) (by assumption) ?_; simp only [Act.put, List.setIfInBounds_toArray, List.set_cons_zero, List.set_cons_succ])
 (refine takeH (i := 4) (v := .pointer (some ⟨ad.block, ad.off + 1, none⟩)) rfl (by kernel_rfl) (by kernel_rfl) (by kernel_rfl) (fun _ _ _ h => h) (yields_val rfl (fun W hW => by ((go_simp; try exact rfl)))) (by assumption) ?_; simp only [Act.put, List.setIfInBounds_toArray, List.set_cons_zero, List.set_cons_succ])
 (refine takeH (i := 5) (v := .int .i64 ((2 + tc.size : Nat) : Int)) rfl (by kernel_rfl) (by kernel_rfl) (by kernel_rfl) (fun _ _ _ h => h) (yields_val rfl (fun W hW => by ((have c := HKc1.out W (T0.out _ hW); go_simp)))) (by assumption) ?_; simp only [Act.put, List.setIfInBounds_toArray, List.set_cons_zero, List.set_cons_succ])
 (refine wpAnyH_all (rs := [6]) (by kernel_rfl) (by simp) (fun i hi => ?_); obtain rfl : i = 6 := by simpa using hi)
 refine wpOp_plain rfl rfl (fun K2 hK2 => ?_)
 refine wp_call_any 28 #[.slice (some bd) p.body.length p.bcap, .int .i64 ((2 + tc.size : Nat) : Int)] (w1 := Wh4) (by go_simp) ?_
 refine (part_any (some bd) p.bcap p.body (2 + tc.size) tb1 Wh4 HTK.out.at1 (F_brd.out _ (D2.out _ (D3.out _ (D4.out _ (T0.out _ hS))))) (by omega) hble hbm).mono ?_
 rintro e Wp4 ⟨vp, rfl, hownp, bp⟩
 have hTp : T Wp4 := stT.go hS bp
 have ownp := own_below ownh bp
 obtain ⟨Ap, cpp, rfl, hrp, hcp, _, hnp⟩ := own_ev hownp
 have hsp := tb1.size_eq
 clear hownp bp hS ownh
 refine hK2 _ _ ?_
 clear hK2 K2
 simp only [Act.put, List.setIfInBounds_toArray, List.set_cons_zero, List.set_cons_succ]
 refine ⟨hTp, ?_⟩
 (refine wpAnyH_all (rs := [7]) (by kernel_rfl) (by simp) (fun i hi => ?_); obtain rfl : i = 7 := by simpa using hi)
 refine wpOp_plain rfl rfl (fun K2 hK2 => ?_)
 obtain ⟨v5, wq5, hrun, own5, hgr, _⟩ := append_nds (cap := cpp) (l := tb1.flat) ownp (Tz.out _ hTp) hrp rfl (fun h => by have := hnp h; have e2 : tb1.flat.length = tb1.size := rfl; omega) (by simp; omega)
 have bw := below_grown_own (Below.refl B Wp4) ownp hgr (Tz.out _ hTp) (Nat.le_refl _)
 have hTq := TB.out _ _ hTp bw
 obtain ⟨A5, k5, rfl⟩ := own_sl own5
 refine wp_res_gen _ (w1 := wq5) (by exact run_exec_append rfl hrun) ?_
 refine hK2 _ _ ?_
 clear hK2 K2 hrun hgr bw ownp hTp hrp hcp hnp hsp
 simp only [Act.put, List.setIfInBounds_toArray, List.set_cons_zero, List.set_cons_succ]
 refine ⟨hTq, ?_⟩
 (refine takeH (i := 8) (v := _) rfl (by kernel_rfl) (by kernel_rfl) (by kernel_rfl) (fun _ _ _ h => h) (yields_val rfl (fun W hW => by (go_simp; try exact rfl))) (by assumption) ?_; simp only [Act.put, List.setIfInBounds_toArray, List.set_cons_zero, List.set_cons_succ])
 refine wpAnyH_done (by kernel_rfl) ?_ _
 have HTn5 : Hid (T wq5) := hTq
 clear hTq h3
 obtain ⟨A9, c9, hv9, hr9, hc9, hm9, hn9⟩ := own_ev own5
 injection hv9 with e8 _ e9
 subst e8 e9
 obtain ⟨nb, hnb⟩ : ∃ nb : List Nd, nb = ⟨20, 1⟩ :: x1 :: ⟨6, 0⟩ :: (tc.flat ++ tb2.flat ++ tb1.flat) := ⟨_, rfl⟩
 have hln : 0 + [(⟨20, 1⟩ : Nd), x1].length + [(⟨6, 0⟩ : Nd)].length + tc.flat.length + tb2.flat.length + tb1.flat.length = nb.length := by rw [hnb]; simp; omega
 rw [hln] at hc9 ⊢
 have hr9b : Rd wq5 A5 (nb.flatMap Nd.cells) := by rw [hnb]; simpa [List.flatMap_append, List.flatMap_cons] using hr9
 have Hnb := Lib.hid hnb
 have Hnl : Hid (nb.length ≤ 61) := by show _ ≤ _; rw [hnb]; simp; omega
 have bel := Tb.out _ HTn5.out
 have HSr := T0.out _ HTn5.out
 clear hr9 hnb hln
 have hprev := HSr
 obtain ⟨S5, hSd⟩ : ∃ S : World → Prop, S = (fun W => S4 W ∧ Rd W A5 (nb.flatMap Nd.cells)) := ⟨_, rfl⟩
 have st5 : St S5 := by rw [hSd]; infer_instance
 have D5 : Hid (∀ W, S5 W → S4 W) := by show ∀ W, _; rw [hSd]; exact fun W h => h.1
 have F_bod : Hid (∀ W, S5 W → Rd W A5 (nb.flatMap Nd.cells)) := by show ∀ W, _; rw [hSd]; exact fun W h => h.2
 have HS5 : Hid (S5 wq5) := by show S5 wq5; rw [hSd]; exact ⟨hprev, hr9b⟩
 clear hSd
 have hlow : Below w.heap.size w wq5 := (F_low.out _ (D1.out _ (D2.out _ (D3.out _ (D4.out _ (D5.out _ HS5.out))))))
 clear hlow hprev HSr hr9b bel own5 HTn5 T0 Tz TB Tb stT hTl hsc hs1 hs2 HKc0 HKc1 HKc2 HK0
 have hqok : Hid (∀ W, S5 W → (PgV.mk p.params p.va p.vcap p.V A5 k5 nb).ok W) := by
  show ∀ W, _
  intro W hW
  have h := (F_ok.out _ (D1.out _ (D2.out _ (D3.out _ (D4.out _ (D5.out _ hW))))))
  refine ⟨h.par, h.vlen, h.vmax, h.vnil, h.vrd, h.vin, hc9, hm9, hn9, (F_bod.out _ hW), fun y hy => ?_⟩
  have hy : y ∈ nb := hy
  rw [Hnb.out] at hy
  simp only [List.mem_cons, List.mem_append] at hy
  have hin : ∀ {q : Nat} {t : Tr}, At p.body q t → y ∈ t.flat → InI y.tag ∧ InI y.n := fun {q t} hat hy => by
   obtain ⟨rest, hr⟩ := hat.here
   exact h.bin y (List.mem_of_mem_drop (by rw [hr]; exact List.mem_append_left _ hy))
  rcases hy with rfl | rfl | rfl | (hy | hy) | hy
  · unfold InI; simp only; omega
  · exact h.bin _ (List.mem_of_getElem? Hx1.out)
  · unfold InI; simp only; omega
  · exact hin HTK.out.atc hy
  · exact hin HTK.out.at2 hy
  · exact hin HTK.out.at1 hy
 have F_qok := hqok
 clear hqok hc9 hm9 hn9 hble hbm hbl60 hb2c
 have cp0 := (F_P.out _ (D2.out _ (D3.out _ (D4.out _ (D5.out _ HS5.out))))).cellv (i := 0) (v := .int .i64 p.params) rfl
 have cp1 := (F_P.out _ (D2.out _ (D3.out _ (D4.out _ (D5.out _ HS5.out))))).cellv (i := 1) (v := .slice p.va p.V.length p.vcap) rfl
 have HLq := HTK.out.law (PgV.mk p.params p.va p.vcap p.V A5 k5 nb) rfl rfl Hnb.out
 have HLQ := Lib.hid HLq
 clear HLq
 go_wp2_with fail
 rw [show 3 + tc.size + tb2.size + tb1.size = nb.length from by rw [Hnb.out]; simp; have e1 : tc.flat.length = tc.size := rfl; have e2 : tb1.flat.length = tb1.size := rfl; have e3 : tb2.flat.length = tb2.size := rfl; omega]
 refine (dRunA (PgV.mk p.params p.va p.vcap p.V A5 k5 nb) aa acap args (fuel + 1) wq5 (by have := Hnl.out; show nb.length ≤ 1000; omega) (by have := Hal.out; omega) (F_qok.out _ HS5.out) (F_rda.out _ (D1.out _ (D2.out _ (D3.out _ (D4.out _ (D5.out _ HS5.out)))))) Hin.out).mono ?_
 rintro e w_10 ⟨A_b, c_b, rfl, hrd, hle_b, hmx_b, hni_b, bb⟩
 have hprev := st5.go HS5.out (bb)
 obtain ⟨S6, hSd⟩ : ∃ S : World → Prop, S = (fun W => S5 W ∧ Rd3 ((runZ (PgV.mk p.params p.va p.vcap p.V A5 k5 nb) args (fuel + 1)).rv A_b c_b) W) := ⟨_, rfl⟩
 have st6 : St S6 := by rw [hSd]; infer_instance
 have D6 : Hid (∀ W, S6 W → S5 W) := by show ∀ W, _; rw [hSd]; exact fun W h => h.1
 have F_rd_b : Hid (∀ W, S6 W → Rd3 ((runZ (PgV.mk p.params p.va p.vcap p.V A5 k5 nb) args (fuel + 1)).rv A_b c_b) W) := by show ∀ W, _; rw [hSd]; exact fun W h => h.2
 have HS6 : Hid (S6 w_10) := by show S6 w_10; rw [hSd]; exact ⟨hprev, hrd⟩
 clear hSd
 clear hprev HS5 bb hrd
 clear cp0 cp1
 go_wp2_with (refine at_alloc _ rfl ?_)
 refine Stop.to ?_
 refine wpList_alloc_gen rfl 32 rfl _ _ zero_run2 rfl ?_
 intro G_11 w_12 hG rG bG
 go_wp2_with (refine at_store _ _ _ rfl ?_)
 refine Stop.to ?_
 refine wpList_store_gen rfl 32 _ _ rfl G_11 ((runZ (PgV.mk p.params p.va p.vcap p.V A5 k5 nb) args (fuel + 1)).rv A_b c_b).cells rfl rfl 32 _ rG (by kernel_rfl) rfl (rv_one _) ?_
 intro w_13 rH oH
 have bH : Below (w_10).heap.size w_10 w_13 := (bG.mono hG).trans (oH.below hG)
 have hprev := st6.go HS6.out (bH)
 obtain ⟨S7, hSd⟩ : ∃ S : World → Prop, S = (fun W => S6 W ∧ Row W G_11 32 ((runZ (PgV.mk p.params p.va p.vcap p.V A5 k5 nb) args (fuel + 1)).rv A_b c_b).cells) := ⟨_, rfl⟩
 have st7 : St S7 := by rw [hSd]; infer_instance
 have D7 : Hid (∀ W, S7 W → S6 W) := by show ∀ W, _; rw [hSd]; exact fun W h => h.1
 have F_b : Hid (∀ W, S7 W → Row W G_11 32 ((runZ (PgV.mk p.params p.va p.vcap p.V A5 k5 nb) args (fuel + 1)).rv A_b c_b).cells) := by show ∀ W, _; rw [hSd]; exact fun W h => h.2
 have HS7 : Hid (S7 w_13) := by show S7 w_13; rw [hSd]; exact ⟨hprev, rH⟩
 clear hSd
 clear hprev HS6 hG rG bG rH oH bH
 rw [HLQ.out.1]
 have hst := HLQ.out.2.2.2
 have hout := HLQ.out.2.1
 have hevq := HLQ.out.2.2.1
 clear HTK
 generalize runZ p args fuel = ra at *
 generalize runZ (PgV.mk p.params p.va p.vcap p.V A5 k5 nb) args (fuel + 1) = rb at *
 have ca3 := (F_a.out _ (D5.out _ (D6.out _ (D7.out _ HS7.out)))).cellv (i := 3) (v := .slice A_a ra.evs.length c_a) rfl
 have cb3 := (F_b.out _ HS7.out).cellv (i := 3) (v := .slice A_b rb.evs.length c_b) rfl
 have Hst := Lib.hid hst
 have Hout := Lib.hid hout
 have Hevq := Lib.hid hevq
 clear hst hout hevq
 go_wp2_with fail
 refine (refEvents_any A_a A_b c_a c_b ra.evs rb.evs w_13 (F_rd_a.out _ (D4.out _ (D5.out _ (D6.out _ (D7.out _ HS7.out))))) (F_rd_b.out _ (D7.out _ HS7.out)) hel).mono ?_
 rintro e w_14 ⟨β, rfl, hβ, bb⟩
 obtain rfl : β = true := hβ.2 Hevq.out.symm
 have hprev := st7.go HS7.out (bb)
 replace HS7 := Lib.hid hprev
 clear hprev bb hβ
 clear ca3 cb3
 have Heq := Lib.hid (eql_outcome (ra.rv A_a c_a).kind (ra.rv A_a c_a).value (rb.rv A_b c_b).kind (rb.rv A_b c_b).value)
 have Htr : Hid (((ra.rv A_a c_a).kind == (rb.rv A_b c_b).kind && (ra.rv A_a c_a).value == (rb.rv A_b c_b).value) = true) := by show _ = _; simp [Ms.rv, Hout.out]
 go_wp2_with (refine at_load 29 _ rfl ?_)
 refine Stop.to ?_
 refine wpList_holdN S7 4 HS7.out ?_
 simp only [List.take_succ_cons, List.take_zero, List.drop_succ_cons, List.drop_zero]
 (refine hold_load_at rfl 29 _ rfl (⟨G_7, 0, none⟩) rfl (outC (ra.rv A_a c_a).kind (ra.rv A_a c_a).value) _ (fun W hW => out_cells (F_a.out _ (D5.out _ (D6.out _ (D7.out _ hW))))) Try.underlying29 rfl (by kernel_rfl) ?_; simp only [Act.put, List.setIfInBounds_toArray, List.set_cons_zero, List.set_cons_succ])
 (refine hold_value rfl ?_ (fun W hW => ?_) ?_; rotate_left; (focus (go_simp; exact rfl)); simp only [Act.put, List.setIfInBounds_toArray, List.set_cons_zero, List.set_cons_succ])
 (refine hold_load_at rfl 29 _ rfl (⟨G_11, 0, none⟩) rfl (outC (rb.rv A_b c_b).kind (rb.rv A_b c_b).value) _ (fun W hW => out_cells (F_b.out _ hW)) Try.underlying29 rfl (by kernel_rfl) ?_; simp only [Act.put, List.setIfInBounds_toArray, List.set_cons_zero, List.set_cons_succ])
 refine hold_value rfl (.bool true) (fun W _ => run_exec_binop rfl _ (run_eqGuard_agg _ _ _ _ _ _ _ (by kernel_rfl)) (by rw [← Htr.out]; exact Heq.out W)) ?_
 simp only [Act.put, List.setIfInBounds_toArray, List.set_cons_zero, List.set_cons_succ]
 refine wpHold_nil fun W9 hW9 => ?_
 have HT7 := Lib.hid hW9
 clear HS7 hW9
 have HS7 := HT7
 clear HT7
 have ews : IntKind.i64.wrap ((ra.steps : Int) + 1) = (ra.steps : Int) + 1 := IntWalk.i64_in _ (by have := HLs.out; omega)
 have hst2 : (rb.steps : Int) = (ra.steps : Int) + 1 := by have := Hst.out; omega
 have ca2 := (F_a.out _ (D5.out _ (D6.out _ (D7.out _ HS7.out)))).cellv (i := 2) (v := .int .i64 (ra.steps : Int)) rfl
 have cb2 := (F_b.out _ HS7.out).cellv (i := 2) (v := .int .i64 (rb.steps : Int)) rfl
 rw [hst2] at cb2
 go_wp2_with fail
 go_ret
 exact ⟨rfl, (F_low.out _ (D1.out _ (D2.out _ (D3.out _ (D4.out _ (D5.out _ (D6.out _ (D7.out _ HS7.out))))))))⟩
end Go.Proofs.Ytlglilmgklipdaa
