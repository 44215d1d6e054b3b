/- Lemmas for VerdictMoreP. -/
import Derived.Test.YtdcmppdhdcjpfaaGreatZr1
import Derived.Test.YtdcmppdhdcjpfaaGreatZr31
set_option linter.unusedVariables false
set_option linter.unusedSimpArgs false
set_option maxRecDepth 100000
set_option maxHeartbeats 16000000
namespace Go.Proofs.YtdcmppdhdcjpfaaGreat
open Go.RowKit Go.Deep
attribute [local go_sem] Oper.semAt_some
theorem Eb (p : PgV) (hbl : p.body.length ≤ 1000) (A : Option Addr) (cap : Nat) (ts : List IntsV) (hl : ts.length ≤ 1000) (hn : ∀ x ∈ ts, x.l.length ≤ 1000) (fuel : Int) (X : Nat → Prop) (bt bp bf : Nat) (w : World) (hC : RunsC p A cap ts fuel X bt bp bf w) :
 UZ Tryz.prog 136 #[.pointer (some ⟨bt, 0, none⟩), .pointer (some ⟨bp, 0, none⟩), .pointer (some ⟨bf, 0, none⟩)] RnX.enc (fun _ => False) (fun lb => KpX (fun i => X i ∨ i = lb)) (RnP p fuel (ts.map IntsV.l)) (fun xs => xs.length = ts.length) (fun _ => True) ts.length True w := by
 intro lb J Jx W hlb hwW _ hJ hJx hY h0
 have hbw : Below w.heap.size w W := ⟨hwW.os, hwW.tape, hwW.output, hwW.size, fun k hk => hwW.block k hk (by simp)⟩
 have hC1 := hC.add hbw hlb.1
 clear hC hlb hbw hwW w
 have hY' : ∀ pre x W1, J pre W1 → RnP p fuel (ts.map IntsV.l) pre x W1 → pre.length < ts.length → YieldAt Fence.wide 0 Tryz.prog lb #[.int .i64 (x.i : Int), x.r.val] W1 fun e W' => (e = .returned (.bool true) ∧ J (pre ++ [x]) W' ∧ KpX (fun i => X i ∨ i = lb) W1 W') ∨ (e = .returned (.bool false) ∧ Jx (pre ++ [x]) W' ∧ KpX (fun i => X i ∨ i = lb) W1 W') := hY
 clear hY
 generalize (fun i => X i ∨ i = lb) = X1 at hC1 hY'
 obtain ⟨N, hN⟩ : ∃ N, N = ts.length := ⟨_, rfl⟩
 have hNI : (N : Int) ≤ 1000 := by omega
 have HN := Lh hN
 have HC := Lh hC1
 have HJ := Lh hJ
 have HY := Lh hY'
 have Hbl := Lh hbl
 have Hn := Lh hn
 have c1 := hC1.r1.cellv (i := 0) (v := .slice A ts.length cap) rfl
 rw [← hN] at c1
 clear hN hC1 hJ hY' hbl hn hl
 refine callsIn_of_wp Tryz.func136 rfl trivial ?_ rfl
 simp only [Tryz.ntmps136, List.size_toArray, List.length_cons, List.length_nil, Nat.reduceAdd, Nat.reduceSub, Array.replicate_succ, Array.replicate_zero, List.push_toArray, List.append_toArray, List.nil_append, List.cons_append]
 gi_wp2_with fail
 gi_loopw [11] (fun i wr => ∃ (k : Nat) (pre : List RnX), i = .int .i64 (k : Int) ∧ k ≤ N ∧ Hid (pre.length = k) ∧ Hid (RunsC p A cap ts fuel X1 bt bp bf wr) ∧ J pre wr) (fun i _ => N - (intOf i).toNat)
 case atStart => exact ⟨0, [], by simp, Nat.zero_le _, Lh rfl, HC, h0⟩
 case round =>
  clear h0 c1 HC
  obtain ⟨k, pre, rfl, hkN, Hpre, HC, hj⟩ := hrel
  by_cases hlt : k < N
  rotate_left
  · obtain rfl : k = N := by omega
    gi_wp2_with fail
    go_end0
    exact ⟨⟨_, rfl⟩, .inl ⟨_, Hpre.out.trans HN.out, hj⟩⟩
  obtain ⟨x, hx⟩ : ∃ x, ts[k]? = some x := ⟨_, List.getElem?_eq_getElem (by have := HN.out; omega)⟩
  obtain ⟨ad, had, hcx⟩ := Uk HC.out.rt hx
  subst had
  have hxm := List.mem_of_getElem? hx
  have Hx := Lh hx
  have hcx2 : wr.cell? (ad.add k) = some (.slice x.addr x.l.length x.cap) := hcx
  have hkI : (k : Int) < (N : Int) := by omega
  have Hrun := Lh (AiZ p x.addr x.cap x.l fuel wr Hbl.out (Hn.out x hxm) HC.out.ok (HC.out.ot x hxm).reads (HC.out.ot x hxm).all)
  have Hrv := Lh (fun (W : World) (A1 : Option Addr) (c1 : Nat) h1 h2 h3 h4 => Ai4 (p := p) (args := x.l) (fuel := fuel) (w := wr) (W := W) (A := A1) (c := c1) HC.out.ok (HC.out.ot x hxm).all h1 h2 h3 h4)
  have r2 := HC.out.r2
  have c3 := HC.out.r3.cellv (i := 0) (v := .int .i64 fuel) rfl
  clear hx hcx hxm
  gi_wp2_with (refine Q1 rfl 25 _ rfl bp rfl 25 p.cells (0, 0) _ r2 Tryz.underlying25 rfl (by kernel_rfl) ?_)
  refine ⟨trivial, rfl, (callsIn_wide.2 Hrun.out).mono ?_⟩
  rintro e w1 ⟨A1, c1, rfl, hrd, hle, hmx, hni, b1⟩
  have hok := Hrv.out w1 A1 c1 hle hmx hni hrd
  have hev := AhT p x.l fuel
  have hev2 : ((Z2 p x.l fuel).rv A1 c1).evs.length ≤ 10000 := AeE p x.l fuel
  obtain ⟨r, hr⟩ : ∃ r, r = (Z2 p x.l fuel).rv A1 c1 := ⟨_, rfl⟩
  have hrl : ∃ l, (ts.map IntsV.l)[k]? = some l ∧ ∃ A c, r = (Z2 p l fuel).rv A c := ⟨x.l, by rw [List.getElem?_map, Hx.out]; rfl, A1, c1, hr⟩
  have hr2 : Value.agg ((Z2 p x.l fuel).rv A1 c1).cells = .agg r.cells := by rw [hr]
  rw [← hr] at hok hev2
  rw [show (#[Value.int .i64 ((Z2 p x.l fuel).out.getD (0, 0)).1, .int .i64 ((Z2 p x.l fuel).out.getD (0, 0)).2, .int .i64 ((Z2 p x.l fuel).steps : Int), .slice A1 (Z2 p x.l fuel).evs.length c1] : Array Value) = r.cells from by rw [hr]; rfl]
  have HC1 := Lh (HC.out.kx (KpX.of_below b1))
  replace hj := QB HJ.out hj b1
  obtain ⟨cz, hcz⟩ : ∃ c, c = Zr p x.l.length fuel := ⟨_, rfl⟩
  rw [← hcz]
  have Hok := Lh hok
  have Hrl := Lh hrl
  clear hrl hok hev hr hr2 hrd hle hmx hni b1 hcz HC Hrun Hrv r2 c3 hcx2
  gi_wp2_with (refine KD _ _ _ rfl ?_)
  refine Stop.to ?_
  obtain ⟨D, hD⟩ : ∃ D, D = w1.heap.size := ⟨_, rfl⟩
  obtain ⟨w3, hw3⟩ : ∃ w3, w3 = w1.alloc (.cells #[.int .i64 0, .int .i64 0, .int .i64 0, .slice none 0 0] 40) := ⟨_, rfl⟩
  have rD3 : Row w3 D 40 #[.int .i64 0, .int .i64 0, .int .i64 0, .slice none 0 0] := by rw [hw3, hD]; exact Row.new _ _ _
  have b3 : Below w1.heap.size w1 w3 := by rw [hw3]; exact (Below.refl _ _).alloc (Nat.le_refl _) _
  rw [← hw3, ← hD]
  have hDw : w1.heap.size ≤ D := Nat.le_of_eq hD.symm
  clear hw3 hD
  refine QZ rfl 40 _ _ rfl D r.cells rfl rfl 40 _ rD3 (by kernel_rfl) rfl (by simp [RunV.cells, Value.oneCell']) ?_
  have rD4 := rD3.setRow r.cells
  have b4 : Below w1.heap.size w1 (w3.setRow D r.cells) := Qo b3 (Zo _ _ _) hDw
  generalize w3.setRow D r.cells = w4 at rD4 b4 ⊢
  have hP : RnP p fuel (ts.map IntsV.l) pre ⟨k, r⟩ w4 := ⟨Hpre.out.symm, by rw [Hpre.out]; exact Hrl.out, St.go (S := fun W => r.ok W) Hok.out b4, hev2⟩
  have hlen : pre.length < ts.length := by rw [Hpre.out, ← HN.out]; exact hlt
  have hj4 := QB HJ.out hj b4
  obtain ⟨fn, tmps, assign, body, hy, hR⟩ := HY.out _ ⟨k, r⟩ _ hj4 hP hlen
  have HR := Lh hR
  have HC4 := Lh (HC1.out.kx (KpX.of_below b4))
  have Hp4 : Hid ((pre ++ [(⟨k, r⟩ : RnX)]).length = k + 1) := by show _ = _; rw [List.length_append, Hpre.out]; rfl
  have hy' : (Instr.yield lb #[.int .i64 (k : Int), .agg r.cells]).run Tryz.prog w4 = .ok (.round lb fn tmps assign body) w4 := hy
  clear hP hlen hj4 hj hR b4 rD3 b3 hDw Hpre Hrl Hok hev2 HC1 hy
  gi_wp2_with (refine Q1 rfl 40 _ rfl D rfl 40 r.cells (0, 0) _ rD4 Tryz.underlying40 rfl (by kernel_rfl) ?_)
  refine ⟨rfl, HR.out.mono ?_⟩
  clear hy' HR rD4
  rintro e W' (⟨rfl, hj, hk7⟩ | ⟨rfl, hjx, -⟩)
  rotate_left
  · gi_wp2_with fail
    refine bodyPost_ret (results_none rfl _ _ _) rfl ?_
    exact ⟨⟨_, rfl⟩, .inr ⟨_, trivial, hjx⟩⟩
  have HC7 := Lh (HC4.out.kx hk7)
  clear HC4 hk7
  gi_wp2_with fail
  go_roundw
  case rel => exact ⟨k + 1, _, by go_num, by omega, Hp4, HC7, hj⟩
  case measure => simp [intOf]; omega
end Go.Proofs.YtdcmppdhdcjpfaaGreat
namespace Go.Proofs.YtdcmppdhdcjpfaaGreat
open Go.RowKit Go.Deep
attribute [local go_sem] Oper.semAt_some
noncomputable def XH (p : PgV) (ts : List (List Int)) (fuel : Int) : List Rn := if JT p ts fuel = 0 then ts.map (rnZ p fuel) else []
structure BaseR (p : PgV) (ts : List (List Int)) (fuel : Int) (w w' : World) (e : Ending) : Prop where
 ex : ∃ v, e = .returned (.tuple #[v, .int .i64 (JT p ts fuel)]) ∧ w'.ownsRow w.heap.size 37 2 v (XH p ts fuel).length (JK (XH p ts fuel)) ∧ Below w.heap.size w w'
theorem Ahp : (Tryz.prog.info? 37).map (fun i => (i.zero, i.size, i.bytes)) = some (some (.agg #[.int .i64 0, .int .i64 0]), 2, 16) := by kernel_rfl
theorem AcZ (w : World) : (zeroValue 48).run Tryz.prog w = .ok (.slice none 0 0) w := by kernel_rfl
theorem Aiz (r : Rn) : ∀ u ∈ r.cells.toList, u.oneCell' = true := by
 intro u hu
 simp only [Rn.cells, Ym, List.mem_cons, List.not_mem_nil, or_false] at hu
 rcases hu with rfl | rfl <;> rfl
theorem Ah0 {ts : List (List Int)} {f : List Int → Rn} {pre : List RnX} {x : RnX} {l : List Int} (h : pre.map RnX.rn = (ts.take pre.length).map f) (hl : ts[pre.length]? = some l) (hx : x.rn = f l) : (pre ++ [x]).map RnX.rn = (ts.take (pre ++ [x]).length).map f := by
 rw [List.map_append, h, List.length_append, List.length_singleton, List.take_add_one, hl]
 simp [hx]
theorem Ahv {X : Nat → Prop} {A B : World} {lim n size : Nat} {e : TypeId} {v : Value} {xs : List Value} (h : A.ownsRow lim e size v n xs) (hg : A.grownBy B v.ownBlock) (hX : ∀ k, lim ≤ k → X k) : KpX X A B :=
 ⟨fun k o hx ho => (hg.block k (Array.getElem?_eq_some_iff.1 ho).1 (fun e => hx (hX _ (by
  rcases h.2 with ⟨rfl, _⟩ | ⟨g, _, _, rfl, h1, _⟩
  · simp [Value.ownBlock] at e
  · simp [Value.ownBlock] at e; omega)))).trans ho, hg.size⟩
theorem EN {p : PgV} {ts : List IntsV} {fuel : Int} (h : JT p (ts.map IntsV.l) fuel = 0) : ∀ x ∈ ts, x.l.length ≤ 1000 := by
 intro x hx
 unfold JT at h
 split at h
 · rename_i h1; exact absurd h h1
 rename_i h1
 have h2 : Jj p.params p.V = 0 := by
  unfold Zb at h1
  split at h1
  · rename_i h3; exact absurd h3 h1
  split at h1
  · exact absurd (by decide) h1
  · rename_i h3; simpa using h3
 have h3 := (Aap h).2.2.1 x.l (List.mem_map_of_mem hx)
 unfold Jj at h2
 split at h2
 · rename_i h4; have := h4.2.1; have := h4.2.2.1; omega
 · cases h2
theorem Abw (p : PgV) (A : Option Addr) (cap : Nat) (ts : List IntsV) (fuel : Int) (w : World) (hok : p.ok w) (hbl : p.body.length ≤ 1000) (hr : Rd w A (Z6 ts)) (hot : ∀ x ∈ ts, x.ok w) (hl : ts.length ≤ 1000) :
 Calls Tryz.prog 25 #[.agg p.cells, .slice A ts.length cap, .int .i64 fuel] w fun e w' => BaseR p (ts.map IntsV.l) fuel w w' e := by
 have Hok := Lh hok
 have Hbl := Lh hbl
 have Hr := Lh hr
 have Hot := Lh hot
 have Hl := Lh hl
 obtain ⟨n, hnl⟩ : ∃ n, n = ts.length := ⟨_, rfl⟩
 have Hnl := Lh hnl
 rw [← hnl]
 clear hok hbl hr hot hl hnl
 refine (callsIn_wide (n := 0)).1 ?_
 refine callsIn_of_wp_marks Tryz.func25 rfl trivial ?_
 simp only [Tryz.ntmps25, List.size_toArray, List.length_cons, List.length_nil, Nat.reduceAdd, Nat.reduceSub, Array.replicate_succ, Array.replicate_zero, List.push_toArray, List.append_toArray, List.nil_append, List.cons_append]
 refine wpIn_wide.2 ?_
 go_wp2_with (refine Qp _ _ rfl ?_)
 refine Stop.to ?_
 refine Qf rfl 25 _ rfl p.cells rfl ?_
 intro G Gw Gh Gr Gb
 have b1 := (Below.refl w.heap.size w).trans (Gb.mono Gh)
 have hGw : w.heap.size ≤ G := Gh
 have Hc := Lh (Vu p Hbl.out Gw (Hok.out.go b1))
 clear Gb Gh
 go_wp2_with (refine wpList_load_row rfl 25 _ rfl G rfl 25 p.cells (0, 0) _ Gr Tryz.underlying25 rfl (by kernel_rfl) ?_)
 refine Hc.out.mono ?_
 rintro e w1 ⟨rfl, b2⟩
 replace Gr := Gr.below b2 Gr.lt
 replace b1 := b1.trans (b2.mono b1.size)
 clear b2 Hc
 obtain ⟨z, hz⟩ : ∃ z, z = Zb p := ⟨_, rfl⟩
 rw [← hz]
 by_cases h0 : z = 0
 rotate_left
 · have hz2 : (z != 0) = true := by simpa using h0
   have hb : JT p (ts.map IntsV.l) fuel = z := by unfold JT; rw [← hz, if_pos h0]
   have HF : Hid (BaseR p (ts.map IntsV.l) fuel w w1 (.returned (.tuple #[.slice none 0 0, .int .i64 z]))) := ⟨_, by rw [hb], by unfold XH; rw [hb, if_neg h0]; exact World.ownsRow_nil _ _ _ _, b1⟩
   clear hz h0 hb
   go_wp2_with fail
   exact ⟨_, results_tmp2 Tryz.results25 _ _ _, HF.out⟩
 have Hz : Hid (Zb p = 0) := hz.symm.trans h0
 subst h0
 clear hz
 have Hc := Lh (Afw p.params fuel A cap ts w1 (Hr.out.go b1) (by have := Hl.out; omega))
 rw [← Hnl.out] at Hc
 have c0 := Gr.cellv (i := 0) (v := .int .i64 p.params) rfl
 go_wp2_with fail
 refine Hc.out.mono ?_
 rintro e w2 ⟨rfl, b2⟩
 replace Gr := Gr.below b2 Gr.lt
 replace b1 := b1.trans (b2.mono b1.size)
 clear b2 Hc c0
 obtain ⟨z, hz⟩ : ∃ z, z = Jd p.params (ts.map IntsV.l) fuel := ⟨_, rfl⟩
 rw [← hz]
 have hb : JT p (ts.map IntsV.l) fuel = z := by unfold JT; rw [if_neg (by rw [Hz.out]; simp), ← hz]
 have Hb := Lh hb
 clear hz hb
 by_cases h0 : z = 0
 rotate_left
 · have hz2 : (z != 0) = true := by simpa using h0
   have HF : Hid (BaseR p (ts.map IntsV.l) fuel w w2 (.returned (.tuple #[.slice none 0 0, .int .i64 z]))) := ⟨_, by rw [Hb.out], by unfold XH; rw [Hb.out, if_neg h0]; exact World.ownsRow_nil _ _ _ _, b1⟩
   clear h0 Hb
   go_wp2_with fail
   exact ⟨_, results_tmp2 Tryz.results25 _ _ _, HF.out⟩
 subst h0
 go_wp2_with (first | fail | (refine QY _ rfl ?_))
 refine Stop.to ?_
 refine Ql rfl 48 rfl _ _ (AcZ _) rfl ?_
 intro Q Qw Qh Qr Qb
 have Qc := Qb.mono Qh
 have hQw : w.heap.size ≤ Q := Nat.le_trans b1.size Qh
 replace Gr := Gr.below Qc Gr.lt
 replace b1 := b1.trans (Qc.mono b1.size)
 clear Qb Qh Qc
 go_wp2_with (refine wpList_load_row rfl 25 _ rfl G rfl 25 p.cells (0, 0) _ Gr Tryz.underlying25 rfl (by kernel_rfl) ?_)
 refine (Ec p A n cap fuel Qw).mono ?_
 rintro e w3 ⟨bt, bp, bf, rfl, r1, r2, r3, g1, g2, g3, b2⟩
 have sQ := Qr.lt
 replace Qr := Qr.below b2 Qr.lt
 have b3 := b1.trans (b2.mono b1.size)
 obtain ⟨lim, hlim⟩ : ∃ lim, lim = w3.heap.size := ⟨_, rfl⟩
 rw [Hnl.out] at r1
 have hC : RunsC p A cap ts fuel (fun k => k = Q ∨ lim ≤ k) bt bp bf w3 := RunsC.of (lim := Q) (w0 := w) (fun k hk => by have := Qr.lt; rcases hk with h | h <;> omega) (by omega) Hok.out Hr.out Hot.out b3 r1 r2 r3
  (fun h => by have := r1.lt; omega) (fun h => by have := r2.lt; omega) (fun h => by have := r3.lt; omega)
 have Hit := Lh (Eb p Hbl.out A cap ts Hl.out (EN Hb.out) fuel (fun k => k = Q ∨ lim ≤ k) bt bp bf w3 hC)
 have hQl : Q < lim := by have := Qr.lt; omega
 have hwl : w.heap.size ≤ lim := by omega
 have Hlim := Lh hlim
 have HI0 : Hid (∃ v, Row w3 Q 48 #[v] ∧ w3.ownsRow lim 37 2 v (([] : List RnX).map RnX.rn).length (JK (([] : List RnX).map RnX.rn)) ∧ ([] : List RnX).map RnX.rn = ((ts.map IntsV.l).take ([] : List RnX).length).map (rnZ p fuel) ∧ Below w.heap.size w w3 ∧ lim ≤ w3.heap.size) := ⟨_, Qr, World.ownsRow_nil _ _ _ _, rfl, b3, by omega⟩
 clear hC r1 r2 r3 g1 g2 g3 b1 b2 b3 sQ hlim Qr Gr
 go_wp2_with fail
 refine (wpIn_wide (n := 0)).1 ?_
 refine XT (gf := 136) (lb := #[.pointer (some ⟨bt, 0, none⟩), .pointer (some ⟨bp, 0, none⟩), .pointer (some ⟨bf, 0, none⟩)]) rfl (enters_of Tryz.func136 (by kernel_rfl) rfl) Hit.out (fun r h => h.elim)
  (fun h k => h.trans k) (fun V o o' ho hc => ⟨fun i p hx hp => by rw [World.putObj_heap_other (fun e => hx (.inr e))]; exact hp, by simp⟩) (World.grownBy.refl _ _) (fun _ => rfl)
  (fun pre V => ∃ v, Row V Q 48 #[v] ∧ V.ownsRow lim 37 2 v (pre.map RnX.rn).length (JK (pre.map RnX.rn)) ∧ pre.map RnX.rn = ((ts.map IntsV.l).take pre.length).map (rnZ p fuel) ∧ Below w.heap.size w V ∧ lim ≤ V.heap.size)
  (fun _ _ _ => False) (.inl trivial) ?hI ?hIx HI0.out
  (fun pre x a' V => ∃ D, a' = { tmps := #[.agg p.cells, .slice A n cap, .int .i64 fuel, .pointer (some ⟨G, 0, none⟩), undef, undef, .slice none 0 0, .int .i64 0, .int .i64 0, .int .i64 0, .pointer (some ⟨Q, 0, none⟩), undef, .pointer (some ⟨D, 0, none⟩), .agg p.cells, .int .i64 0, .int .i64 0, .bool false, undef, .pointer (some ⟨G, 0, none⟩), .int .i64 p.params, .slice A n cap, .int .i64 fuel, .int .i64 0, .int .i64 0, .bool false, undef, .agg p.cells, .slice A n cap, .int .i64 fuel, .func (.func 136) #[] #[.pointer (some ⟨bt, 0, none⟩), .pointer (some ⟨bp, 0, none⟩), .pointer (some ⟨bf, 0, none⟩)], .int .i64 (x.i : Int), .agg x.r.cells, undef, undef, undef, undef, undef, undef], defers := [] } ∧ Row V D 40 x.r.cells ∧ (∃ l, (ts.map IntsV.l)[pre.length]? = some l ∧ x.rn = rnZ p fuel l)) ?hAx ?assign ?body ?done ?stop
 case hI =>
  rintro pre V V' row ⟨v, h1, h2, h3, h4, h5⟩ hg hr
  have hrow : ∀ r, row = some r → w3.heap.size ≤ r ∧ v.ownBlock ≠ some r := fun r e => by
   rcases hr r e with h | ⟨h, o, ho, hc⟩
   · exact h.elim
   · exact ⟨h, ZS h2 ho hc⟩
  refine ⟨v, h1.abide hg hr, h2.kept hg ?_, h3, h4.grown hg h4.size (fun k e => by have := (hrow k e).1; have := Hlim.out; omega), Nat.le_trans h5 hg.size⟩
  cases row with
  | none => cases v.ownBlock <;> simp
  | some r => exact .inr (hrow r rfl).2
 case hIx => exact fun _ _ _ _ _ h _ _ => h
 case hAx =>
  rintro pre x a' _ V V' row ⟨D, h1, h2, h3⟩ hg hr
  exact ⟨D, h1, h2.abide hg hr, h3⟩
 case stop => exact fun D c pre W _ _ h _ => h.elim
 case assign =>
  rintro l3 pre x V K hI hP hK
  have HK := Lh hK
  have HI := Lh hI
  have HP := Lh hP.rn
  clear hK hI hP
  unfold RnX.enc
  rw [show x.r.val = .agg x.r.cells from rfl]
  gi_wp2_with (refine KD _ _ _ rfl ?_)
  refine Stop.to ?_
  obtain ⟨D, hD⟩ : ∃ D, D = V.heap.size := ⟨_, rfl⟩
  obtain ⟨V1, hV1⟩ : ∃ V1, V1 = V.alloc (.cells #[.int .i64 0, .int .i64 0, .int .i64 0, .slice none 0 0] 40) := ⟨_, rfl⟩
  have rD : Row V1 D 40 #[.int .i64 0, .int .i64 0, .int .i64 0, .slice none 0 0] := by rw [hV1, hD]; exact Row.new _ _ _
  have b1 : Below V.heap.size V V1 := by rw [hV1]; exact (Below.refl _ _).alloc (Nat.le_refl _) _
  rw [← hV1, ← hD]
  have hDw : V.heap.size ≤ D := Nat.le_of_eq hD.symm
  clear hV1 hD
  refine QZ rfl 40 _ _ rfl D x.r.cells rfl rfl 40 _ rD (by kernel_rfl) rfl (by simp [RunV.cells, Value.oneCell']) ?_
  have rD2 := rD.setRow x.r.cells
  have o2 := Zo V1 D x.r.cells
  have b2 : Below V.heap.size V (V1.setRow D x.r.cells) := Qo b1 o2 hDw
  generalize V1.setRow D x.r.cells = V2 at rD2 o2 b2 ⊢
  obtain ⟨v, h1, h2, h3, h4, h5⟩ := HI.out
  have hs2 := b2.size
  have HF := Lh (And.intro ((KpX.of_below b2).keeps (b := w3.heap.size) (X := fun _ => False) (fun _ h => h.elim)) (And.intro (KpX.of_below (X := fun i => (i = Q ∨ lim ≤ i) ∨ i = w3.heap.size + 1) b2) (And.intro (show ∃ v, Row V2 Q 48 #[v] ∧ V2.ownsRow lim 37 2 v (pre.map RnX.rn).length (JK (pre.map RnX.rn)) ∧ pre.map RnX.rn = ((ts.map IntsV.l).take pre.length).map (rnZ p fuel) ∧ Below w.heap.size w V2 ∧ lim ≤ V2.heap.size from ⟨v, h1.below b2 h1.lt, Qs h2 b2, h3, h4.trans (b2.mono (by have := h4.size; omega)), by omega⟩) rD2)))
  clear rD rD2 b1 o2 b2 hDw h1 h2 h3 h4 h5 hs2 HI
  gi_wp2_with fail
  exact HK.out _ _ HF.out.1 HF.out.2.1 HF.out.2.2.1 ⟨D, rfl, HF.out.2.2.2, HP.out⟩
 case body =>
  rintro l3 pre x a' V hl3 _ ⟨v, h1, h2, h3, h4, h5⟩ ⟨D, rfl, hrD, l, hl, hx⟩ hlen
  have hpl : pre.length ≤ 1000 := by have := Hl.out; omega
  have Hl2 := Lh hl
  have Hx := Lh hx
  have H3 := Lh h3
  clear hl hx h3 hlen hl3
  have c1 := h1.cellv (i := 0) (v := v) rfl
  obtain ⟨M, hM⟩ : ∃ M, M = V.heap.size := ⟨_, rfl⟩
  obtain ⟨V1, hV1⟩ : ∃ V1, V1 = V.alloc (.cells #[.int .i64 x.r.kind, .int .i64 x.r.value] 37) := ⟨_, rfl⟩
  have Mr : Row V1 M 37 #[.int .i64 x.r.kind, .int .i64 x.r.value] := by rw [hV1, hM]; exact Row.new _ _ _
  have Mb : Below V.heap.size V V1 := by rw [hV1]; exact (Below.refl _ _).alloc (Nat.le_refl _) _
  have own2 := Qs h2 Mb
  have r2 := h1.below Mb h1.lt
  have hBs : lim ≤ V1.heap.size := Nat.le_trans h5 Mb.size
  have b2 := h4.trans (Mb.mono h4.size)
  obtain ⟨v3, V3, hrun, own3, hgr, hat⟩ := ZB (P := Tryz.prog) 48 37 (.agg #[.int .i64 0, .int .i64 0]) 2 16 Tryz.underlying48 Ahp rfl (by decide) (by decide) own2 hBs (JM (cs := x.rn.cells.toList) (by simpa [RnX.rn, Rn.cells, Ym] using Mr)) (m := 1) (cap := 1) rfl (Aiz _) (by simp) (by simp; omega)
  have r3 := r2.grown hgr (Qz own2 r2 (by decide))
  have o4 := Zc V3 Q 0 v3
  have own4 := QA own3 o4 (Qz own3 r3 (by decide))
  have r4 := r3.set 0 v3
  have b3 := Qm b2 own2 hgr (by omega) hwl
  have b4 := Qo b3 o4 hQw
  have kf := ((KpX.of_below Mb).keeps (b := w3.heap.size) (X := fun _ => False) (fun _ h => h.elim)).trans ((KeepsFrom.of_own own2 hgr).trans (KeepsFrom.of_only r3 o4))
  have kp : KpX (fun i => (i = Q ∨ lim ≤ i) ∨ i = w3.heap.size + 1) V (V3.setCell ⟨Q, 0, none⟩ v3) := (KpX.of_below Mb).trans ((Ahv own2 hgr (fun k hk => .inl (.inr hk))).trans (KpX.only o4 (.inl (.inl rfl))))
  have hs4 : lim ≤ (V3.setCell ⟨Q, 0, none⟩ v3).heap.size := by have e1 := hgr.size; have e2 := o4.size; omega
  have hst := Ah0 H3.out Hl2.out Hx.out
  have HF : Hid (KeepsFrom w3.heap.size V (V3.setCell ⟨Q, 0, none⟩ v3) ∧ KpX (fun i => (i = Q ∨ lim ≤ i) ∨ i = w3.heap.size + 1) V (V3.setCell ⟨Q, 0, none⟩ v3) ∧ ∃ v, Row (V3.setCell ⟨Q, 0, none⟩ v3) Q 48 #[v] ∧ (V3.setCell ⟨Q, 0, none⟩ v3).ownsRow lim 37 2 v ((pre ++ [x]).map RnX.rn).length (JK ((pre ++ [x]).map RnX.rn)) ∧ (pre ++ [x]).map RnX.rn = ((ts.map IntsV.l).take (pre ++ [x]).length).map (rnZ p fuel) ∧ Below w.heap.size w (V3.setCell ⟨Q, 0, none⟩ v3) ∧ lim ≤ (V3.setCell ⟨Q, 0, none⟩ v3).heap.size) :=
   ⟨kf, kp, v3, r4, by rw [List.map_append, List.map_singleton, AdJ, List.length_append]; exact own4, hst, b4, hs4⟩
  obtain ⟨A3, m3, d3, rfl⟩ := JD own3
  have c3 := r3.cellv (i := 0) (v := v) rfl
  have f3 := r3.free 0
  have Hrun := Lh hrun
  clear h1 h2 h4 h5 Mr Mb own2 r2 hBs b2 hrun own3 hgr hat r3 o4 own4 r4 b3 b4 kf kp hs4 hst
  gi_wp2_with (first | (refine ZT rfl 37 _ rfl ⟨D, 0, none⟩ rfl [.int .i64 x.r.kind, .int .i64 x.r.value] _ (Uh hrD) Tryz.underlying37 rfl (by kernel_rfl) ?_) | (refine Abv _ _ _ _ rfl ?_))
  rw [← hV1, ← hM]
  clear hV1 hM
  refine Stop.to ?_
  refine Y6 rfl (fun c h => by cases h) rfl _ (Qq rfl Hrun.out) ?_
  clear Hrun
  gi_wp2_with fail
  exact HF.out
 case done =>
  rintro D ys V hD hys ⟨v, h1, h2, h3, h4, h5⟩ hK
  have hr : ∀ r, some D = some r → False ∨ (True ∧ ∃ o : Obj, V.heap[r]? = some o ∧ o.isCells = false) := fun r e => by cases e; exact .inr ⟨trivial, _, hK, rfl⟩
  have hg := grownBy_putObj' V D (.deferred none)
  have own9 := h2.kept hg (.inr (ZS h2 hK rfl))
  obtain ⟨A9, m9, c9, rfl⟩ := JD own9
  have hc := h1.cellv (i := 0) (v := .slice A9 m9 c9) rfl
  have hbl : XH p (ts.map IntsV.l) fuel = ys.map RnX.rn := by
   unfold XH
   rw [Hb.out, if_pos rfl, h3, hys, List.take_of_length_le (by rw [List.length_map]; exact Nat.le_refl _)]
  have HF : Hid (BaseR p (ts.map IntsV.l) fuel w (V.putObj D (.deferred none)) (.returned (.tuple #[.slice A9 m9 c9, .int .i64 0]))) := ⟨_, by rw [Hb.out], by rw [hbl]; exact QI own9 (by have := Hlim.out; omega), h4.grown hg h4.size (fun k e => by cases e; have := Hlim.out; omega)⟩
  have HK := Lh hK
  clear hK hr hg h1 h2 h3 h4 h5 hys own9 hbl
  gi_wp2
  go_wp2_with fail
  refine ⟨by simp, .inl ⟨_, _, rfl, run_takeDeferred HK.out, ?_⟩⟩
  exact ⟨_, results_tmp2 Tryz.results25 _ _ _, HF.out⟩
end Go.Proofs.YtdcmppdhdcjpfaaGreat
