/- Lemmas for VerdictMoreP. -/
import Derived.Test.YtdcmppdhdcjpfaaGreatZr1
import Derived.Test.YtdcmppdhdcjpfaaGreatZr31
import Derived.Test.YtdcmppdhdcjpfaaGreatZr32
import Derived.Test.YtdcmppdhdcjpfaaGreatZr10
set_option linter.unusedVariables false
set_option linter.unusedSimpArgs false
set_option maxRecDepth 100000
set_option maxHeartbeats 16000000
namespace Go.Proofs.YtdcmppdhdcjpfaaGreat
open Go.RowKit Go.Deep
attribute [local go_sem] Oper.semAt_some
def mt0 : MtV := ⟨none, 0, ⟨⟨[], 0, 0⟩, 0, 0, 0, 0, []⟩⟩
structure JudR (p : PgV) (d : Dl) (ts : List (List Int)) (fuel : Int) (w w' : World) (e : Ending) : Prop where
 ex : ∃ y : MtV, e = .returned (.tuple #[.agg y.cells.toArray, .int .i64 (QQ p d ts fuel)]) ∧ (QQ p d ts fuel = 0 → y.m = Kn p d ts fuel ∧ MtT w' y) ∧ (QQ p d ts fuel ≠ 0 → y = mt0) ∧ Below w.heap.size w w'
theorem Zq (w : World) : (zeroValue 54).run Tryz.prog w = .ok (.agg mt0.cells.toArray) w := by kernel_rfl
theorem Ag1 {w : World} : (zeroValue 25).run Tryz.prog w = .ok (.agg #[.int .i64 0, .slice none 0 0, .slice none 0 0]) w := by kernel_rfl
theorem Aib (w : World) : (zeroValue 139).run Tryz.prog w = .ok .nilFunc w := by kernel_rfl
theorem Ag8 {ops : Array Oper} {rest : List Oper} {o : Oper} {a : Act} {w : World} {Q : Exit → Act → World → Prop} (s x : Operand) (t u : TypeId) (_ : o.op = .call { callee := .builtin .append, args := #[s, x], argTypes := #[t, u] }) (h : Stop (wpList Tryz.prog ops Q (o :: rest) a w) id) : wpList Tryz.prog ops Q (o :: rest) a w := h.out
theorem AhM {W : World} {l : List Int} (h : Rd W none (Qi l)) : l = [] := by
 cases l with
 | nil => rfl
 | cons x l => obtain ⟨_, e, _⟩ := h 0 (.int .i64 x) rfl; cases e
theorem Agn : ∀ {l : List Rn} {k : Nat} {b : Rn}, l[k]? = some b → JK l ≠ []
 | [], _, _, h => by simp at h
 | y :: ys, _, _, _ => by simp [JK, Rn.cells, Ym]
theorem Ack {W : World} {A : Option Addr} {cap : Nat} {d : Dl} {mm : Mt} (hd : mm.d = d) (hg : mm.digest.length ≤ 1000000) (h : MtT W ⟨A, cap, ⟨d, 0, 0, 0, 0, []⟩⟩) : MtT W ⟨A, cap, mm⟩ := by
 subst hd
 exact ⟨⟨h.1.rd, h.1.len, h.1.nil, hg⟩, h.2⟩
theorem YJ {W W' : World} {x : MtV} {g : Nat} {t : TypeId} {cs : Array Value} (h : MtT W x) (hr : Row W g t cs) (ht : t ≠ 3) (o : Only g W W') : MtT W' x := h.same fun a cs' _ k => k.only o (fun e => by
 have h1 : W.heap[g]? = some (.cells cs' 3 (0, 0)) := by rw [← e]; exact k
 rw [show W.heap[g]? = some (.cells cs t (0, 0)) from hr] at h1
 injection h1 with h1; injection h1 with _ h1; exact ht h1)
theorem AeB (p : PgV) (fuel : Int) (a : List Int) : (rnZ p fuel a).dig.length = 32 := AbO _
theorem Aab {f g : List Int → Rn} (d : Dl) (ts : List (List Int)) (h : ∀ a, (g a).dig.length = 32) : (QR f g d ts).digest.length ≤ 1000000 := by
 by_cases h0 : (QR f g d ts).verdict = 0
 · rw [X7] at h0; rw [YG h0]; simp
 · obtain ⟨i, a, _, e, _⟩ := Af7 h0
   rw [e]
   show (g a).dig.length ≤ _
   rw [h]; omega
theorem Afx {tl : List (List Int)} {pre : List RnX} {x : RnX} {l : List Int} (h : tl[pre.length]? = some l) : tl.take (pre ++ [x]).length = tl.take pre.length ++ [l] := by
 rw [List.length_append, List.length_singleton, List.take_add_one, h]; rfl
theorem Jg (p : PgV) (x : DlV) (A : Option Addr) (cap : Nat) (ts : List IntsV) (fuel : Int) (w : World) (hok : p.ok w) (hx : DlOk w x) (hbl : p.body.length ≤ 999) (hr : Rd w A (Z6 ts)) (hot : ∀ x ∈ ts, x.ok w) (hl : ts.length ≤ 1000) :
 Calls Tryz.prog 29 #[.agg p.cells, .agg x.cells, .slice A ts.length cap, .int .i64 fuel] w fun e w' => JudR p x.d (ts.map IntsV.l) fuel w w' e := by
 obtain ⟨PA, pc, d⟩ := x
 show Calls Tryz.prog 29 #[.agg p.cells, .agg #[.slice PA d.path.length pc, .int .i64 d.op, .int .i64 d.n], .slice A ts.length cap, .int .i64 fuel] w fun e w' => JudR p d (ts.map IntsV.l) fuel w w' e
 have Hok := Lh hok
 have Hx : Hid (Rd w PA (Qi d.path) ∧ d.path.length ≤ 1000000) := ⟨hx.1, hx.2⟩
 have Hbl := Lh hbl
 have Hr := Lh hr
 have Hot := Lh hot
 have Hl := Lh hl
 obtain ⟨n, hnl⟩ : ∃ n, n = ts.length := ⟨_, rfl⟩
 have Hnl := Lh hnl
 rw [← hnl]
 clear hok hx hbl hr hot hl hnl
 refine (callsIn_wide (n := 0)).1 ?_
 refine callsIn_of_wp_marks Tryz.func29 rfl trivial ?_
 simp only [Tryz.ntmps29, List.size_toArray, List.length_cons, List.length_nil, Nat.reduceAdd, Nat.reduceSub, Array.replicate_succ, Array.replicate_zero, List.push_toArray, List.append_toArray, List.nil_append, List.cons_append]
 refine wpIn_wide.2 ?_
 go_wp2_with (refine Qp _ _ rfl ?_)
 refine Stop.to ?_
 refine Qf rfl 25 _ rfl p.cells rfl ?_
 intro G Gw Gh Gr Gb
 go_wp2_with (refine Qp _ _ rfl ?_)
 refine Stop.to ?_
 refine Qf rfl 35 _ rfl #[.slice PA d.path.length pc, .int .i64 d.op, .int .i64 d.n] rfl ?_
 intro D Dw Dh Dr Db
 go_wp2_with (first | fail | (refine QY _ rfl ?_))
 refine Stop.to ?_
 refine Ql rfl 54 rfl _ _ (Zq _) rfl ?_
 intro R Rw Rh Rr Rb
 have b1 := (Below.refl w.heap.size w).trans (Gb.mono Gh)
 have b2 := b1.trans ((Db.mono Dh).mono b1.size)
 have b3 := b2.trans ((Rb.mono Rh).mono b2.size)
 have hRw : w.heap.size ≤ R := Nat.le_trans b2.size Rh
 have hDw : w.heap.size ≤ D := Nat.le_trans b1.size Dh
 have hDR : D < R := Nat.lt_of_lt_of_le Dr.lt Rh
 have rG := (Gr.below Db (Nat.lt_of_lt_of_le Gr.lt Dh))
 have rG2 := rG.below Rb (Nat.lt_of_lt_of_le rG.lt Rh)
 have rD := Dr.below Rb (Nat.lt_of_lt_of_le Dr.lt Rh)
 have rR : Row Rw R 54 mt0.cells.toArray := Rr
 have Hc := Lh (Abw p A cap ts fuel Rw (Hok.out.go b3) (by have := Hbl.out; omega) (Hr.out.go b3) (fun y hy => (Hot.out y hy).go b3) Hl.out)
 rw [← Hnl.out] at Hc
 clear Gr Gb Gh Dr Db Dh Rb Rh rG b1 b2 Rr
 go_wp2_with fail
 go_step3
 go_wp2_with (refine wpList_load_row rfl 25 _ rfl G rfl 25 p.cells (0, 0) _ rG2 Tryz.underlying25 rfl (by kernel_rfl) ?_)
 refine Hc.out.mono ?_
 rintro e w1 ⟨v, rfl, ownB, b4⟩
 replace rG2 := rG2.below b4 rG2.lt
 replace rD := rD.below b4 rD.lt
 replace rR := rR.below b4 rR.lt
 have ownB2 := QI ownB b3.size
 replace b3 := b3.trans (b4.mono b3.size)
 clear b4 Hc ownB
 obtain ⟨bl, hbl⟩ : ∃ bl, bl = XH p (ts.map IntsV.l) fuel := ⟨_, rfl⟩
 rw [← hbl] at ownB2
 obtain ⟨nb, hnb⟩ : ∃ nb, nb = bl.length := ⟨_, rfl⟩
 rw [← hnb] at ownB2
 obtain ⟨BA, bc, rfl⟩ := Zd ownB2
 have Hbl2 := Lh hbl
 have Hnb := Lh hnb
 obtain ⟨z, hz⟩ : ∃ z, z = JT p (ts.map IntsV.l) fuel := ⟨_, rfl⟩
 rw [← hz]
 have Hz := Lh hz
 clear hbl hnb hz
 go_wp2_with (refine QY _ rfl ?_)
 refine Stop.to ?_
 refine Ql rfl 48 rfl _ _ (AcZ _) rfl ?_
 intro F Fw Fh Fr Fb
 have cF := Fr.cellv (i := 0) (v := .slice none 0 0) rfl
 have fF := Fr.free 0
 have rF : Row (Fw.setCell ⟨F, 0, none⟩ (.slice BA nb bc)) F 48 #[.slice BA nb bc] := Fr.set 0 _
 have o2 : Only F Fw (Fw.setCell ⟨F, 0, none⟩ (.slice BA nb bc)) := Zc Fw F 0 _
 have bH : Below w1.heap.size w1 (Fw.setCell ⟨F, 0, none⟩ (.slice BA nb bc)) := (Fb.mono Fh).trans (o2.below Fh)
 have hFw : w.heap.size ≤ F := Nat.le_trans b3.size Fh
 have hDF : D < F := Nat.lt_of_lt_of_le rD.lt Fh
 replace rG2 := rG2.below bH rG2.lt
 replace rD := rD.below bH rD.lt
 replace rR := rR.below bH rR.lt
 replace ownB2 := Qs ownB2 bH
 replace b3 := b3.trans (bH.mono b3.size)
 clear bH o2 Fr Fb Fh
 by_cases h0 : z = 0
 rotate_left
 · have hz2 : (z != 0) = true := by simpa using h0
   have hjc : QQ p d (ts.map IntsV.l) fuel = z := by unfold QQ; rw [if_pos (by rw [← Hz.out]; exact h0), ← Hz.out]
   have Hj := Lh hjc
   have H0 : Hid (¬ z = 0) := h0
   clear h0 hjc ownB2 rG2 rD rF
   go_wp2_with (refine QD 54 _ _ rfl ?_)
   refine Stop.to ?_
   clear cF fF
   generalize Fw.setCell ⟨F, 0, none⟩ (.slice BA nb bc) = W2 at *
   refine Qk rfl 54 _ _ rfl R mt0.cells.toArray rfl rfl 54 _ rR (by kernel_rfl) rfl (by simp [mt0, MtV.cells, Value.oneCell']) ?_
   intro W9 r9 o9
   have b9 := Qo b3 o9 hRw
   have HF : Hid (JudR p d (ts.map IntsV.l) fuel w W9 (.returned (.tuple #[.agg mt0.cells.toArray, .int .i64 z]))) := ⟨mt0, by rw [Hj.out], fun h => absurd (Hj.out.symm.trans h) H0.out, fun _ => rfl, b9⟩
   clear o9 rR b3 b9 Hj
   go_wp2_with fail
   try rw [Exit.noGoto_ret]
   exact ⟨_, QS Tryz.results29 _ _ R 54 _ (0, 0) _ rfl r9 Tryz.underlying54 rfl (by kernel_rfl), HF.out⟩
 have Hz0 : Hid (JT p (ts.map IntsV.l) fuel = 0) := Hz.out.symm.trans h0
 subst h0
 clear Hz
 have hDW2 := rD.lt
 have Hc := Lh (AdD p ⟨PA, pc, d⟩ (Fw.setCell ⟨F, 0, none⟩ (.slice BA nb bc)) (Hok.out.go b3) ⟨Hx.out.1.go b3, Hx.out.2⟩ (by have := Hbl.out; omega))
 go_wp2_with (first | (refine wpList_load_row rfl 25 _ rfl G rfl 25 p.cells (0, 0) _ rG2 Tryz.underlying25 rfl (by kernel_rfl) ?_) | (refine wpList_load_row rfl 35 _ rfl D rfl 35 #[.slice PA d.path.length pc, .int .i64 d.op, .int .i64 d.n] (0, 0) _ rD Tryz.underlying35 rfl (by kernel_rfl) ?_))
 clear cF fF
 generalize Fw.setCell ⟨F, 0, none⟩ (.slice BA nb bc) = W2 at *
 refine Hc.out.mono ?_
 rintro e w3 ⟨m, rfl, hm, hm0, b4⟩
 replace rD := rD.below b4 rD.lt
 replace rR := rR.below b4 rR.lt
 replace rF := rF.below b4 rF.lt
 replace ownB2 := Qs ownB2 b4
 replace b3 := b3.trans (b4.mono b3.size)
 clear b4 Hc rG2
 obtain ⟨z, hz⟩ : ∃ z, z = Ue p d := ⟨_, rfl⟩
 rw [← hz] at hm hm0 ⊢
 have hjc : QQ p d (ts.map IntsV.l) fuel = z := by unfold QQ; rw [if_neg (by rw [Hz0.out]; simp), ← hz]
 have Hj := Lh hjc
 have Hz := Lh hz
 have Hm := Lh hm
 clear hjc hz hm hm0
 go_wp2_with (refine QY _ rfl ?_)
 refine Stop.to ?_
 refine Ql rfl 25 rfl _ _ Ag1 rfl ?_
 intro Q Qw Qh Qr Qb
 go_wp2_with (refine QD 25 _ _ rfl ?_)
 refine Stop.to ?_
 refine Qk rfl 25 _ _ rfl Q m.cells rfl rfl 25 _ Qr (by kernel_rfl) rfl (by simp [PgV.cells, Value.oneCell']) ?_
 intro W4 rQ o2
 have bH : Below w3.heap.size w3 W4 := (Qb.mono Qh).trans (o2.below Qh)
 have hDQ : D < Q := Nat.lt_of_lt_of_le rD.lt Qh
 replace rD := rD.below bH rD.lt
 replace rR := rR.below bH rR.lt
 replace rF := rF.below bH rF.lt
 replace ownB2 := Qs ownB2 bH
 have b5 := b3.trans (bH.mono b3.size)
 have BH := Lh bH
 clear bH o2 Qr Qb Qh b3
 by_cases h0 : z = 0
 rotate_left
 · have hz2 : (z != 0) = true := by simpa using h0
   have H0 : Hid (¬ z = 0) := h0
   clear h0 ownB2 rD rF rQ BH
   go_wp2_with (refine QD 54 _ _ rfl ?_)
   refine Stop.to ?_
   refine Qk rfl 54 _ _ rfl R mt0.cells.toArray rfl rfl 54 _ rR (by kernel_rfl) rfl (by simp [mt0, MtV.cells, Value.oneCell']) ?_
   intro W9 r9 o9
   have b9 := Qo b5 o9 hRw
   have HF : Hid (JudR p d (ts.map IntsV.l) fuel w W9 (.returned (.tuple #[.agg mt0.cells.toArray, .int .i64 z]))) := ⟨mt0, by rw [Hj.out], fun h => absurd (Hj.out.symm.trans h) H0.out, fun _ => rfl, b9⟩
   clear o9 rR b5 b9 Hj
   go_wp2_with fail
   try rw [Exit.noGoto_ret]
   exact ⟨_, QS Tryz.results29 _ _ R 54 _ (0, 0) _ rfl r9 Tryz.underlying54 rfl (by kernel_rfl), HF.out⟩
 subst h0
 obtain ⟨hmut, hmok, hmbl, hmlo⟩ := Hm.out rfl
 have hmv : Qi m.V ≠ [] → ∀ ad, m.va = some ad → ¬ ad.block = D := fun _ ad e h => by have := hmlo ad (.inl e); omega
 have hmb : m.body.flatMap Nd.cells ≠ [] → ∀ ad, m.ba = some ad → ¬ ad.block = D := fun _ ad e h => by have := hmlo ad (.inr e); omega
 replace hmok := hmok.go BH.out
 have Hmut := Lh hmut
 have Hmbl := Lh hmbl
 clear Hm BH hmut hmbl hmlo hDW2
 have rD' : Row W4 D 35 #[.slice PA d.path.length pc, .int .i64 d.op, .int .i64 d.n] := rD
 have hpr : Rd W4 PA (Qi d.path) := Hx.out.1.go b5
 have hπ : d.path.length ≤ 1000000 := Hx.out.2
 obtain ⟨v5, w5, hrun, hown, hgr, -⟩ := ZB (P := Tryz.prog) 22 3 (.int .i64 0) 1 8 Tryz.underlying22 Jn rfl (by decide) (by decide) (World.ownsRow_nil W4 W4.heap.size 3 1) (Nat.le_refl _) hpr (m := d.path.length) (cap := pc) (by rw [Kk, Nat.mul_one]) (Jo d.path) (fun e => by subst e; rw [AhM hpr]; rfl) (by omega)
 have b6 : Below W4.heap.size W4 w5 := ⟨hgr.os, hgr.tape, hgr.output, hgr.size, fun k hk => hgr.block k hk (by simp [Value.ownBlock])⟩
 rw [Nat.zero_add, List.nil_append] at hown
 obtain ⟨PA', pc', rfl, hpr5, hpc5, hpn5, hpb5⟩ := Xy hown
 have hib5 : IntB w5 PA' := VG hown rfl
 have rD5 := rD'.below b6 rD'.lt
 have hDl := rD'.lt
 replace rR := rR.below b6 rR.lt
 replace rF := rF.below b6 rF.lt
 replace rQ := rQ.below b6 rQ.lt
 replace ownB2 := Qs ownB2 b6
 replace hmok := hmok.go b6
 replace b5 := b5.trans (b6.mono b5.size)
 have Hrun := Lh hrun
 have c0 := rD'.cellv (i := 0) (v := .slice PA d.path.length pc) rfl
 clear hown hgr hrun hpr rD
 go_wp2_with (refine Ag8 _ _ _ _ rfl ?_)
 refine Stop.to ?_
 refine Zg rfl _ (Qq rfl Hrun.out) ?_
 have rD6 : Row (w5.setCell ⟨D, 0, none⟩ (.slice PA' d.path.length pc')) D 35 #[.slice PA' d.path.length pc', .int .i64 d.op, .int .i64 d.n] := rD5.set 0 _
 have o6 := Zc w5 D 0 (.slice PA' d.path.length pc')
 have c5 : w5.cell? ⟨D, 0, none⟩ = some (.slice PA d.path.length pc) := rD5.cellv (i := 0) rfl
 have f5 := rD5.free 0
 have rR6 := rR.only o6 (Ne.symm (Nat.ne_of_lt hDR))
 have rF6 := rF.only o6 (Ne.symm (Nat.ne_of_lt hDF))
 have rQ6 := rQ.only o6 (Ne.symm (Nat.ne_of_lt hDQ))
 have own6 := QA ownB2 o6 (Qz ownB2 rD5 (by decide))
 have mok6 := hmok.kx hmv hmb (KpX.only (X := fun k => k = D) o6 rfl)
 have b7 := Qo b5 o6 hDw
 have hT6 : MtT (w5.setCell ⟨D, 0, none⟩ (.slice PA' d.path.length pc')) ⟨PA', pc', ⟨d, 0, 0, 0, 0, []⟩⟩ ∧ (∀ ad, PA' = some ad → ad.block ≠ D) := by
  have hnD : ∀ a, PA' = some a → a.block ≠ D := fun a e => by have := hpb5 a e; omega
  refine ⟨⟨⟨hpr5.only o6 (fun _ => hnD), hπ, fun e => ?_, by simp⟩, fun a e => ?_⟩, hnD⟩
  · show d.path = []
    have h0 := hpn5 e
    exact List.eq_nil_of_length_eq_zero (by omega)
  · obtain ⟨cs', hr'⟩ := hib5 a e
    exact ⟨cs', hr'.only o6 (hnD a e)⟩
 have HT6 := Lh hT6.1
 clear rR rF rQ ownB2 hmok b5 o6 hmv hmb hT6 hpr5 hpc5 hpn5 hpb5 hib5 b6 Hrun hDF hDQ rD'
 obtain ⟨m0, hm0⟩ : ∃ m0 : Mt, m0 = ⟨d, 0, -1, 0, 0, []⟩ := ⟨_, rfl⟩
 go_wp2_with (first | (refine wpList_load_row rfl 35 _ rfl D rfl 35 #[.slice PA' d.path.length pc', .int .i64 d.op, .int .i64 d.n] (0, 0) _ rD6 Tryz.underlying35 rfl (by kernel_rfl) ?_) | (refine QY 54 rfl ?_))
 clear c0 c5 f5 rD5
 generalize w5.setCell ⟨D, 0, none⟩ (.slice PA' d.path.length pc') = w6 at *
 refine Stop.to ?_
 refine Ql rfl 54 rfl _ _ (Zq _) rfl ?_
 intro M Mw Mh Mr Mb
 go_wp2_with (refine QD 54 _ _ rfl ?_)
 refine Stop.to ?_
 refine Qk rfl 54 _ _ rfl M (MtV.mk PA' pc' ⟨d, 0, -1, 0, 0, []⟩).cells.toArray rfl rfl 54 _ Mr (by kernel_rfl) rfl (by simp [MtV.cells, Value.oneCell']) ?_
 intro W7 rM o7
 have bM : Below w6.heap.size w6 W7 := (Mb.mono Mh).trans (o7.below Mh)
 have hMw : w.heap.size ≤ M := Nat.le_trans b7.size Mh
 have hM6 : w6.heap.size ≤ M := Mh
 have hMne : (D < M ∧ R < M) ∧ F < M := by have := rD6.lt; have := rR6.lt; have := rF6.lt; omega
 have h6 := b7.size
 replace rD6 := rD6.below bM rD6.lt
 replace rR6 := rR6.below bM rR6.lt
 replace rF6 := rF6.below bM rF6.lt
 replace rQ6 := rQ6.below bM rQ6.lt
 have htB : ∀ a, PA' = some a → a.block < M := fun a e => by obtain ⟨cs, hr⟩ := HT6.out.2 a e; exact Nat.lt_of_lt_of_le hr.lt Mh
 have hbB : JK bl ≠ [] → ∀ ad, BA = some ad → ad.block < M := fun hne ad e => Nat.lt_of_lt_of_le (Xj (KT own6) hne e) Mh
 have hbr := (KT own6).go bM
 have b8 := b7.trans (bM.mono b7.size)
 have HW6 := Lh (And.intro mok6 b7)
 clear o7 Mr Mb Mh own6 mok6 b7
 have hmf : ∀ (fn : Fn) (first cap : Array Value) (w : World), (Instr.makeFunc fn first cap).run Tryz.prog w = .ok (.func fn first cap) w := fun _ _ _ _ => rfl
 go_wp2_with (refine QY 139 rfl ?_)
 refine Stop.to ?_
 refine Ql rfl 139 rfl _ _ (Aib _) rfl ?_
 intro N Nw Nh Nr Nb
 have cN := Nr.cellv (i := 0) (v := .nilFunc) rfl
 have fN := Nr.free 0
 have rN : Row (Nw.setCell ⟨N, 0, none⟩ (.func (.func 73) #[] #[.pointer (some ⟨D, 0, none⟩), .pointer (some ⟨M, 0, none⟩)])) N 139 #[.func (.func 73) #[] #[.pointer (some ⟨D, 0, none⟩), .pointer (some ⟨M, 0, none⟩)]] := Nr.set 0 _
 have o8 := Zc Nw N 0 (.func (.func 73) #[] #[.pointer (some ⟨D, 0, none⟩), .pointer (some ⟨M, 0, none⟩)])
 have bN : Below W7.heap.size W7 (Nw.setCell ⟨N, 0, none⟩ (.func (.func 73) #[] #[.pointer (some ⟨D, 0, none⟩), .pointer (some ⟨M, 0, none⟩)])) := (Nb.mono Nh).trans (o8.below Nh)
 have bM8 := bM.trans (bN.mono bM.size)
 have hMN : M < N := Nat.lt_of_lt_of_le rM.lt Nh
 replace rD6 := rD6.below bN rD6.lt
 replace rR6 := rR6.below bN rR6.lt
 replace rF6 := rF6.below bN rF6.lt
 replace rQ6 := rQ6.below bN rQ6.lt
 replace rM := rM.below bN rM.lt
 replace hbr := hbr.go bN
 replace b8 := b8.trans (bN.mono b8.size)
 clear o8 Nr Nb Nh bN bM hmf
 go_wp2_with fail
 clear cN fN
 generalize Nw.setCell ⟨N, 0, none⟩ (.func (.func 73) #[] #[.pointer (some ⟨D, 0, none⟩), .pointer (some ⟨M, 0, none⟩)]) = w8 at *
 go_step3
 go_wp2_with (refine wpList_load_row rfl 25 _ rfl Q rfl 25 m.cells (0, 0) _ rQ6 Tryz.underlying25 rfl (by kernel_rfl) ?_)
 refine (Ec m A n cap fuel w8).mono ?_
 rintro e w9 ⟨bt, bp, bf, rfl, r1, r2, r3, g1, g2, g3, b9⟩
 have sM := rM.lt
 replace rD6 := rD6.below b9 rD6.lt
 replace rR6 := rR6.below b9 rR6.lt
 replace rF6 := rF6.below b9 rF6.lt
 replace rM := rM.below b9 rM.lt
 replace rN := rN.below b9 rN.lt
 replace hbr := hbr.go b9
 replace b8 := b8.trans (b9.mono b8.size)
 have bM9 := bM8.trans (b9.mono bM8.size)
 have HT := Lh (HT6.out.go bM9)
 obtain ⟨lim, hlim⟩ : ∃ lim, lim = w9.heap.size := ⟨_, rfl⟩
 rw [Hnl.out] at r1
 have hMl : M < lim := by have := rM.lt; omega
 have hC : RunsC m A cap ts fuel (fun k => k = M ∨ lim ≤ k) bt bp bf w9 := RunsC.of (lim := M) (w0 := w6) (fun k hk => by rcases hk with h | h <;> omega) hM6 HW6.out.1 (Hr.out.go HW6.out.2) (fun y hy => (Hot.out y hy).go HW6.out.2) bM9 r1 r2 r3
  (fun h => by have := r1.lt; omega) (fun h => by have := r2.lt; omega) (fun h => by have := r3.lt; omega)
 have Hit := Lh (Eb m (by have := Hmbl.out; have := Hbl.out; omega) A cap ts Hl.out (EN Hz0.out) fuel (fun k => k = M ∨ lim ≤ k) bt bp bf w9 hC)
 have hwl : w.heap.size ≤ lim := by omega
 have hor : (D < lim ∧ R < lim) ∧ F < lim ∧ N < lim := by have := rD6.lt; have := rR6.lt; have := rF6.lt; have := rN.lt; omega
 have Hlim := Lh hlim
 clear hC r1 r2 r3 g1 g2 g3 b9 hlim rQ6 HW6 HT6 bM8 bM9 sM
 go_wp2_with fail
 refine (wpIn_wide (n := 0)).1 ?_
 obtain ⟨f, hf⟩ : ∃ f, f = rnZ p fuel := ⟨_, rfl⟩
 obtain ⟨g, hg⟩ : ∃ g, g = rnZ (XE p d) fuel := ⟨_, rfl⟩
 obtain ⟨tl, htl⟩ : ∃ tl, tl = ts.map IntsV.l := ⟨_, rfl⟩
 have hgm : rnZ m fuel = g := by rw [hg]; exact Hmut.out.rn fuel
 have hbl3 : bl = tl.map f := by rw [Hbl2.out, htl, hf]; unfold XH; rw [if_pos Hz0.out]
 have hJ : Kn p d (ts.map IntsV.l) fuel = QR f g d tl := by rw [hf, hg, htl]; rfl
 have hnt : nb = tl.length := by rw [Hnb.out, hbl3, List.length_map]
 have Hgm := Lh hgm
 have HJ := Lh hJ
 have Hb3 := Lh hbl3
 have Hnt := Lh hnt
 rw [← htl] at Hit
 have Htl := Lh htl
 have HbB := Lh hbB
 have HtB := Lh htB
 have HI0 : Hid ((∃ mm, mm = QR f g d (tl.take ([] : List RnX).length) ∧ Row w9 M 54 (MtV.mk PA' pc' mm).cells.toArray) ∧ Hid ((1 : Int) ∉ QP f g (tl.take ([] : List RnX).length)) ∧ KpX (fun k => k = M ∨ lim ≤ k) w9 w9 ∧ Below w.heap.size w w9 ∧ lim ≤ w9.heap.size) := ⟨⟨_, (YG (by rfl)).symm, rM⟩, by simp [Hid, QP], KpX.refl _ _, b8, by have := Hlim.out; omega⟩
 have HD := Lh rD6
 have HF6 := Lh rF6
 have HR6 := Lh rR6
 have HN6 := Lh rN
 have Hbr := Lh hbr
 clear hf hg hgm hbl3 hJ hnt htl rM b8 rD6 rF6 rR6 rN hbr hbB htB
 refine XT (gf := 136) (lb := #[.pointer (some ⟨bt, 0, none⟩), .pointer (some ⟨bp, 0, none⟩), .pointer (some ⟨bf, 0, none⟩)]) rfl (enters_of Tryz.func136 (by kernel_rfl) rfl) Hit.out (fun r h => h.elim)
  (fun h k => h.trans k) (fun V o o' ho hc => ⟨fun i p hx hp => by rw [World.putObj_heap_other (fun e => hx (.inr e))]; exact hp, by simp⟩) (World.grownBy.refl _ _) (fun _ => rfl)
  (fun pre V => (∃ mm, mm = QR f g d (tl.take pre.length) ∧ Row V M 54 (MtV.mk PA' pc' mm).cells.toArray) ∧ Hid ((1 : Int) ∉ QP f g (tl.take pre.length)) ∧ KpX (fun k => k = M ∨ lim ≤ k) w9 V ∧ Below w.heap.size w V ∧ lim ≤ V.heap.size)
  (fun c pre V => c = .exit 0 ∧ (∃ mm, mm = QR f g d tl ∧ Row V M 54 (MtV.mk PA' pc' mm).cells.toArray) ∧ KpX (fun k => k = M ∨ lim ≤ k) w9 V ∧ Below w.heap.size w V ∧ lim ≤ V.heap.size) (.inl trivial) ?hI ?hIx HI0.out
  (fun pre x a' V => ∃ T, a' = { tmps := #[.agg p.cells, .agg #[.slice PA d.path.length pc, .int .i64 d.op, .int .i64 d.n], .slice A n cap, .int .i64 fuel, .pointer (some ⟨G, 0, none⟩), .pointer (some ⟨D, 0, none⟩), undef, undef, .pointer (some ⟨R, 0, none⟩), .int .i64 0, .pointer (some ⟨F, 0, none⟩), .int .i64 0, .pointer (some ⟨Q, 0, none⟩), .pointer (some ⟨M, 0, none⟩), .pointer (some ⟨N, 0, none⟩), .int .i64 (x.i : Int), .pointer (some ⟨T, 0, none⟩), undef, .tuple #[.slice BA nb bc, .int .i64 0], .agg p.cells, .slice A n cap, .int .i64 fuel, .tuple #[.slice BA nb bc, .int .i64 0], .slice BA nb bc, .int .i64 0, .int .i64 0, .bool false, undef, undef, .tuple #[.agg m.cells, .int .i64 0], .agg p.cells, .agg #[.slice PA d.path.length pc, .int .i64 d.op, .int .i64 d.n], .tuple #[.agg m.cells, .int .i64 0], .agg m.cells, .int .i64 0, .int .i64 0, .bool false, undef, undef, .pointer (some ⟨D, 0, none⟩), .slice PA d.path.length pc, .slice PA' d.path.length pc', .pointer (some ⟨D, 0, none⟩), .agg #[.slice PA' d.path.length pc', .int .i64 d.op, .int .i64 d.n], .agg #[.slice PA' d.path.length pc', .int .i64 d.op, .int .i64 d.n, .int .i64 0, .int .i64 (-1), .int .i64 0, .int .i64 0, .string ⟨#[]⟩], .func (.func 73) #[] #[.pointer (some ⟨D, 0, none⟩), .pointer (some ⟨M, 0, none⟩)], .agg m.cells, .slice A n cap, .int .i64 fuel, .func (.func 136) #[] #[.pointer (some ⟨bt, 0, none⟩), .pointer (some ⟨bp, 0, none⟩), .pointer (some ⟨bf, 0, none⟩)], .int .i64 (x.i : Int), .agg x.r.cells, undef, undef, undef, undef, undef, undef, undef, undef, undef, undef, undef, undef, undef, undef, undef, undef, undef, undef, undef, undef, undef, undef, undef, undef, undef, undef, undef, undef, undef], defers := [] } ∧ Row V T 40 x.r.cells ∧ lim ≤ T ∧ x.r.ok V ∧ x.r.evs.length ≤ 10000 ∧ x.i = pre.length ∧ ∃ l, tl[pre.length]? = some l ∧ x.rn = g l) ?hAx ?assign ?body ?done ?stop
 case hI =>
  rintro pre V V' row ⟨⟨mm, e, h1⟩, h2, h3, h4, h5⟩ hg hr
  have hrow : ∀ r, row = some r → w9.heap.size ≤ r := fun r e => (hr r e).elim (fun h => h.elim) (fun h => h.1)
  exact ⟨⟨mm, e, h1.abide hg hr⟩, h2, h3.grown hg hrow, h4.grown hg h4.size (fun k e => by have := hrow k e; have := Hlim.out; omega), Nat.le_trans h5 hg.size⟩
 case hIx =>
  rintro c pre V V' row ⟨h0, ⟨mm, e, h1⟩, h3, h4, h5⟩ hg hr
  have hrow : ∀ r, row = some r → w9.heap.size ≤ r := fun r e => (hr r e).elim (fun h => h.elim) (fun h => h.1)
  exact ⟨h0, ⟨mm, e, h1.abide hg hr⟩, h3.grown hg hrow, h4.grown hg h4.size (fun k e => by have := hrow k e; have := Hlim.out; omega), Nat.le_trans h5 hg.size⟩
 case hAx =>
  rintro pre x a' _ V V' row ⟨T, h1, h2, h3, h4, h5⟩ hg hr
  refine ⟨T, h1, h2.abide hg hr, h3, ⟨h4.kind, h4.value, h4.steps, h4.len, h4.cap, h4.nil, h4.reads.grown hg (fun r e => ?_), h4.evs⟩, h5⟩
  rcases hr r e with h | ⟨_, o⟩
  · exact h.elim
  · exact o
 case assign =>
  rintro l3 pre x V K hI hP hK
  have HK := Lh hK
  have HI := Lh hI
  have HP := Lh hP
  clear hK hI hP
  unfold RnX.enc
  rw [show x.r.val = .agg x.r.cells from rfl]
  gi_wp2_with (refine KD _ _ _ rfl ?_)
  refine Stop.to ?_
  obtain ⟨T, hD⟩ : ∃ D, D = V.heap.size := ⟨_, rfl⟩
  obtain ⟨V1, hV1⟩ : ∃ V1, V1 = V.alloc (.cells #[.int .i64 0, .int .i64 0, .int .i64 0, .slice none 0 0] 40) := ⟨_, rfl⟩
  have rD : Row V1 T 40 #[.int .i64 0, .int .i64 0, .int .i64 0, .slice none 0 0] := by rw [hV1, hD]; exact Row.new _ _ _
  have b1 : Below V.heap.size V V1 := by rw [hV1]; exact (Below.refl _ _).alloc (Nat.le_refl _) _
  rw [← hV1, ← hD]
  have hDw : V.heap.size ≤ T := Nat.le_of_eq hD.symm
  clear hV1 hD
  refine QZ rfl 40 _ _ rfl T x.r.cells rfl rfl 40 _ rD (by kernel_rfl) rfl (by simp [RunV.cells, Value.oneCell']) ?_
  have rD2 := rD.setRow x.r.cells
  have o2 := Zo V1 T x.r.cells
  have b2 : Below V.heap.size V (V1.setRow T x.r.cells) := Qo b1 o2 hDw
  generalize V1.setRow T x.r.cells = V2 at rD2 o2 b2 ⊢
  obtain ⟨⟨mm, e, h1⟩, h2, h3, h4, h5⟩ := HI.out
  have hs2 := b2.size
  obtain ⟨q1, q2, q3, q4⟩ := HP.out
  have hrn := HP.out.rn
  rw [Hgm.out] at hrn
  have HF := Lh (And.intro ((KpX.of_below b2).keeps (b := w9.heap.size) (X := fun _ => False) (fun _ h => h.elim)) (And.intro (KpX.of_below (X := fun i => (i = M ∨ lim ≤ i) ∨ i = w9.heap.size + 1) b2) (And.intro (show (∃ mm, mm = QR f g d (tl.take pre.length) ∧ Row V2 M 54 (MtV.mk PA' pc' mm).cells.toArray) ∧ Hid ((1 : Int) ∉ QP f g (tl.take pre.length)) ∧ KpX (fun k => k = M ∨ lim ≤ k) w9 V2 ∧ Below w.heap.size w V2 ∧ lim ≤ V2.heap.size from ⟨⟨mm, e, h1.below b2 h1.lt⟩, h2, h3.trans (KpX.of_below b2), h4.trans (b2.mono (by have := h4.size; omega)), by omega⟩) (And.intro rD2 (And.intro (St.go (S := fun W => x.r.ok W) q3 b2) (And.intro q4 (And.intro q1 hrn)))))))
  have hTl : lim ≤ T := by omega
  clear rD rD2 b1 o2 b2 hDw h1 h2 h3 h4 h5 hs2 HI q1 q2 q3 q4 hrn e HP
  gi_wp2_with fail
  exact HK.out _ _ HF.out.1 HF.out.2.1 HF.out.2.2.1 ⟨T, rfl, HF.out.2.2.2.1, hTl, HF.out.2.2.2.2⟩
 case body =>
  rintro l3 pre x a' V hl3 _ ⟨⟨mm, hmm, hM⟩, h1, hk, hb, hs⟩ ⟨T, rfl, hT, hTl, hok, hev, hi, l, hl, hx⟩ hlen
  rw [hi]
  obtain ⟨b, hbd⟩ : ∃ b, b = f l := ⟨_, rfl⟩
  have hbx : bl[pre.length]? = some b := by rw [Hb3.out, List.getElem?_map, hl, hbd]; rfl
  have hpn : pre.length < nb := by rw [Hnt.out]; exact (List.getElem?_eq_some_iff.1 hl).1
  have hne : JK bl ≠ [] := Agn hbx
  have hbrV : Rd V BA (JK bl) := hk.rd Hbr.out (fun hne ad e h => by have := HbB.out hne ad e; omega)
  obtain ⟨ad, had, _⟩ := Aeg (c := fun r : Rn => r.cells.toList) (sz := 2) (fun _ => rfl) (by decide) hbrV hbx
  have rDV := hk.row HD.out (by omega)
  have rFV := hk.row HF6.out (by omega)
  have rNV := hk.row HN6.out (by omega)
  rw [had] at hbrV rFV
  have Hbx := Lh hbx
  have Hl1 := Lh hl
  have Hx1 := Lh hx
  have Hmm := Lh hmm
  have H1 := Lh h1
  have Hbd := Lh hbd
  have hpI : (pre.length : Int) < (nb : Int) := by omega
  have hp0 : (0 : Int) ≤ (pre.length : Int) := by omega
  obtain ⟨S, hSd⟩ : ∃ S, S = (fun W => ((Row W F 48 #[.slice (some ad) nb bc] ∧ Rd W (some ad) (JK bl)) ∧ (Row W T 40 x.r.cells ∧ x.r.ok W)) ∧ Below V.heap.size V W) := ⟨_, rfl⟩
  have stS : St S := by rw [hSd]; infer_instance
  have SF : Hid (∀ W, S W → Row W F 48 #[.slice (some ad) nb bc]) := by show ∀ W, _; rw [hSd]; exact fun W h => h.1.1.1
  have SB : Hid (∀ W, S W → Rd W (some ad) (JK bl)) := by show ∀ W, _; rw [hSd]; exact fun W h => h.1.1.2
  have ST : Hid (∀ W, S W → Row W T 40 x.r.cells) := by show ∀ W, _; rw [hSd]; exact fun W h => h.1.2.1
  have SO : Hid (∀ W, S W → x.r.ok W) := by show ∀ W, _; rw [hSd]; exact fun W h => h.1.2.2
  have SL : Hid (∀ W, S W → Below V.heap.size V W) := by show ∀ W, _; rw [hSd]; exact fun W h => h.2
  have hS : S V := by rw [hSd]; exact ⟨⟨⟨rFV, hbrV⟩, hT, hok⟩, Below.refl _ _⟩
  have Hev := Lh hev
  have Hc : Hid (∀ W, S W → ∀ (j : Nat) u, (Ym b.kind b.value)[j]? = some u → W.cell? ((ad.add (pre.length * 2)).add j) = some u) := fun W h => by
   obtain ⟨ad2, e2, h2⟩ := Aeg (c := fun r : Rn => r.cells.toList) (sz := 2) (fun _ => rfl) (by decide) (SB.out W h) Hbx.out
   injection e2 with e2; rw [e2]; exact h2
  have Htell : Hid (∀ W, Calls Tryz.prog 27 #[.agg (Ym b.kind b.value).toArray, .agg (Ym x.r.kind x.r.value).toArray] W fun e w' => e = .returned (.int .i64 (Q8 b x.rn)) ∧ Below W.heap.size W w') := fun W => Aaq b x.rn W
  clear hSd hbx hl hx hmm h1 hbd hne hbrV rFV hok hev hT hpn
  gi_wp2_with fail
  refine Aa1 S (by kernel_rfl) (by kernel_rfl) (by kernel_rfl) (St.drew hS) ?_
  clear hS
  (refine Qg rfl ?_ (fun W hW => ?_) ?_; rotate_left; (focus (have c := (SF.out W hW).cellv (i := 0) (v := .slice (some ad) nb bc) rfl; go_simp; exact rfl)); simp only [Act.put, Qa, Qb, Qc])
  iterate 2 (refine Qg rfl ?_ (fun W hW => ?_) ?_; rotate_left; (focus (go_simp; exact rfl)); simp only [Act.put, Qa, Qb, Qc])
  (refine Jf rfl 37 _ rfl ((ad.add (pre.length * 2))) rfl (Ym b.kind b.value) _ (fun W hW => Hc.out W hW) Tryz.underlying37 rfl (by kernel_rfl) ?_; simp only [Act.put, Qa, Qb, Qc])
  (refine Qg rfl ?_ (fun W hW => ?_) ?_; rotate_left; (focus (go_simp; exact rfl)); simp only [Act.put, Qa, Qb, Qc])
  (refine Jf rfl 37 _ rfl (⟨T, 0, none⟩) rfl (Ym x.r.kind x.r.value) _ (fun W hW => Uh (ST.out W hW)) Tryz.underlying37 rfl (by kernel_rfl) ?_; simp only [Act.put, Qa, Qb, Qc])
  (refine QE rfl 27 _ (fun W => by (go_simp; try rfl)) (.int .i64 (Q8 b x.rn)) (fun W hW => Htell.out W) ?_; simp only [Act.put, Qa, Qb, Qc])
  (refine Qg rfl ?_ (fun W hW => ?_) ?_; rotate_left; (focus (go_simp; exact rfl)); simp only [Act.put, Qa, Qb, Qc])
  refine QV fun W hW => ?_
  have bW := SL.out W hW
  have rMW := hM.below bW hM.lt
  have rDW := rDV.below bW rDV.lt
  have rNW := rNV.below bW rNV.lt
  have rTW := ST.out W hW
  have okW := SO.out W hW
  have hbW := hb.trans (bW.mono hb.size)
  have hkW := hk.trans (KpX.of_below bW)
  have hsW : lim ≤ W.heap.size := Nat.le_trans hs bW.size
  have kfW : KeepsFrom w9.heap.size V W := (KpX.of_below bW).keeps (X := fun _ => False) (fun _ h => h.elim)
  have kpW : KpX (fun i => (i = M ∨ lim ≤ i) ∨ i = w9.heap.size + 1) V W := KpX.of_below bW
  have hst := Afx (x := x) Hl1.out
  have htl2 : (tl.take pre.length).length = pre.length := by rw [List.length_take]; have := (List.getElem?_eq_some_iff.1 Hl1.out).1; omega
  have htz : Q8 b x.rn = Q8 (f l) (g l) := by rw [Hbd.out, Hx1.out]
  have hrn : x.rn = ⟨x.r.kind, x.r.value, AbN x.r⟩ := rfl
  have Hst := Lh hst
  have Htl2 := Lh htl2
  have Htz := Lh htz
  have Hrn := Lh hrn
  have cN := rNW.cellv (i := 0) (v := .func (.func 73) #[] #[.pointer (some ⟨D, 0, none⟩), .pointer (some ⟨M, 0, none⟩)]) rfl
  have c3 := rMW.cellv (i := 3) (v := .int .i64 mm.verdict) rfl
  clear hst htl2 htz hrn hW SF SB ST SO SL stS Hc Htell hM hk hb hs rDV rNV bW hlen hl3
  rcases UI b x.rn with h0 | h0 | h0
  · have hkl := Vt (f := f) (g := g) (d := d) (pre := tl.take pre.length) (x := l) H1.out (by rw [← Htz.out]; omega) (fun h => by rw [← Htz.out] at h; omega)
    rw [← Hst.out] at hkl
    have Hkl := Lh (Hmm.out.trans hkl.symm)
    have H1' : Hid ((1 : Int) ∉ QP f g (tl.take (pre ++ [x]).length)) := by
     show ¬ _
     rw [Hst.out, KC, List.mem_append]
     rintro (h | h)
     · exact H1.out h
     · simp only [QP, List.map_cons, List.map_nil, List.mem_singleton] at h
       rw [← Htz.out, h0] at h
       omega
    have HF : Hid (KeepsFrom w9.heap.size V W ∧ KpX (fun i => (i = M ∨ lim ≤ i) ∨ i = w9.heap.size + 1) V W ∧ (∃ mm, mm = QR f g d (tl.take (pre ++ [x]).length) ∧ Row W M 54 (MtV.mk PA' pc' mm).cells.toArray) ∧ Hid ((1 : Int) ∉ QP f g (tl.take (pre ++ [x]).length)) ∧ KpX (fun k => k = M ∨ lim ≤ k) w9 W ∧ Below w.heap.size w W ∧ lim ≤ W.heap.size) :=
     ⟨kfW, kpW, ⟨mm, Hkl.out, rMW⟩, H1'.out, hkW, hbW, hsW⟩
    rw [h0]
    clear hkl h0 kfW kpW hkW hbW rMW rDW rNW rTW okW cN hsW
    gi_wp2_with fail
    exact HF.out
  · rw [h0]
    have Hsp : Hid (tl.take pre.length ++ l :: tl.drop (pre.length + 1) = tl) := by
     obtain ⟨hlt, he⟩ := List.getElem?_eq_some_iff.1 Hl1.out
     show _ = _
     rw [← he, ← List.drop_eq_getElem_cons hlt, List.take_append_drop]
    have hkl := Yi (f := f) (g := g) (d := d) (pre := tl.take pre.length) (rest := tl.drop (pre.length + 1)) (x := l) H1.out (by rw [← Htz.out]; exact h0)
    rw [Hsp.out, Htl2.out, ← Hx1.out] at hkl
    have Hkl := Lh hkl
    clear hkl h0 c3
    gi_wp2_with (refine Q1 rfl 40 _ rfl T rfl 40 x.r.cells (0, 0) _ rTW Tryz.underlying40 rfl (by kernel_rfl) ?_)
    refine ⟨trivial, rfl, (callsIn_wide.2 (Aco ⟨PA', pc', d⟩ 1 (pre.length : Int) x.r D M _ W rDW rMW rfl okW Hev.out)).mono ?_⟩
    rintro e W2 ⟨rfl, rM2, V1, bV, oV⟩
    have rMV := rMW.below bV rMW.lt
    have HF : Hid (KeepsFrom w9.heap.size V W2 ∧ KpX (fun i => (i = M ∨ lim ≤ i) ∨ i = w9.heap.size + 1) V W2 ∧ (∃ mm, mm = QR f g d tl ∧ Row W2 M 54 (MtV.mk PA' pc' mm).cells.toArray) ∧ KpX (fun k => k = M ∨ lim ≤ k) w9 W2 ∧ Below w.heap.size w W2 ∧ lim ≤ W2.heap.size) :=
     ⟨kfW.trans (((KpX.of_below bV).keeps (b := w9.heap.size) (X := fun _ => False) (fun _ h => h.elim)).trans (KeepsFrom.of_only rMV oV)), kpW.trans ((KpX.of_below bV).trans (KpX.only oV (.inl (.inl rfl)))),
      ⟨_, Hkl.out.symm, rM2⟩, hkW.trans ((KpX.of_below bV).trans (KpX.only oV (.inl rfl))), Qo (hbW.trans (bV.mono hbW.size)) oV hMw, by have e1 := bV.size; have e2 := oV.size; omega⟩
    clear rMV rM2 bV oV kfW kpW hkW hbW rMW rDW rNW rTW okW cN hsW
    gi_wp2_with fail
    exact ⟨HF.out.1, HF.out.2.1, rfl, HF.out.2.2⟩
  · by_cases hv : mm.verdict = 0
    · have h2 : (2 : Int) ∉ QP f g (tl.take pre.length) := by
       have h9 := hv
       rw [Hmm.out, X7] at h9
       exact (best_v0.1 h9).2
      have hkl := Ads (f := f) (g := g) (d := d) (pre := tl.take pre.length) (x := l) H1.out h2 (by rw [← Htz.out]; exact h0)
      rw [Htl2.out, ← Hx1.out, ← Hst.out] at hkl
      have Hkl := Lh hkl
      have H1' : Hid ((1 : Int) ∉ QP f g (tl.take (pre ++ [x]).length)) := by
       show ¬ _
       rw [Hst.out, KC, List.mem_append]
       rintro (h | h)
       · exact H1.out h
       · simp only [QP, List.map_cons, List.map_nil, List.mem_singleton] at h
         rw [← Htz.out, h0] at h
         omega
      rw [hv] at c3
      rw [h0]
      clear hkl h0 h2 hv
      gi_wp2_with (refine Q1 rfl 40 _ rfl T rfl 40 x.r.cells (0, 0) _ rTW Tryz.underlying40 rfl (by kernel_rfl) ?_)
      refine ⟨trivial, rfl, (callsIn_wide.2 (Aco ⟨PA', pc', d⟩ 2 (pre.length : Int) x.r D M _ W rDW rMW rfl okW Hev.out)).mono ?_⟩
      rintro e W2 ⟨rfl, rM2, V1, bV, oV⟩
      have rMV := rMW.below bV rMW.lt
      have HF : Hid (KeepsFrom w9.heap.size V W2 ∧ KpX (fun i => (i = M ∨ lim ≤ i) ∨ i = w9.heap.size + 1) V W2 ∧ (∃ mm, mm = QR f g d (tl.take (pre ++ [x]).length) ∧ Row W2 M 54 (MtV.mk PA' pc' mm).cells.toArray) ∧ Hid ((1 : Int) ∉ QP f g (tl.take (pre ++ [x]).length)) ∧ KpX (fun k => k = M ∨ lim ≤ k) w9 W2 ∧ Below w.heap.size w W2 ∧ lim ≤ W2.heap.size) :=
       ⟨kfW.trans (((KpX.of_below bV).keeps (b := w9.heap.size) (X := fun _ => False) (fun _ h => h.elim)).trans (KeepsFrom.of_only rMV oV)), kpW.trans ((KpX.of_below bV).trans (KpX.only oV (.inl (.inl rfl)))),
        ⟨_, Hkl.out.symm, rM2⟩, H1'.out, hkW.trans ((KpX.of_below bV).trans (KpX.only oV (.inl rfl))), Qo (hbW.trans (bV.mono hbW.size)) oV hMw, by have e1 := bV.size; have e2 := oV.size; omega⟩
      clear rMV rM2 bV oV kfW kpW hkW hbW rMW rDW rNW rTW okW cN hsW c3
      gi_wp2_with fail
      exact HF.out
    · have hvf : (mm.verdict == 0) = false := by simpa using hv
      have hkl := Vt (f := f) (g := g) (d := d) (pre := tl.take pre.length) (x := l) H1.out (by rw [← Htz.out]; omega) (fun _ => by rw [← Hmm.out]; exact hv)
      rw [← Hst.out] at hkl
      have Hkl := Lh (Hmm.out.trans hkl.symm)
      have H1' : Hid ((1 : Int) ∉ QP f g (tl.take (pre ++ [x]).length)) := by
       show ¬ _
       rw [Hst.out, KC, List.mem_append]
       rintro (h | h)
       · exact H1.out h
       · simp only [QP, List.map_cons, List.map_nil, List.mem_singleton] at h
         rw [← Htz.out, h0] at h
         omega
      have HF : Hid (KeepsFrom w9.heap.size V W ∧ KpX (fun i => (i = M ∨ lim ≤ i) ∨ i = w9.heap.size + 1) V W ∧ (∃ mm, mm = QR f g d (tl.take (pre ++ [x]).length) ∧ Row W M 54 (MtV.mk PA' pc' mm).cells.toArray) ∧ Hid ((1 : Int) ∉ QP f g (tl.take (pre ++ [x]).length)) ∧ KpX (fun k => k = M ∨ lim ≤ k) w9 W ∧ Below w.heap.size w W ∧ lim ≤ W.heap.size) :=
       ⟨kfW, kpW, ⟨mm, Hkl.out, rMW⟩, H1'.out, hkW, hbW, hsW⟩
      rw [h0]
      clear hkl h0 kfW kpW hkW hbW rMW rDW rNW rTW okW cN hsW
      gi_wp2_with fail
      exact HF.out
 case stop =>
  rintro T c pre V hD _ ⟨rfl, ⟨mm, hmm, h1⟩, h3, h4, h5⟩ hK
  have hTR : T ≠ R := by have := Hlim.out; omega
  have rR9 := h3.row HR6.out (by omega)
  have tT : MtT V (MtV.mk PA' pc' mm) := Ack (by rw [hmm]; exact Aep) (by rw [hmm]; exact Aab d tl (fun a => by rw [← Hgm.out]; exact AeB _ _ _)) (HT.out.same fun a cs e hr2 => h3.row hr2 (fun h => by have h8 := HtB.out a e; omega))
  have hTl : w9.heap.size ≤ T := hD
  have Hmm := Lh (hmm.trans HJ.out.symm)
  have HK := Lh hK
  have H4 := Lh h4
  have HtT := Lh tT
  clear hmm hK h3 h4 h5 tT
  gi_wp2
  go_wp2_with (first | (refine wpList_load_row rfl 54 _ rfl M rfl 54 (MtV.mk PA' pc' mm).cells.toArray (0, 0) _ h1 Tryz.underlying54 rfl (by kernel_rfl) ?_) | (refine QD 54 _ _ rfl ?_))
  refine Stop.to ?_
  refine Qk rfl 54 _ _ rfl R (MtV.mk PA' pc' mm).cells.toArray rfl rfl 54 _ rR9 (by kernel_rfl) rfl (by simp [MtV.cells, Value.oneCell']) ?_
  intro W9 r9 o9
  have hK9 : W9.heap[T]? = some (.deferred (some [])) := (o9.block T hTR).trans HK.out
  have hr : ∀ r, some T = some r → False ∨ (True ∧ ∃ o : Obj, W9.heap[r]? = some o ∧ o.isCells = false) := fun r e => by cases e; exact .inr ⟨trivial, _, hK9, rfl⟩
  have hg := grownBy_putObj' W9 T (.deferred none)
  have rX := r9.abide hg hr
  have b9 := Qo H4.out o9 hRw
  have bX := b9.grown hg b9.size (fun k e => by cases e; have := Hlim.out; omega)
  have tX := (YJ HtT.out rR9 (by decide) o9).abide hg hr
  have HF : Hid (JudR p d (ts.map IntsV.l) fuel w (W9.putObj T (.deferred none)) (.returned (.tuple #[.agg (MtV.mk PA' pc' mm).cells.toArray, .int .i64 0]))) := ⟨_, by rw [Hj.out], fun _ => ⟨Hmm.out, tX⟩, fun h => absurd Hj.out h, bX⟩
  have HK9 := Lh hK9
  clear hr hg r9 b9 bX tX o9 hK9 rR9 h1
  go_wp2_with fail
  rw [Exit.noGoto_ret]
  refine ⟨by simp, .inl ⟨_, _, rfl, run_takeDeferred HK9.out, ?_⟩⟩
  exact ⟨_, QS Tryz.results29 _ _ R 54 _ (0, 0) _ rfl rX Tryz.underlying54 rfl (by kernel_rfl), HF.out⟩
 case done =>
  rintro T ys V hD hys ⟨⟨mm, hmm, h1⟩, _, h3, h4, h5⟩ hK
  rw [hys, List.take_of_length_le (by rw [Htl.out, List.length_map]; exact Nat.le_refl _)] at hmm
  have hTR : T ≠ R := by have := Hlim.out; omega
  have rR9 := h3.row HR6.out (by omega)
  have tT : MtT V (MtV.mk PA' pc' mm) := Ack (by rw [hmm]; exact Aep) (by rw [hmm]; exact Aab d tl (fun a => by rw [← Hgm.out]; exact AeB _ _ _)) (HT.out.same fun a cs e hr2 => h3.row hr2 (fun h => by have h8 := HtB.out a e; omega))
  have hTl : w9.heap.size ≤ T := hD
  have Hmm := Lh (hmm.trans HJ.out.symm)
  have HK := Lh hK
  have H4 := Lh h4
  have HtT := Lh tT
  clear hmm hK h3 h4 h5 tT
  gi_wp2
  go_wp2_with (first | (refine wpList_load_row rfl 54 _ rfl M rfl 54 (MtV.mk PA' pc' mm).cells.toArray (0, 0) _ h1 Tryz.underlying54 rfl (by kernel_rfl) ?_) | (refine QD 54 _ _ rfl ?_))
  refine Stop.to ?_
  refine Qk rfl 54 _ _ rfl R (MtV.mk PA' pc' mm).cells.toArray rfl rfl 54 _ rR9 (by kernel_rfl) rfl (by simp [MtV.cells, Value.oneCell']) ?_
  intro W9 r9 o9
  have hK9 : W9.heap[T]? = some (.deferred (some [])) := (o9.block T hTR).trans HK.out
  have hr : ∀ r, some T = some r → False ∨ (True ∧ ∃ o : Obj, W9.heap[r]? = some o ∧ o.isCells = false) := fun r e => by cases e; exact .inr ⟨trivial, _, hK9, rfl⟩
  have hg := grownBy_putObj' W9 T (.deferred none)
  have rX := r9.abide hg hr
  have b9 := Qo H4.out o9 hRw
  have bX := b9.grown hg b9.size (fun k e => by cases e; have := Hlim.out; omega)
  have tX := (YJ HtT.out rR9 (by decide) o9).abide hg hr
  have HF : Hid (JudR p d (ts.map IntsV.l) fuel w (W9.putObj T (.deferred none)) (.returned (.tuple #[.agg (MtV.mk PA' pc' mm).cells.toArray, .int .i64 0]))) := ⟨_, by rw [Hj.out], fun _ => ⟨Hmm.out, tX⟩, fun h => absurd Hj.out h, bX⟩
  have HK9 := Lh hK9
  clear hr hg r9 b9 bX tX o9 hK9 rR9 h1
  go_wp2_with fail
  rw [Exit.noGoto_ret]
  refine ⟨by simp, .inl ⟨_, _, rfl, run_takeDeferred HK9.out, ?_⟩⟩
  exact ⟨_, QS Tryz.results29 _ _ R 54 _ (0, 0) _ rfl rX Tryz.underlying54 rfl (by kernel_rfl), HF.out⟩
end Go.Proofs.YtdcmppdhdcjpfaaGreat
