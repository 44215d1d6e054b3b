/- Lemmas for VerdictOrderP. -/
import Derived.Test.YtdcmppdhdcjpfaaGreatZq1
import Derived.Test.YtdcmppdhdcjpfaaGreatZq11
import Derived.Test.YtdcmppdhdcjpfaaGreatZq18
import Derived.Test.YtdcmppdhdcjpfaaGreatZq34
set_option linter.unusedVariables false
set_option linter.unusedSimpArgs false
set_option maxRecDepth 100000
set_option maxHeartbeats 16000000
namespace Go.Proofs.YtdcmppdhdcjpfaaGreat
open Go.RowKit Go.Deep
def Af3 (p : PgV) (ts : List IntsV) (fuel : Int) : Bool := AeR p && (Vm ts && (decide (p.body.length ≤ 40) && (decide (ts.length ≤ 5) && (decide (fuel ≤ 200) || decide (10000 < fuel)))))
theorem Ahu {p : PgV} {ts : List IntsV} {fuel : Int} (h : Af3 p ts fuel = true) : p.body.length ≤ 40 ∧ p.V.length ≤ 20 ∧ ts.length ≤ 5 ∧ (∀ x ∈ ts, x.l.length ≤ 40) ∧ (fuel ≤ 200 ∨ 10000 < fuel) := by
 unfold Af3 AeR Vm at h
 simp only [Bool.and_eq_true, Bool.or_eq_true, decide_eq_true_eq] at h
 exact ⟨h.2.2.1, h.1.2, h.2.2.2.1, h.2.1.2, h.2.2.2.2⟩
theorem AeQ (p : PgV) (A : Option Addr) (cap : Nat) (ts : List IntsV) (fuel : Int) (w : World) (hr : Rd w A (Z2 ts)) : Calls Tryz.prog 24 #[.agg p.cells, .slice A ts.length cap, .int .i64 fuel] w fun e w' => e = .returned (.bool (Af3 p ts fuel)) ∧ Below w.heap.size w w' := by
 have Hr := Lh hr
 clear hr
 have HV : Hid (∀ {β : Bool}, (AeR p && (Vm ts && (decide (p.body.length ≤ 40) && (decide (ts.length ≤ 5) && (decide (fuel ≤ 200) || decide (10000 < fuel)))))) = β → Af3 p ts fuel = β) := fun h => h
 go_enter Tryz.func24, Tryz.ntmps24
 go_wp2_with (refine Qp _ _ rfl ?_)
 refine Stop.to ?_
 refine Qe rfl 25 _ rfl p.cells rfl ?_
 intro G Gw Gh Gr Gb
 have b1 := (Below.refl w.heap.size w).trans (Gb.mono Gh)
 clear Gb Gh
 go_wp2_with (refine wpList_load_row rfl 25 _ rfl G rfl 25 p.cells (0, 0) _ Gr Tryz.underlying25 rfl (by kernel_rfl) ?_)
 refine (Ahv p Gw).mono ?_
 rintro e w1 ⟨rfl, b2⟩
 replace Gr := Gr.below b2 Gr.lt
 replace b1 := b1.trans (b2.mono b1.size)
 have Hb := Lh b1
 have hT := Af2 A cap ts w1 (Hr.out.go b1)
 obtain ⟨n, hn⟩ : ∃ n, n = ts.length := ⟨_, rfl⟩
 rw [← hn] at HV hT ⊢
 have c2 := Gr.cellv (i := 2) (v := .slice p.ba p.body.length p.bcap) rfl
 obtain ⟨m, hm⟩ : ∃ m, m = p.body.length := ⟨_, rfl⟩
 rw [← hm] at HV c2
 obtain ⟨q, hq⟩ : ∃ q, q = AeR p := ⟨_, rfl⟩
 rw [← hq] at HV ⊢
 obtain ⟨q2, hq2⟩ : ∃ q, q = Vm ts := ⟨_, rfl⟩
 rw [← hq2] at HV hT
 have HT := Lh hT
 clear b2 b1 Gr Hr hn hm hq hq2 hT
 cases q
 · go_wp2_with fail
   go_ret
   exact ⟨Z9 (HV.out (by simp)), Hb.out⟩
 go_wp2_with fail
 refine HT.out.mono ?_
 rintro e w2 ⟨rfl, rfl⟩
 clear HT
 cases q2
 · go_wp2_with fail
   go_ret
   exact ⟨Z9 (HV.out (by simp)), Hb.out⟩
 by_cases h1 : m ≤ 40
 rotate_left
 · have h1' : ¬ (m : Int) ≤ 40 := by omega
   have h1'' : 40 < (m : Int) := by omega
   have H1 := Lh h1
   clear h1
   go_wp2_with fail
   go_ret
   exact ⟨Z9 (HV.out (by have h1 := H1.out; simp [h1])), Hb.out⟩
 have h1' : (m : Int) ≤ 40 := by omega
 by_cases h2 : n ≤ 5
 rotate_left
 · have h2' : ¬ (n : Int) ≤ 5 := by omega
   have h2'' : 5 < (n : Int) := by omega
   have H2 := Lh h2
   clear h1 h2
   go_wp2_with fail
   go_ret
   exact ⟨Z9 (HV.out (by have h2 := H2.out; simp [h2])), Hb.out⟩
 have h2' : (n : Int) ≤ 5 := by omega
 have H12 := Lh (And.intro h1 h2)
 clear h1 h2
 by_cases h3 : fuel ≤ 200
 · have H3 := Lh h3
   go_wp2_with fail
   go_ret
   exact ⟨Z9 (HV.out (by have h1 := H12.out; have h3 := H3.out; simp [h1.1, h1.2, h3])), Hb.out⟩
 have h3' : 200 < fuel := by omega
 by_cases h4 : 10000 < fuel
 · have H4 := Lh h4
   clear h3
   go_wp2_with fail
   go_ret
   exact ⟨Z9 (HV.out (by have h1 := H12.out; have h3 := H4.out; simp [h1.1, h1.2, h3])), Hb.out⟩
 · have h4' : fuel ≤ 10000 := by omega
   have H3 := Lh h3
   have H4 := Lh h4
   clear h3 h4
   go_wp2_with fail
   go_ret
   exact ⟨Z9 (HV.out (by have h1 := H12.out; have h3 := H3.out; have h4 := H4.out; simp only [h1.1, h1.2, h3, h4, decide_true, decide_false, Bool.true_and, Bool.or_self])), Hb.out⟩
end Go.Proofs.YtdcmppdhdcjpfaaGreat
namespace Go.Proofs.YtdcmppdhdcjpfaaGreat
open Go.ChangeShapes Go.WideShapes Go.RowKit Go.Deep
structure TsV where
 A : Option Addr
 cap : Nat
 l : List IntsV
def TsV.val (t : TsV) : Value := .slice t.A t.l.length t.cap
structure TsRaw (W : World) (t : TsV) : Prop where
 len : t.l.length ≤ t.cap
 cap : t.cap ≤ maxLen
 nil : t.A = none → t.cap = 0
 rd : Rd W t.A (Z2 t.l)
 ok : ∀ x ∈ t.l, x.ok W
section
variable {H : Type} {enc : TypeId × Value → H} {w : World} {base : Nat} {spare : Nat → Bool} {held : Bool}
theorem Acx {r : Go.Reach} {b0 : Nat} {v : Value} {d : DataW H} {p : List MemPlace} (hv : Value.okWide Tryz.prog w r b0 46 v) (h : DataW.Trod enc Tryz.prog w base spare held 46 v d p) :
 ∃ t : TsV, TsRaw w t ∧ v = t.val := by
 obtain ⟨a, len, cap, rfl⟩ := okWide_slice Tryz.underlying46 hv
 obtain ⟨fuel, hx⟩ := h
 obtain ⟨A, c, l, e, h1, h2, h3, h4, h5⟩ := Acw hx
 have e2 : [Value.slice a len cap] = [.slice A l.length c] := e
 injection e2 with e2
 injection e2 with e3 e4 e5
 subst e3 e4 e5
 exact ⟨⟨_, _, l⟩, ⟨h1, h2, h3, h4, h5⟩, rfl⟩
end
end Go.Proofs.YtdcmppdhdcjpfaaGreat
namespace Go.Proofs.YtdcmppdhdcjpfaaGreat
open Go.RowKit Go.Deep
theorem Aga : (Tryz.prog.info? 22).map (fun i => (i.zero, i.size, i.bytes)) = some (some (.slice none 0 0), 1, 24) := by kernel_rfl
theorem Aig (l : List IntsV) : ∀ u ∈ Z2 l, u.oneCell' = true := by
 intro u hu
 simp only [Z2, List.mem_map] at hu
 obtain ⟨x, _, rfl⟩ := hu
 rfl
theorem AeC (l : List IntsV) : (Z2 l).length = l.length := by simp [Z2]
def KL (ts : List IntsV) (i k : Nat) (a b : IntsV) : List IntsV := (ts.set i b).set k a
theorem AgT {ts : List IntsV} {i k : Nat} {a b : IntsV} : Z2 (KL ts i k a b) = ((Z2 ts).set i b.val).set k a.val := by
 unfold KL Z2; rw [List.map_set, List.map_set]
theorem AfC {ts : List IntsV} {i k : Nat} {a b : IntsV} (ha : ts[i]? = some a) (hb : ts[k]? = some b) (x : IntsV) : x ∈ KL ts i k a b ↔ x ∈ ts := AgS ha hb x
theorem Acg {ts us : List IntsV} (h : ∀ x, x ∈ us ↔ x ∈ ts) (l : List Int) : l ∈ us.map IntsV.l ↔ l ∈ ts.map IntsV.l := by
 rw [List.mem_map, List.mem_map]
 exact ⟨fun ⟨x, h1, h2⟩ => ⟨x, (h x).1 h1, h2⟩, fun ⟨x, h1, h2⟩ => ⟨x, (h x).2 h1, h2⟩⟩
theorem AdS {params fuel : Int} {ts us : List (List Int)} (hl : us.length = ts.length) (h : ∀ x, x ∈ us ↔ x ∈ ts) : JR params us fuel = JR params ts fuel := by
 have e : (∀ l ∈ us, (l.length : Int) = params) ↔ (∀ l ∈ ts, (l.length : Int) = params) := ⟨fun k l hl => k l ((h l).2 hl), fun k l hl => k l ((h l).1 hl)⟩
 unfold JR
 rw [hl]
 split
 · rfl
 · by_cases h1 : ∀ l ∈ us, (l.length : Int) = params
   · rw [if_pos h1, if_pos (e.1 h1)]
   · rw [if_neg h1, if_neg (fun k => h1 (e.2 k))]
theorem Ae2 {p : PgV} {d : Dl} {fuel : Int} {ts us : List (List Int)} (hl : us.length = ts.length) (h : ∀ x, x ∈ us ↔ x ∈ ts) : Zm p d us fuel = Zm p d ts fuel := by
 unfold Zm KQ; rw [AdS hl h]
theorem Ae3 {p : PgV} {d : Dl} {fuel : Int} {ts us : List (List Int)} (h : ∀ x, x ∈ us ↔ x ∈ ts) : (Km p d us fuel).verdict = (Km p d ts fuel).verdict := Ab2 h
theorem Us {α : Type} : ∀ (l : List α) (i n : Nat) (v : α), (l.set i v).take n = (l.take n).set i v
 | [], _, _, _ => by simp
 | a :: l, 0, 0, v => rfl
 | a :: l, 0, n + 1, v => rfl
 | a :: l, i + 1, 0, v => rfl
 | a :: l, i + 1, n + 1, v => by rw [List.set_cons_succ, List.take_succ_cons, List.take_succ_cons, List.set_cons_succ, Us l i n v]
theorem Y3 (p : PgV) (x : DlV) (t : TsV) (fuel : Int) (hfuelI : -9223372036854775808 ≤ fuel ∧ fuel ≤ 9223372036854775807) (i : Int) (hiI : -9223372036854775808 ≤ i ∧ i ≤ 9223372036854775807) (k : Int) (hkI : -9223372036854775808 ≤ k ∧ k ≤ 9223372036854775807) (w : World) (hok : p.ok w) (hx : DlRaw w x) (ht : TsRaw w t) : Calls Tryz.prog 7 #[p.val, .agg x.cells, t.val, .int .i64 fuel, .int .i64 i, .int .i64 k] w fun e w' => e = .returned (.bool true) ∧ Below w.heap.size w w' := by
 obtain ⟨tA, tcap, ts⟩ := t
 obtain ⟨ht1, ht2, ht3, ht4, ht5⟩ := ht
 rw [show p.val = .agg p.cells from rfl, show (TsV.mk tA tcap ts).val = .slice tA ts.length tcap from rfl]
 have Htn : Hid (ts.length ≤ tcap ∧ tcap ≤ maxLen ∧ (tA = none → tcap = 0)) := ⟨ht1, ht2, ht3⟩
 obtain ⟨xA, xc, d⟩ := x
 rw [show (DlV.mk xA xc d).cells = #[.slice xA d.path.length xc, .int .i64 d.op, .int .i64 d.n] from rfl]
 have hxr : Rd w xA (Qi d.path) := hx.rd
 go_enter Tryz.func7, Tryz.ntmps7
 obtain ⟨S0, hSd⟩ : ∃ S : World → Prop, S = (fun W => Below w.heap.size w W ∧ p.ok W ∧ Rd W xA (Qi d.path) ∧ Rd W tA (Z2 ts) ∧ ∀ y ∈ ts, y.ok W) := ⟨_, rfl⟩
 have st0 : St S0 := by rw [hSd]; infer_instance
 have F_low : Hid (∀ W, S0 W → Below w.heap.size w W) := by show ∀ W, _; rw [hSd]; exact fun W h => h.1
 have F_okp : Hid (∀ W, S0 W → p.ok W) := by show ∀ W, _; rw [hSd]; exact fun W h => h.2.1
 have F_rdx : Hid (∀ W, S0 W → Rd W xA (Qi d.path)) := by show ∀ W, _; rw [hSd]; exact fun W h => h.2.2.1
 have F_rdt : Hid (∀ W, S0 W → Rd W tA (Z2 ts)) := by show ∀ W, _; rw [hSd]; exact fun W h => h.2.2.2.1
 have F_okt : Hid (∀ W, S0 W → ∀ y ∈ ts, y.ok W) := by show ∀ W, _; rw [hSd]; exact fun W h => h.2.2.2.2
 have HS0 : Hid (S0 w) := by show S0 w; rw [hSd]; exact ⟨Below.refl _ _, hok, hxr, ht4, ht5⟩
 clear hSd
 clear ht1 ht2 ht3 ht4 ht5 hok hxr hx
 go_wp2_with (refine Qp _ _ rfl ?_)
 refine Stop.to ?_
 refine Qe rfl 25 _ rfl p.cells rfl ?_
 intro G_1 w_2 hG rG bG
 have hprev := st0.go HS0.out (bG.mono hG)
 obtain ⟨S1, hSd⟩ : ∃ S : World → Prop, S = (fun W => S0 W ∧ Row W G_1 25 p.cells) := ⟨_, rfl⟩
 have st1 : St S1 := by rw [hSd]; infer_instance
 have D1 : Hid (∀ W, S1 W → S0 W) := by show ∀ W, _; rw [hSd]; exact fun W h => h.1
 have F_P : Hid (∀ W, S1 W → Row W G_1 25 p.cells) := by show ∀ W, _; rw [hSd]; exact fun W h => h.2
 have HS1 : Hid (S1 w_2) := by show S1 w_2; rw [hSd]; exact ⟨hprev, rG⟩
 clear hSd
 clear hprev HS0 hG rG bG
 go_wp2_with (refine Qp _ _ rfl ?_)
 refine Stop.to ?_
 refine Qe rfl 35 _ rfl #[.slice xA d.path.length xc, .int .i64 d.op, .int .i64 d.n] rfl ?_
 intro G_3 w_4 hG rG bG
 have hprev := st1.go HS1.out (bG.mono hG)
 obtain ⟨S2, hSd⟩ : ∃ S : World → Prop, S = (fun W => S1 W ∧ Row W G_3 35 #[.slice xA d.path.length xc, .int .i64 d.op, .int .i64 d.n]) := ⟨_, rfl⟩
 have st2 : St S2 := by rw [hSd]; infer_instance
 have D2 : Hid (∀ W, S2 W → S1 W) := by show ∀ W, _; rw [hSd]; exact fun W h => h.1
 have F_D : Hid (∀ W, S2 W → Row W G_3 35 #[.slice xA d.path.length xc, .int .i64 d.op, .int .i64 d.n]) := by show ∀ W, _; rw [hSd]; exact fun W h => h.2
 have HS2 : Hid (S2 w_4) := by show S2 w_4; rw [hSd]; exact ⟨hprev, rG⟩
 clear hSd
 clear hprev HS1 hG rG bG
 go_wp2_with fail
 refine (AcU w_4).mono ?_
 rintro e w_5 ⟨rfl, bb⟩
 have hprev := st2.go HS2.out (bb)
 replace HS2 := Lh hprev
 clear hprev bb
 go_wp2_with (refine wpList_load_row rfl 25 _ rfl G_1 rfl 25 p.cells (0, 0) _ (F_P.out _ (D2.out _ HS2.out)) Tryz.underlying25 rfl (by kernel_rfl) ?_)
 refine (AeQ p tA tcap ts fuel w_5 (F_rdt.out _ (D1.out _ (D2.out _ HS2.out)))).mono ?_
 rintro e w_6 ⟨rfl, bb⟩
 have hprev := st2.go HS2.out (bb)
 replace HS2 := Lh hprev
 clear hprev bb
 generalize hq : Af3 p ts fuel = q
 have Hq := Lh hq
 clear hq
 cases q
 · skip
   go_wp2_with fail
   go_ret
   exact ⟨rfl, (F_low.out _ (D1.out _ (D2.out _ HS2.out)))⟩
 have hfz := Ahu Hq.out
 have Hbl : Hid (p.body.length ≤ 40) := hfz.1
 have Htl : Hid (ts.length ≤ 5) := hfz.2.2.1
 have Htm : Hid (∀ x ∈ ts, x.l.length ≤ 40) := hfz.2.2.2.1
 have htl5 : (ts.length : Int) ≤ 5 := by omega
 clear hfz Hq
 have cd0 := (F_D.out _ HS2.out).cellv (i := 0) (v := .slice xA d.path.length xc) rfl
 by_cases hd : 60 < (d.path.length : Int)
 · skip
   go_wp2_with fail
   go_ret
   exact ⟨rfl, (F_low.out _ (D1.out _ (D2.out _ HS2.out)))⟩
 have hd60 : (d.path.length : Int) ≤ 60 := by omega
 have Hd : Hid (d.path.length ≤ 1000000) := by show _ ≤ _; omega
 by_cases hi0 : i < 0
 · skip
   go_wp2_with fail
   go_ret
   exact ⟨rfl, (F_low.out _ (D1.out _ (D2.out _ HS2.out)))⟩
 have hi1 : 0 ≤ i := by omega
 by_cases hi2 : i ≥ (ts.length : Int)
 · skip
   go_wp2_with fail
   go_ret
   exact ⟨rfl, (F_low.out _ (D1.out _ (D2.out _ HS2.out)))⟩
 have hi3 : i < (ts.length : Int) := by omega
 by_cases hk0 : k < 0
 · skip
   go_wp2_with fail
   go_ret
   exact ⟨rfl, (F_low.out _ (D1.out _ (D2.out _ HS2.out)))⟩
 have hk1 : 0 ≤ k := by omega
 by_cases hk2 : k ≥ (ts.length : Int)
 · skip
   go_wp2_with fail
   go_ret
   exact ⟨rfl, (F_low.out _ (D1.out _ (D2.out _ HS2.out)))⟩
 have hk3 : k < (ts.length : Int) := by omega
 obtain ⟨ni, rfl⟩ : ∃ n : Nat, i = (n : Int) := ⟨i.toNat, by omega⟩
 obtain ⟨nk, rfl⟩ : ∃ n : Nat, k = (n : Int) := ⟨k.toNat, by omega⟩
 have hni : ni < ts.length := by omega
 have hnk : nk < ts.length := by omega
 obtain ⟨ti, hti⟩ : ∃ x, ts[ni]? = some x := ⟨_, List.getElem?_eq_getElem hni⟩
 obtain ⟨tk, htk⟩ : ∃ x, ts[nk]? = some x := ⟨_, List.getElem?_eq_getElem hnk⟩
 have Hti := Lh hti
 have Htk := Lh htk
 clear hti htk hi0 hi2 hk0 hk2
 go_wp2_with (refine Zl _ _ _ rfl ?_)
 refine Stop.to ?_
 refine Qq rfl 46 0 _ rfl 22 #[] (fun W => by kernel_rfl) ?_
 intro g0 v1 hG rG bG
 have own0 : v1.ownsRow (w_6).heap.size 22 1 (.slice (some ⟨g0, 0, none⟩) 0 0) 0 [] := KF hG rG
 have rdt1 := (F_rdt.out _ (D1.out _ (D2.out _ HS2.out))).go (bG.mono hG)
 obtain ⟨lv, v2, hrun, ownl, hgr, -⟩ := ZL (P := Tryz.prog) 46 22 (.slice none 0 0) 1 24 Tryz.underlying46 Aga rfl (by decide) (by decide) own0 (bG.mono hG).size rdt1 (m := ts.length) (cap := tcap) (by rw [AeC, Nat.mul_one]) (Aig ts) (fun e => by have := Htn.out.2.2 e; have := Htn.out.1; omega) (by omega)
 have bl := QK (bG.mono hG) own0 hgr (bG.mono hG).size (Nat.le_refl _)
 go_wp2_with (refine Ad4 _ _ _ _ rfl ?_)
 refine Stop.to ?_
 refine Zc rfl _ (QU rfl hrun) ?_
 rw [Nat.zero_add, List.nil_append] at ownl
 obtain ⟨hll, hl0 | ⟨lg, lc, lcur, rfl, hlb, hlr, hlc, hlm, hls, hlt⟩⟩ := ownl
 · exact absurd hl0.2 (by omega)
 have Hls : Hid (lcur.size = lc * 1 ∧ lcur.toList.take (ts.length * 1) = Z2 ts) := ⟨hls, hlt⟩
 have hlcI : (ts.length : Int) ≤ (lc : Int) := by omega
 have HlB := Lh hlb
 obtain ⟨ad, had, _⟩ := Kx ((F_rdt.out _ (D1.out _ (D2.out _ HS2.out)))) Hti.out
 subst had
 have hni0 : (0 : Int) ≤ (ni : Int) := by omega
 have hnk0 : (0 : Int) ≤ (nk : Int) := by omega
 have hni1 : (ni : Int) < (ts.length : Int) := by omega
 have hnk1 : (nk : Int) < (ts.length : Int) := by omega
 obtain ⟨T, hTd⟩ : ∃ T : World → Prop, T = (fun W => Below (w_6).heap.size (w_6) W) := ⟨_, rfl⟩
 have T0 : Hid (∀ W, T W → S2 W) := by show ∀ W, _; rw [hTd]; exact fun W h => st2.go HS2.out h
 have TB : Hid (∀ W, T W → Below (w_6).heap.size (w_6) W) := by show ∀ W, _; rw [hTd]; exact fun W h => h
 have TO : Hid (∀ W W', T W → Only lg W W' → T W') := by show ∀ W W', _; rw [hTd]; exact fun W W' h o => Qo h o HlB.out
 have stT : St T := by rw [hTd]; exact ⟨fun h b => h.trans (b.mono h.size)⟩
 have hT : T v2 := by rw [hTd]; exact bl
 clear hTd hG rG bG own0 rdt1 hrun hgr bl hll hlc hlm hls hlt hlb
 go_wp2_with fail
 refine wp_region_held (S := T) (by kernel_rfl) ?_
 simp only [List.size_toArray, List.length_cons, List.length_nil, Nat.reduceAdd, Array.replicate_succ, Array.replicate_zero, List.push_toArray, List.nil_append, List.cons_append]
 show wpAnyH _ _ _ _ _ _ _ _ v2.drew
 have hS0 : T v2.drew := St.drew hT
 have rl0 : Row v2.drew lg 22 lcur := hlr
 generalize v2.drew = V0 at hS0 rl0 ⊢
 clear hT hlr
 (refine tkH 0 (.slice (some ⟨lg, 0, none⟩) ts.length lc) rfl (Qd rfl (fun W hW => by (go_simp))) ?_; simp only [Act.put, Qa, Qb, Qc])
 (refine tkH 1 (.int .i64 (ni : Int)) rfl (Qd rfl (fun W hW => by (go_simp))) ?_; simp only [Act.put, Qa, Qb, Qc])
 (refine tkH 2 (.slice (some ⟨lg, 0, none⟩) ts.length lc) rfl (Qd rfl (fun W hW => by (go_simp))) ?_; simp only [Act.put, Qa, Qb, Qc])
 (refine tkH 3 (.int .i64 (nk : Int)) rfl (Qd rfl (fun W hW => by (go_simp))) ?_; simp only [Act.put, Qa, Qb, Qc])
 (refine tkH 4 (.slice (some ad) ts.length tcap) rfl (Qd rfl (fun W hW => by (go_simp))) ?_; simp only [Act.put, Qa, Qb, Qc])
 (refine tkH 5 (.int .i64 (nk : Int)) rfl (Qd rfl (fun W hW => by (go_simp))) ?_; simp only [Act.put, Qa, Qb, Qc])
 (refine tkH 6 (.pointer (some (ad.add nk))) rfl (Qd rfl (fun W hW => by (go_simp))) ?_; simp only [Act.put, Qa, Qb, Qc])
 (refine tkH 7 (.slice tk.addr tk.l.length tk.cap) rfl (Qd rfl (fun W hW => by ((have c := (by obtain ⟨a2, e2, h2⟩ := Kx (F_rdt.out _ (D1.out _ (D2.out _ (T0.out _ hW)))) Htk.out; injection e2 with e2; rw [e2]; exact h2 : W.cell? (ad.add nk) = some (.slice tk.addr tk.l.length tk.cap)); go_simp)))) ?_; simp only [Act.put, Qa, Qb, Qc])
 (refine tkH 8 (.slice (some ad) ts.length tcap) rfl (Qd rfl (fun W hW => by (go_simp))) ?_; simp only [Act.put, Qa, Qb, Qc])
 (refine tkH 9 (.int .i64 (ni : Int)) rfl (Qd rfl (fun W hW => by (go_simp))) ?_; simp only [Act.put, Qa, Qb, Qc])
 (refine tkH 10 (.pointer (some (ad.add ni))) rfl (Qd rfl (fun W hW => by (go_simp))) ?_; simp only [Act.put, Qa, Qb, Qc])
 (refine tkH 11 (.slice ti.addr ti.l.length ti.cap) rfl (Qd rfl (fun W hW => by ((have c := (by obtain ⟨a2, e2, h2⟩ := Kx (F_rdt.out _ (D1.out _ (D2.out _ (T0.out _ hW)))) Hti.out; injection e2 with e2; rw [e2]; exact h2 : W.cell? (ad.add ni) = some (.slice ti.addr ti.l.length ti.cap)); go_simp)))) ?_; simp only [Act.put, Qa, Qb, Qc])
 (refine tkH 12 (.pointer (some ⟨lg, ni, none⟩)) rfl (Qd rfl (fun W hW => by (go_simp))) ?_; simp only [Act.put, Qa, Qb, Qc])
 have hln : (Z2 ts).length = ts.length := AeC ts
 have hce : ∀ (q : Nat) (x : IntsV), ts[q]? = some x → lcur[q]? = some x.val := fun q x hx => by
  have h1 : (lcur.toList.take (ts.length * 1))[q]? = some x.val := by rw [Hls.out.2]; unfold Z2; rw [List.getElem?_map, hx]; rfl
  have hq := (List.getElem?_eq_some_iff.1 hx).1
  rw [List.getElem?_take_of_lt (by omega)] at h1
  simpa using h1
 have c1 := rl0.cellv (hce ni ti Hti.out)
 have f1 := rl0.free ni
 have rl1 : Row (V0.setCell ⟨lg, ni, none⟩ (.slice tk.addr tk.l.length tk.cap)) lg 22 (lcur.setIfInBounds ni (.slice tk.addr tk.l.length tk.cap)) := rl0.set ni _
 have hS1 := TO.out _ _ hS0 (Q5 V0 lg ni (.slice tk.addr tk.l.length tk.cap))
 (refine wpAnyH_all (rs := [13]) (by kernel_rfl) (by simp) (fun i hi => ?_); obtain rfl : i = 13 := by simpa using hi)
 refine Qf rfl rfl (fun K2 hK2 => ?_)
 unfold Oper.wp
 go_simp
 refine hK2 _ _ ?_
 clear hK2 K2 c1 f1
 simp only [Qa, Qb, Qc]
 refine ⟨hS1, ?_⟩
 generalize V0.setCell ⟨lg, ni, none⟩ (.slice tk.addr tk.l.length tk.cap) = V1 at hS1 rl1 ⊢
 clear hS0 rl0
 (refine tkH 14 (.pointer (some ⟨lg, nk, none⟩)) rfl (Qd rfl (fun W hW => by (go_simp))) ?_; simp only [Act.put, Qa, Qb, Qc])
 obtain ⟨u2, hu2⟩ : ∃ u, (lcur.setIfInBounds ni (.slice tk.addr tk.l.length tk.cap))[nk]? = some u := by
  refine ⟨_, Array.getElem?_eq_getElem ?_⟩
  rw [Array.size_setIfInBounds]
  have := (Array.getElem?_eq_some_iff.1 (hce nk tk Htk.out)).1
  exact this
 have c2 := rl1.cellv hu2
 have f2 := rl1.free nk
 have rl2 : Row (V1.setCell ⟨lg, nk, none⟩ (.slice ti.addr ti.l.length ti.cap)) lg 22 ((lcur.setIfInBounds ni (.slice tk.addr tk.l.length tk.cap)).setIfInBounds nk (.slice ti.addr ti.l.length ti.cap)) := rl1.set nk _
 have hS2 := TO.out _ _ hS1 (Q5 V1 lg nk (.slice ti.addr ti.l.length ti.cap))
 (refine wpAnyH_all (rs := [15]) (by kernel_rfl) (by simp) (fun i hi => ?_); obtain rfl : i = 15 := by simpa using hi)
 refine Qf rfl rfl (fun K2 hK2 => ?_)
 unfold Oper.wp
 go_simp
 refine hK2 _ _ ?_
 clear hK2 K2 c2 f2
 simp only [Qa, Qb, Qc]
 refine ⟨hS2, ?_⟩
 generalize V1.setCell ⟨lg, nk, none⟩ (.slice ti.addr ti.l.length ti.cap) = V2 at hS2 rl2 ⊢
 clear hS1 rl1
 refine wpAnyH_done (by kernel_rfl) ?_ _
 have hlt2 : ((lcur.setIfInBounds ni (.slice tk.addr tk.l.length tk.cap)).setIfInBounds nk (.slice ti.addr ti.l.length ti.cap)).toList.take ts.length = Z2 (KL ts ni nk ti tk) := by
  rw [AgT, Array.toList_setIfInBounds, Array.toList_setIfInBounds, Us, Us]
  have h1 := Hls.out.2
  rw [Nat.mul_one] at h1
  rw [h1]; rfl
 have rdl : Rd V2 (some ⟨lg, 0, none⟩) (Z2 (KL ts ni nk ti tk)) := fun j u hj => ⟨_, rfl, by
  have h1 : ((lcur.setIfInBounds ni (.slice tk.addr tk.l.length tk.cap)).setIfInBounds nk (.slice ti.addr ti.l.length ti.cap))[j]? = some u := by
   have hjl := (List.getElem?_eq_some_iff.1 hj).1
   rw [← hlt2] at hj hjl
   rw [List.length_take] at hjl
   rw [List.getElem?_take_of_lt (by omega), Array.getElem?_toList] at hj
   exact hj
  have h2 := rl2.cellv h1
  unfold Addr.add
  by_cases h0 : j = 0
  · subst h0; exact h2
  · rw [if_neg h0]; simpa using h2⟩
 have Hmem : Hid (∀ x, x ∈ KL ts ni nk ti tk ↔ x ∈ ts) := fun x => AfC Hti.out Htk.out x
 have Hlen : Hid ((KL ts ni nk ti tk).length = ts.length) := by show _ = _; simp [KL]
 have hprev := st2.go HS2.out (TB.out _ hS2)
 obtain ⟨S3, hSd⟩ : ∃ S : World → Prop, S = (fun W => S2 W ∧ Rd W (some ⟨lg, 0, none⟩) (Z2 (KL ts ni nk ti tk))) := ⟨_, rfl⟩
 have st3 : St S3 := by rw [hSd]; infer_instance
 have D3 : Hid (∀ W, S3 W → S2 W) := by show ∀ W, _; rw [hSd]; exact fun W h => h.1
 have F_rdl : Hid (∀ W, S3 W → Rd W (some ⟨lg, 0, none⟩) (Z2 (KL ts ni nk ti tk))) := by show ∀ W, _; rw [hSd]; exact fun W h => h.2
 have HS3 : Hid (S3 V2) := by show S3 V2; rw [hSd]; exact ⟨hprev, rdl⟩
 clear hSd
 clear hprev HS2 hS2 rl2 hlt2 rdl hce hln u2 hu2 T0 TB TO stT T HlB Hls
 clear cd0
 go_wp2_with (first | (refine wpList_load_row rfl 25 _ rfl G_1 rfl 25 p.cells (0, 0) _ (F_P.out _ (D2.out _ (D3.out _ HS3.out))) Tryz.underlying25 rfl (by kernel_rfl) ?_) | (refine wpList_load_row rfl 35 _ rfl G_3 rfl 35 #[.slice xA d.path.length xc, .int .i64 d.op, .int .i64 d.n] (0, 0) _ (F_D.out _ (D3.out _ HS3.out)) Tryz.underlying35 rfl (by kernel_rfl) ?_))
 refine (JA p ⟨xA, xc, d⟩ (some ad) tcap ts fuel V2 (F_okp.out _ (D1.out _ (D2.out _ (D3.out _ HS3.out)))) ⟨(F_rdx.out _ (D1.out _ (D2.out _ (D3.out _ HS3.out)))), Hd.out⟩ (by have := Hbl.out; omega) (F_rdt.out _ (D1.out _ (D2.out _ (D3.out _ HS3.out)))) (F_okt.out _ (D1.out _ (D2.out _ (D3.out _ HS3.out)))) (by have := Htl.out; omega) (fun x hx => by have := Htm.out x hx; omega)).mono ?_
 rintro e w_7 ⟨yA, rfl, hy, hy0, bb⟩
 have HYA := Lh hy0
 have HCA : Hid (Zm p d (List.map IntsV.l ts) fuel = 0 → yA.m = Km p d (List.map IntsV.l ts) fuel) := fun h => (hy h).1
 have hprev := st3.go HS3.out (bb)
 replace HS3 := Lh hprev
 clear hprev bb hy hy0
 go_wp2_with (refine QW _ rfl ?_)
 refine Stop.to ?_
 refine Qk rfl 54 rfl _ _ (Js _) rfl ?_
 intro G_8 w_9 hG rG bG
 go_wp2_with (refine QA _ _ _ rfl ?_)
 refine Stop.to ?_
 refine Qj rfl 54 _ _ rfl G_8 yA.cells.toArray rfl rfl 54 _ rG (by kernel_rfl) rfl (by simp [MtV.cells, Value.oneCell']) ?_
 intro w_10 rH oH
 have bH : Below (w_7).heap.size w_7 w_10 := (bG.mono hG).trans (oH.below hG)
 have hprev := st3.go HS3.out (bH)
 obtain ⟨S4, hSd⟩ : ∃ S : World → Prop, S = (fun W => S3 W ∧ Row W G_8 54 yA.cells.toArray) := ⟨_, rfl⟩
 have st4 : St S4 := by rw [hSd]; infer_instance
 have D4 : Hid (∀ W, S4 W → S3 W) := by show ∀ W, _; rw [hSd]; exact fun W h => h.1
 have F_A : Hid (∀ W, S4 W → Row W G_8 54 yA.cells.toArray) := by show ∀ W, _; rw [hSd]; exact fun W h => h.2
 have HS4 : Hid (S4 w_10) := by show S4 w_10; rw [hSd]; exact ⟨hprev, rH⟩
 clear hSd
 clear hprev HS3 hG rG bG rH oH bH
 have hll2 : ts.length = (KL ts ni nk ti tk).length := Hlen.out.symm
 rw [hll2]
 go_wp2_with (first | (refine wpList_load_row rfl 25 _ rfl G_1 rfl 25 p.cells (0, 0) _ (F_P.out _ (D2.out _ (D3.out _ (D4.out _ HS4.out)))) Tryz.underlying25 rfl (by kernel_rfl) ?_) | (refine wpList_load_row rfl 35 _ rfl G_3 rfl 35 #[.slice xA d.path.length xc, .int .i64 d.op, .int .i64 d.n] (0, 0) _ (F_D.out _ (D3.out _ (D4.out _ HS4.out))) Tryz.underlying35 rfl (by kernel_rfl) ?_))
 refine (JA p ⟨xA, xc, d⟩ (some ⟨lg, 0, none⟩) lc (KL ts ni nk ti tk) fuel w_10 (F_okp.out _ (D1.out _ (D2.out _ (D3.out _ (D4.out _ HS4.out))))) ⟨(F_rdx.out _ (D1.out _ (D2.out _ (D3.out _ (D4.out _ HS4.out))))), Hd.out⟩ (by have := Hbl.out; omega) (F_rdl.out _ (D4.out _ HS4.out)) (fun x hx => (F_okt.out _ (D1.out _ (D2.out _ (D3.out _ (D4.out _ HS4.out))))) x ((Hmem.out x).1 hx)) (by rw [Hlen.out]; have := Htl.out; omega) (fun x hx => by have := Htm.out x ((Hmem.out x).1 hx); omega)).mono ?_
 rintro e w_11 ⟨yB, rfl, hy, hy0, bb⟩
 have HYB := Lh hy0
 have HCB : Hid (Zm p d (List.map IntsV.l (KL ts ni nk ti tk)) fuel = 0 → yB.m = Km p d (List.map IntsV.l (KL ts ni nk ti tk)) fuel) := fun h => (hy h).1
 have hprev := st4.go HS4.out (bb)
 replace HS4 := Lh hprev
 clear hprev bb hy hy0
 go_wp2_with (refine QW _ rfl ?_)
 refine Stop.to ?_
 refine Qk rfl 54 rfl _ _ (Js _) rfl ?_
 intro G_12 w_13 hG rG bG
 go_wp2_with (refine QA _ _ _ rfl ?_)
 refine Stop.to ?_
 refine Qj rfl 54 _ _ rfl G_12 yB.cells.toArray rfl rfl 54 _ rG (by kernel_rfl) rfl (by simp [MtV.cells, Value.oneCell']) ?_
 intro w_14 rH oH
 have bH : Below (w_11).heap.size w_11 w_14 := (bG.mono hG).trans (oH.below hG)
 have hprev := st4.go HS4.out (bH)
 obtain ⟨S5, hSd⟩ : ∃ S : World → Prop, S = (fun W => S4 W ∧ Row W G_12 54 yB.cells.toArray) := ⟨_, rfl⟩
 have st5 : St S5 := by rw [hSd]; infer_instance
 have D5 : Hid (∀ W, S5 W → S4 W) := by show ∀ W, _; rw [hSd]; exact fun W h => h.1
 have F_B : Hid (∀ W, S5 W → Row W G_12 54 yB.cells.toArray) := by show ∀ W, _; rw [hSd]; exact fun W h => h.2
 have HS5 : Hid (S5 w_14) := by show S5 w_14; rw [hSd]; exact ⟨hprev, rH⟩
 clear hSd
 clear hprev HS4 hG rG bG rH oH bH
 have hcc : Zm p d (List.map IntsV.l (KL ts ni nk ti tk)) fuel = Zm p d (List.map IntsV.l ts) fuel := Ae2 (by rw [List.length_map, List.length_map, Hlen.out]) (Acg Hmem.out)
 have hvv : yB.m.verdict = yA.m.verdict := by
  by_cases h0 : Zm p d (List.map IntsV.l ts) fuel = 0
  · rw [HCA.out h0, HCB.out (hcc.trans h0)]; exact Ae3 (Acg Hmem.out)
  · rw [HYA.out h0, HYB.out (fun h => h0 (hcc.symm.trans h))]
 rw [hcc]
 have Hvv := Lh hvv
 clear hcc hvv
 generalize Zm p d (List.map IntsV.l ts) fuel = cc
 have cA := (F_A.out _ (D5.out _ HS5.out)).cellv (i := 3) (v := .int .i64 yA.m.verdict) rfl
 have cB0 := (F_B.out _ HS5.out).cellv (i := 3) (v := .int .i64 yB.m.verdict) rfl
 rw [Hvv.out] at cB0
 have he1 : (cc == cc) = true := by simp
 have he2 : (yA.m.verdict == yA.m.verdict) = true := by simp
 go_wp2_with fail
 go_ret
 exact ⟨rfl, (F_low.out _ (D1.out _ (D2.out _ (D3.out _ (D4.out _ (D5.out _ HS5.out))))))⟩
end Go.Proofs.YtdcmppdhdcjpfaaGreat
