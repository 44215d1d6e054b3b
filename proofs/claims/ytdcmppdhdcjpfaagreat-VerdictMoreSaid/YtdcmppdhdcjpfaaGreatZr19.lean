/- Lemmas for VerdictMoreP. -/
import Derived.Test.YtdcmppdhdcjpfaaGreatZr1
import Derived.Test.YtdcmppdhdcjpfaaGreatZr18
import Derived.Test.YtdcmppdhdcjpfaaGreatZr8
import Derived.Laws.CopyRow
set_option linter.unusedVariables false
set_option linter.unusedSimpArgs false
set_option maxRecDepth 100000
set_option maxHeartbeats 16000000
namespace Go.Proofs.YtdcmppdhdcjpfaaGreat
open Go.RowKit Go.Deep
def Zw (p : PgV) (q n : Int) : Array Value := #[.int .i64 p.params, .slice p.va p.V.length p.vcap, .slice p.ba p.body.length p.bcap, .int .i64 q, .int .i64 n]
theorem Ac0 {w : World} : (zeroValue 85).run Tryz.prog w = .ok (.agg #[.int .i64 0, .int .i64 0]) w := by kernel_rfl
theorem Kv (p : PgV) (q : Nat) (n : Int) (x : Nd) (w : World) (hx : p.body[q]? = some x) (hok : p.ok w) :
 Calls Tryz.prog 182 #[.agg (Zw p q n)] w fun e w' => e = .returned (.agg #[.int .i64 x.tag, .int .i64 x.n]) ∧ Below w.heap.size w w' := by
 obtain ⟨pa, va, vc, V, ba, bc, body⟩ := p
 obtain ⟨ad, had, hc⟩ := Jq hok.brd hx
 have had : ba = some ad := had
 subst had
 have hx : body[q]? = some x := hx
 have hq := (List.getElem?_eq_some_iff.1 hx).1
 have hqI : (q : Int) < (body.length : Int) := by omega
 have Hc : Hid (∀ W, Below w.heap.size w W → ∀ j u, x.cells[j]? = some u → W.cell? ((ad.add (q * 2)).add j) = some u) := fun W b => by
  obtain ⟨ad', e, hc⟩ := Jq (hok.go b).brd hx
  injection e with e
  subst e
  exact hc
 clear hc hx hok hq
 go_enter Tryz.func182, Tryz.ntmps182
 go_wp2_with (refine Qp _ _ rfl ?_)
 refine Stop.to ?_
 refine Qf rfl 176 _ rfl (Zw ⟨pa, va, vc, V, some ad, bc, body⟩ q n) rfl ?_
 intro G Gw Gh Gr Gb
 go_wp2_with (first | fail | (refine QY _ rfl ?_))
 refine Stop.to ?_
 refine Ql rfl 85 rfl _ _ Ac0 rfl ?_
 intro J Jw Jh Jr Jb
 have rG := Gr.below Jb (Nat.lt_of_lt_of_le Gr.lt Jh)
 have b1 := (Below.refl w.heap.size w).trans (Gb.mono Gh)
 have b2 := b1.trans ((Jb.mono Jh).mono b1.size)
 have hJ : w.heap.size ≤ J := Nat.le_trans b1.size Jh
 have c2 := rG.cellv (i := 2) (v := .slice (some ad) body.length bc) rfl
 have c3 := rG.cellv (i := 3) (v := .int .i64 q) rfl
 have HcJ := Lh (Hc.out _ b2)
 clear Gr Gb Jb b1 Gh Jh rG Hc
 go_wp2_with (first | (refine QH rfl 85 _ rfl (ad.add (q * 2)) rfl x.cells _ HcJ.out Tryz.underlying85 rfl (by kernel_rfl) ?_) | (refine QD 85 _ _ rfl ?_))
 refine Stop.to ?_
 refine Qk rfl 85 _ _ rfl J #[.int .i64 x.tag, .int .i64 x.n] rfl rfl 85 _ Jr (by kernel_rfl) rfl (by simp [Value.oneCell']) ?_
 intro W9 r9 o9
 go_wp2_with fail
 refine bodyPost_ret (results_cell_row Tryz.results182 _ _ J 85 _ (0, 0) _ rfl r9 Tryz.underlying85 rfl (by kernel_rfl)) rfl ?_
 exact ⟨rfl, b2.trans (o9.below hJ)⟩
theorem X6 (a b : Int) (w : World) : (Instr.field 85 (.agg #[.int .i64 a, .int .i64 b]) 0).run Tryz.prog w = .ok (.int .i64 a) w := by kernel_rfl
theorem E3 (a b : Int) (w : World) : (Instr.field 85 (.agg #[.int .i64 a, .int .i64 b]) 1).run Tryz.prog w = .ok (.int .i64 b) w := by kernel_rfl
theorem AeN (p : PgV) (q : Nat) (n lo hi : Int) (x : Nd) (w : World) (hx : p.body[q]? = some x) (hok : p.ok w) (h1 : lo ≤ x.tag) (h2 : x.tag ≤ hi) (h3 : lo ≤ n) (h4 : n ≤ hi) :
 Calls Tryz.prog 245 #[.agg (Zw p q n), .int .i64 lo, .int .i64 hi] w fun e w' => e = .returned (.bool true) ∧ Below w.heap.size w w' := by
 have Hn : Hid (∀ W, Below w.heap.size w W → Calls Tryz.prog 182 #[.agg (Zw p q n)] W fun e w' => e = .returned (.agg #[.int .i64 x.tag, .int .i64 x.n]) ∧ Below W.heap.size W w') := fun W b => Kv p q n x W hx (hok.go b)
 clear hx hok
 have f0 := X6 x.tag x.n
 go_enter Tryz.func245, Tryz.ntmps245
 go_wp2_with (refine Qp _ _ rfl ?_)
 refine Stop.to ?_
 refine Qf rfl 176 _ rfl (Zw p q n) rfl ?_
 intro G Gw Gh Gr Gb
 have b1 := (Below.refl w.heap.size w).trans (Gb.mono Gh)
 have Hc := Lh (Hn.out _ b1)
 clear Gb Gh Hn
 go_wp2_with (refine wpList_load_row rfl 176 _ rfl G rfl 176 (Zw p q n) (0, 0) _ Gr Tryz.underlying176 rfl (by kernel_rfl) ?_)
 refine Hc.out.mono ?_
 rintro e w1 ⟨rfl, b2⟩
 have Gr2 := Gr.below b2 Gr.lt
 have b3 := b1.trans (b2.mono b1.size)
 have c4 := Gr2.cellv (i := 4) (v := .int .i64 n) rfl
 clear Gr Gr2 b1 b2 Hc
 go_wp2_with fail
 go_ret
 exact ⟨rfl, b3⟩
theorem Aiq (W : World) : (Instr.buildSlice 23 0 #[]).run Tryz.prog W = .ok (.slice (some ⟨W.heap.size, 0, none⟩) 0 0) (W.alloc (.cells #[] 85)) := by kernel_rfl
theorem Va (A : Option Addr) (cap : Nat) (l : List Nd) (w : World) (hr : Rd w A (l.flatMap Nd.cells)) (hnil : A = none → l = []) (hl : l.length ≤ 100000) :
 Calls Tryz.prog 186 #[.slice A l.length cap] w fun e w' => NdsR l w w' e := by
 rcases A with _ | ad
 · have h0 := hnil rfl
   subst h0
   have hq := fun W : World => Lib.run_eql_slice_nil (P := Tryz.prog) W 23 85 none 0 cap 0 0 Tryz.underlying23
   simp only [Option.isNone_none] at hq
   rw [show ([] : List Nd).length = 0 from rfl]
   go_enter Tryz.func186, Tryz.ntmps186
   go_wp2_with fail
   go_ret
   exact ⟨_, rfl, World.ownsRow_nil _ _ _ _, Below.refl _ _⟩
 · have Hr := Lh hr
   have Hl := Lh hl
   clear hr hl hnil
   have hq := fun W : World => Lib.run_eql_slice_nil (P := Tryz.prog) W 23 85 (some ad) l.length cap 0 0 Tryz.underlying23
   simp only [Option.isNone_some] at hq
   go_enter Tryz.func186, Tryz.ntmps186
   go_wp2_with (refine Zp _ _ _ rfl ?_)
   refine Stop.to ?_
   refine Zg rfl _ (Qn [] rfl (Aiq w)) ?_
   have rG := Row.new w 85 #[]
   have b1 := (Below.refl w.heap.size w).alloc (Nat.le_refl _) (.cells #[] 85)
   generalize w.alloc (.cells #[] 85) = w1 at rG b1 ⊢
   obtain ⟨v', w2, hrun, hown, hgr, _⟩ := ZB (P := Tryz.prog) 23 85 (.agg #[.int .i64 0, .int .i64 0]) 2 16 Tryz.underlying23 AaM rfl (by decide) (by decide) (ZY (B := w.heap.size) (size := 2) (Nat.le_refl _) rG) b1.size (Hr.out.go b1) (m := l.length) (cap := cap) (by rw [ZQ]) (UR l) (by simp) (by have := Hl.out; omega)
   rw [Nat.zero_add, List.nil_append] at hown
   have b2 := Qm b1 (ZY (B := w.heap.size) (size := 2) (Nat.le_refl _) rG) hgr b1.size (Nat.le_refl _)
   have Hrun := Lh hrun
   clear hrun hgr rG
   go_wp2_with (refine Yy ?_)
   refine Stop.to ?_
   refine Zg rfl _ (Qq rfl Hrun.out) ?_
   obtain ⟨A3, c3, rfl⟩ := Zd hown
   go_wp2
   go_ret
   exact ⟨_, rfl, hown, b2⟩
theorem AbS : ∀ {l : List Nd} {q : Nat} (y : Nd), q < l.length → (l.set q y).flatMap Nd.cells = (l.flatMap Nd.cells).take (q * 2) ++ (y.cells ++ (l.flatMap Nd.cells).drop (q * 2 + 2))
 | [], _, _, h => by simp at h
 | x :: l, 0, y, _ => by simp [Nd.cells]
 | x :: l, q + 1, y, h => by
  have ih := AbS (l := l) (q := q) y (by simpa using h)
  rw [List.set_cons_succ, List.flatMap_cons, List.flatMap_cons, ih]
  have e : (q + 1) * 2 = 2 + q * 2 := by omega
  have e2 : (q + 1) * 2 + 2 = 2 + (q * 2 + 2) := by omega
  have hx : x.cells.length = 2 := rfl
  have d1 : List.drop (2 + (q * 2 + 2)) (x.cells ++ l.flatMap Nd.cells) = List.drop (q * 2 + 2) (l.flatMap Nd.cells) := by rw [← List.drop_drop, List.drop_left' hx]
  have d2 : List.take (2 + q * 2) (x.cells ++ l.flatMap Nd.cells) = x.cells ++ (l.flatMap Nd.cells).take (q * 2) := by rw [List.take_add, List.take_left' hx, List.drop_left' hx]
  rw [e2, d1, e, d2, List.append_assoc]
theorem Agp {W : World} {B n : Nat} {v : Value} {l : List Nd} (h : W.ownsRow B 85 2 v n (l.flatMap Nd.cells)) {q : Nat} (hq : q < n) :
 ∃ g cap cur, v = .slice (some ⟨g, 0, none⟩) n cap ∧ B ≤ g ∧ n ≤ cap ∧ Row W g 85 cur ∧ q * 2 + 2 ≤ cur.size ∧ ∀ (W' : World) (y : Nd), Row W' g 85 (ZD cur (q * 2) y.cells) → W'.ownsRow B 85 2 v n ((l.set q y).flatMap Nd.cells) := by
 obtain ⟨h1, h2⟩ := h
 have hl : l.length = n := by rw [ZQ] at h1; omega
 rcases h2 with ⟨_, h0⟩ | ⟨g, cap, cur, hv, hb, hg, hc, hm, hs, ht⟩
 · omega
 refine ⟨g, cap, cur, hv, hb, hc, hg, by omega, fun W' y hr => ⟨by rw [ZQ, List.length_set, hl], .inr ⟨g, cap, _, hv, hb, hr, hc, hm, ?_, ?_⟩⟩⟩
 · unfold ZD
   have hy : y.cells.length = 2 := rfl
   simp only [List.size_toArray, List.length_append, List.length_take, List.length_drop, Array.length_toList, hy]
   omega
 · have hy : y.cells.length = 2 := rfl
   have hcl : cur.toList.length = cap * 2 := by rw [Array.length_toList, hs]
   have hlq : (cur.toList.take (q * 2)).length = q * 2 := by rw [List.length_take]; omega
   rw [AbS y (by omega), ← ht]
   unfold ZD
   rw [List.toList_toArray, hy]
   have e1 : (cur.toList.take (n * 2)).take (q * 2) = cur.toList.take (q * 2) := by rw [List.take_take, Nat.min_eq_left (by omega)]
   have e2 : (cur.toList.take (n * 2)).drop (q * 2 + 2) = (cur.toList.drop (q * 2 + 2)).take (n * 2 - (q * 2 + 2)) := by rw [List.drop_take]
   have t1 : (cur.toList.take (q * 2)).take (n * 2) = cur.toList.take (q * 2) := List.take_of_length_le (by omega)
   have t2 : y.cells.take (n * 2 - q * 2) = y.cells := List.take_of_length_le (by omega)
   rw [e1, e2, List.append_assoc, List.take_append, hlq, t1, List.take_append, t2, hy, Nat.sub_sub]
theorem AbM (p : PgV) (q : Nat) (n : Int) (y : Nd) (w : World) (hq : q < p.body.length) (hbl : p.body.length ≤ 1000) (hok : p.ok w) :
 Calls Tryz.prog 183 #[.agg (Zw p q n), .agg #[.int .i64 y.tag, .int .i64 y.n]] w fun e w' => NdsR (p.body.set q y) w w' e := by
 have Hok := Lh hok
 have Hq := Lh hq
 have Hbl := Lh hbl
 have hqI : (q : Int) < (p.body.length : Int) := by omega
 clear hok hbl hq
 go_enter Tryz.func183, Tryz.ntmps183
 go_wp2_with (refine Qp _ _ rfl ?_)
 refine Stop.to ?_
 refine Qf rfl 176 _ rfl (Zw p q n) rfl ?_
 intro G Gw Gh Gr Gb
 go_wp2_with (refine Qp _ _ rfl ?_)
 refine Stop.to ?_
 refine Qf rfl 85 _ rfl #[.int .i64 y.tag, .int .i64 y.n] rfl ?_
 intro J Jw Jh Jr Jb
 have rG := Gr.below Jb (Nat.lt_of_lt_of_le Gr.lt Jh)
 have b1 := (Below.refl w.heap.size w).trans (Gb.mono Gh)
 have b2 := b1.trans ((Jb.mono Jh).mono b1.size)
 have c2 := rG.cellv (i := 2) (v := .slice p.ba p.body.length p.bcap) rfl
 have Hcl := Lh (Va p.ba p.bcap p.body Jw (Hok.out.go b2).brd (fun e => List.eq_nil_of_length_eq_zero (by have h1 := Hok.out.blen; have h2 := Hok.out.bnil e; omega)) (by have := Hbl.out; omega))
 clear Gb Jb b1 Gh Jh Gr Hok
 go_wp2_with fail
 refine Hcl.out.mono ?_
 rintro e w1 ⟨v, rfl, hown, b3⟩
 obtain ⟨g, cap, cur, rfl, hb, hc, hr, hs, hput⟩ := Agp hown Hq.out
 have rG2 := rG.below b3 rG.lt
 have rJ2 := Jr.below b3 Jr.lt
 have b4 := b2.trans (b3.mono b2.size)
 have c3 := rG2.cellv (i := 3) (v := .int .i64 q) rfl
 have Hput := Lh hput
 have hg : w.heap.size ≤ g := Nat.le_trans b2.size hb
 clear Hcl hown hput rG Jr c2 b3 rG2 hb
 go_wp2_with (first | (refine wpList_load_row rfl 85 _ rfl J rfl 85 #[.int .i64 y.tag, .int .i64 y.n] (0, 0) _ rJ2 Tryz.underlying85 rfl (by kernel_rfl) ?_) | (refine QD 85 _ _ rfl ?_))
 refine Stop.to ?_
 refine QJ rfl 85 _ _ rfl g (q * 2) (by first | rfl | simp [Addr.add]) (.agg #[.int .i64 y.tag, .int .i64 y.n]) rfl y.cells rfl 85 cur _ hr (by kernel_rfl) (by show q * 2 + 2 ≤ cur.size; exact hs) (by simp [Nd.cells, Value.oneCell']) rfl ?_
 intro W9 r9 o9
 have HF : Hid (NdsR (p.body.set q y) w W9 (.returned (.slice (some ⟨g, 0, none⟩) p.body.length cap))) := ⟨_, rfl, by rw [List.length_set]; exact QI (Hput.out W9 y r9) b2.size, b4.trans (o9.below hg)⟩
 go_wp2_with fail
 go_ret
 exact HF.out
theorem Vf (p : PgV) (q : Nat) (n lo hi : Int) (x : Nd) (w : World) (hx : p.body[q]? = some x) (hbl : p.body.length ≤ 1000) (hok : p.ok w) (h1 : lo ≤ x.tag) (h2 : x.tag ≤ hi) (h3 : lo ≤ n) (h4 : n ≤ hi) :
 Calls Tryz.prog 181 #[.agg (Zw p q n), .int .i64 lo, .int .i64 hi] w fun e w' => NdsR (p.body.set q ⟨n, x.n⟩) w w' e := by
 obtain ⟨S, hSd⟩ : ∃ G0 : Nat → World → Prop, G0 = (fun G W => Row W G 176 (Zw p q n) ∧ p.ok W ∧ Below w.heap.size w W) := ⟨_, rfl⟩
 have stS : ∀ G, St (S G) := by intro G; rw [hSd]; infer_instance
 have T0 : Hid (∀ G W, S G W → Row W G 176 (Zw p q n)) := by show ∀ G W, _; rw [hSd]; exact fun G W h => h.1
 have T1 : Hid (∀ G W, S G W → p.ok W) := by show ∀ G W, _; rw [hSd]; exact fun G W h => h.2.1
 have T2 : Hid (∀ G W, S G W → Below w.heap.size w W) := by show ∀ G W, _; rw [hSd]; exact fun G W h => h.2.2
 have hmk : Hid (∀ G W, Row W G 176 (Zw p q n) → Below w.heap.size w W → S G W) := by show ∀ G W, _; rw [hSd]; exact fun G W r b => ⟨r, hok.go b, b⟩
 have Hx := Lh hx
 have Hbl := Lh hbl
 have Hb := Lh (And.intro (And.intro h1 h2) (And.intro h3 h4))
 have f1 := E3 x.tag x.n
 clear hSd hok hx hbl h1 h2 h3 h4
 go_enter Tryz.func181, Tryz.ntmps181
 go_wp2_with (refine Qp _ _ rfl ?_)
 refine Stop.to ?_
 refine Qf rfl 176 _ rfl (Zw p q n) rfl ?_
 intro G Gw Gh Gr Gb
 have b1 := (Below.refl w.heap.size w).trans (Gb.mono Gh)
 have hS := hmk.out G Gw Gr b1
 replace stS := stS G
 have Hc := Lh (AeN p q n lo hi x Gw Hx.out (T1.out G _ hS) Hb.out.1.1 Hb.out.1.2 Hb.out.2.1 Hb.out.2.2)
 clear Gb Gh b1 hmk
 go_wp2_with (refine wpList_load_row rfl 176 _ rfl G rfl 176 (Zw p q n) (0, 0) _ Gr Tryz.underlying176 rfl (by kernel_rfl) ?_)
 refine Hc.out.mono ?_
 rintro e w1 ⟨rfl, b2⟩
 replace hS := stS.go hS b2
 clear Gr Hc b2
 go_wp2_with fail
 refine Zt (S G) 7 (by kernel_rfl) (by kernel_rfl) (St.drew hS) ?_
 clear hS
 simp only [List.take_succ_cons, List.take_zero, List.drop_succ_cons, List.drop_zero]
 (refine QO rfl 176 _ rfl (G) rfl 176 _ _ (T0.out G) Tryz.underlying176 rfl (by kernel_rfl) ?_; simp only [Act.put, Qa, Qb, Qc])
 (refine Qg rfl ?_ (fun W hW => ?_) ?_; rotate_left; (focus (go_simp; exact rfl)); simp only [Act.put, Qa, Qb, Qc])
 (refine Qg rfl ?_ (fun W hW => ?_) ?_; rotate_left; (focus (have c := (T0.out G W hW).cellv (i := 4) (v := .int .i64 n) rfl; go_simp; exact rfl)); simp only [Act.put, Qa, Qb, Qc])
 (refine QO rfl 176 _ rfl (G) rfl 176 _ _ (T0.out G) Tryz.underlying176 rfl (by kernel_rfl) ?_; simp only [Act.put, Qa, Qb, Qc])
 (refine QE rfl 182 _ (fun W => by (go_simp; try rfl)) (.agg #[.int .i64 x.tag, .int .i64 x.n]) (fun W hW => Kv p q n x W Hx.out (T1.out G W hW)) ?_; simp only [Act.put, Qa, Qb, Qc])
 (refine Qg rfl (.int .i64 x.n) (fun W hW => VY rfl _ (E3 x.tag x.n W)) ?_; simp only [Act.put, Qa, Qb, Qc])
 (refine Qg rfl ?_ (fun W hW => ?_) ?_; rotate_left; (focus (go_simp; exact rfl)); simp only [Act.put, Qa, Qb, Qc])
 refine QV fun W hW => ?_
 have Hc := Lh (AbM p q n ⟨n, x.n⟩ W (List.getElem?_eq_some_iff.1 Hx.out).1 Hbl.out (T1.out G W hW))
 go_wp2_with fail
 refine Hc.out.mono ?_
 rintro e w2 ⟨v, rfl, hown, b3⟩
 have b4 := T2.out G W hW
 have hown2 := QI hown b4.size
 rw [List.length_set] at hown hown2
 have HB := Lh (b4.trans (b3.mono b4.size))
 obtain ⟨A3, c3, rfl⟩ := Zd hown
 have HF := Lh hown2
 clear hown hown2 b3 b4 Hc
 go_wp2_with fail
 go_ret
 exact ⟨_, rfl, by rw [List.length_set]; exact HF.out, HB.out⟩
theorem Ac7 (p : PgV) (q : Nat) (n : Int) (x : Nd) (w : World) (hx : p.body[q]? = some x) (hbl : p.body.length ≤ 1000) (hok : p.ok w) (h : (7 ≤ x.tag ∧ x.tag ≤ 11) ∧ 7 ≤ n ∧ n ≤ 11) :
 Calls Tryz.prog 109 #[.agg (Zw p q n)] w fun e w' => NdsR (p.body.set q ⟨n, x.n⟩) w w' e := by
 have Hc : Hid (∀ W, Below w.heap.size w W → Calls Tryz.prog 181 #[.agg (Zw p q n), .int .i64 7, .int .i64 11] W fun e w' => NdsR (p.body.set q ⟨n, x.n⟩) W w' e) := fun W b => Vf p q n 7 11 x W hx hbl (hok.go b) h.1.1 h.1.2 h.2.1 h.2.2
 clear hx hbl hok h
 go_enter Tryz.func109, Tryz.ntmps109
 go_wp2_with (refine Qp _ _ rfl ?_)
 refine Stop.to ?_
 refine Qf rfl 176 _ rfl (Zw p q n) rfl ?_
 intro G Gw Gh Gr Gb
 have b1 := (Below.refl w.heap.size w).trans (Gb.mono Gh)
 have H := Lh (Hc.out _ b1)
 clear Hc Gb Gh
 go_wp2_with (refine wpList_load_row rfl 176 _ rfl G rfl 176 (Zw p q n) (0, 0) _ Gr Tryz.underlying176 rfl (by kernel_rfl) ?_)
 refine H.out.mono ?_
 rintro e w2 ⟨v, rfl, hown, b3⟩
 have hown2 := QI hown b1.size
 rw [List.length_set] at hown hown2
 have HB := Lh (b1.trans (b3.mono b1.size))
 obtain ⟨A3, c3, rfl⟩ := Zd hown
 have HF := Lh hown2
 clear hown hown2 b3 b1 H Gr
 go_wp2_with fail
 go_ret
 exact ⟨_, rfl, by rw [List.length_set]; exact HF.out, HB.out⟩
theorem AfR (p : PgV) (q : Nat) (n : Int) (x : Nd) (w : World) (hx : p.body[q]? = some x) (hbl : p.body.length ≤ 1000) (hok : p.ok w) (h : (12 ≤ x.tag ∧ x.tag ≤ 17) ∧ 12 ≤ n ∧ n ≤ 17) :
 Calls Tryz.prog 110 #[.agg (Zw p q n)] w fun e w' => NdsR (p.body.set q ⟨n, x.n⟩) w w' e := by
 have Hc : Hid (∀ W, Below w.heap.size w W → Calls Tryz.prog 181 #[.agg (Zw p q n), .int .i64 12, .int .i64 17] W fun e w' => NdsR (p.body.set q ⟨n, x.n⟩) W w' e) := fun W b => Vf p q n 12 17 x W hx hbl (hok.go b) h.1.1 h.1.2 h.2.1 h.2.2
 clear hx hbl hok h
 go_enter Tryz.func110, Tryz.ntmps110
 go_wp2_with (refine Qp _ _ rfl ?_)
 refine Stop.to ?_
 refine Qf rfl 176 _ rfl (Zw p q n) rfl ?_
 intro G Gw Gh Gr Gb
 have b1 := (Below.refl w.heap.size w).trans (Gb.mono Gh)
 have H := Lh (Hc.out _ b1)
 clear Hc Gb Gh
 go_wp2_with (refine wpList_load_row rfl 176 _ rfl G rfl 176 (Zw p q n) (0, 0) _ Gr Tryz.underlying176 rfl (by kernel_rfl) ?_)
 refine H.out.mono ?_
 rintro e w2 ⟨v, rfl, hown, b3⟩
 have hown2 := QI hown b1.size
 rw [List.length_set] at hown hown2
 have HB := Lh (b1.trans (b3.mono b1.size))
 obtain ⟨A3, c3, rfl⟩ := Zd hown
 have HF := Lh hown2
 clear hown hown2 b3 b1 H Gr
 go_wp2_with fail
 go_ret
 exact ⟨_, rfl, by rw [List.length_set]; exact HF.out, HB.out⟩
theorem Ade (p : PgV) (q : Nat) (n : Int) (x : Nd) (w : World) (hx : p.body[q]? = some x) (hbl : p.body.length ≤ 1000) (hok : p.ok w) (h : (18 ≤ x.tag ∧ x.tag ≤ 19) ∧ 18 ≤ n ∧ n ≤ 19) :
 Calls Tryz.prog 111 #[.agg (Zw p q n)] w fun e w' => NdsR (p.body.set q ⟨n, x.n⟩) w w' e := by
 have Hc : Hid (∀ W, Below w.heap.size w W → Calls Tryz.prog 181 #[.agg (Zw p q n), .int .i64 18, .int .i64 19] W fun e w' => NdsR (p.body.set q ⟨n, x.n⟩) W w' e) := fun W b => Vf p q n 18 19 x W hx hbl (hok.go b) h.1.1 h.1.2 h.2.1 h.2.2
 clear hx hbl hok h
 go_enter Tryz.func111, Tryz.ntmps111
 go_wp2_with (refine Qp _ _ rfl ?_)
 refine Stop.to ?_
 refine Qf rfl 176 _ rfl (Zw p q n) rfl ?_
 intro G Gw Gh Gr Gb
 have b1 := (Below.refl w.heap.size w).trans (Gb.mono Gh)
 have H := Lh (Hc.out _ b1)
 clear Hc Gb Gh
 go_wp2_with (refine wpList_load_row rfl 176 _ rfl G rfl 176 (Zw p q n) (0, 0) _ Gr Tryz.underlying176 rfl (by kernel_rfl) ?_)
 refine H.out.mono ?_
 rintro e w2 ⟨v, rfl, hown, b3⟩
 have hown2 := QI hown b1.size
 rw [List.length_set] at hown hown2
 have HB := Lh (b1.trans (b3.mono b1.size))
 obtain ⟨A3, c3, rfl⟩ := Zd hown
 have HF := Lh hown2
 clear hown hown2 b3 b1 H Gr
 go_wp2_with fail
 go_ret
 exact ⟨_, rfl, by rw [List.length_set]; exact HF.out, HB.out⟩
theorem Ac8 (p : PgV) (q : Nat) (n : Int) (x : Nd) (w : World) (hx : p.body[q]? = some x) (hbl : p.body.length ≤ 1000) (hok : p.ok w) (h : x.tag = 1 ∨ (x.tag = 2 ∧ 0 ≤ n ∧ n ≤ 1)) :
 Calls Tryz.prog 112 #[.agg (Zw p q n)] w fun e w' => NdsR (p.body.set q ⟨x.tag, n⟩) w w' e := by
 have Hn : Hid (∀ W, Below w.heap.size w W → Calls Tryz.prog 182 #[.agg (Zw p q n)] W fun e w' => e = .returned (.agg #[.int .i64 x.tag, .int .i64 x.n]) ∧ Below W.heap.size W w') := fun W b => Kv p q n x W hx (hok.go b)
 have Hp : Hid (∀ W, Below w.heap.size w W → Calls Tryz.prog 183 #[.agg (Zw p q n), .agg #[.int .i64 x.tag, .int .i64 n]] W fun e w' => NdsR (p.body.set q ⟨x.tag, n⟩) W w' e) := fun W b => AbM p q n ⟨x.tag, n⟩ W (List.getElem?_eq_some_iff.1 hx).1 hbl (hok.go b)
 obtain ⟨t, m⟩ := x
 dsimp only at h Hn Hp
 clear hx hok hbl
 go_enter Tryz.func112, Tryz.ntmps112
 go_wp2_with (refine Qp _ _ rfl ?_)
 refine Stop.to ?_
 refine Qf rfl 176 _ rfl (Zw p q n) rfl ?_
 intro G Gw Gh Gr Gb
 have b1 := (Below.refl w.heap.size w).trans (Gb.mono Gh)
 have Hc := Lh (Hn.out _ b1)
 clear Gb Gh Hn
 go_wp2_with (refine wpList_load_row rfl 176 _ rfl G rfl 176 (Zw p q n) (0, 0) _ Gr Tryz.underlying176 rfl (by kernel_rfl) ?_)
 refine Hc.out.mono ?_
 rintro e w1 ⟨rfl, b2⟩
 have Gr2 := Gr.below b2 Gr.lt
 have b3 := b1.trans (b2.mono b1.size)
 clear Gr b1 b2 Hc
 go_wp2_with (first | fail | (refine QY _ rfl ?_))
 refine Stop.to ?_
 refine Ql rfl 85 rfl _ _ Ac0 rfl ?_
 intro J Jw Jh Jr Jb
 go_wp2_with (refine QD 85 _ _ rfl ?_)
 refine Stop.to ?_
 refine Qk rfl 85 _ _ rfl J #[.int .i64 t, .int .i64 m] rfl rfl 85 _ Jr (by kernel_rfl) rfl (by simp [Value.oneCell']) ?_
 intro W9 r9 o9
 have bJ := (Below.refl w1.heap.size w1).trans (Jb.mono Jh)
 have bK := bJ.trans (o9.below Jh)
 have Gr3 := Gr2.below bK Gr2.lt
 have b4 := b3.trans (bK.mono b3.size)
 have c0 := r9.cellv (i := 0) (v := .int .i64 t) rfl
 have c4 := Gr3.cellv (i := 4) (v := .int .i64 n) rfl
 have g0 := Gr3.cellv (i := 0) (v := .int .i64 p.params) rfl
 have g1 := Gr3.cellv (i := 1) (v := .slice p.va p.V.length p.vcap) rfl
 have g2 := Gr3.cellv (i := 2) (v := .slice p.ba p.body.length p.bcap) rfl
 have g3 := Gr3.cellv (i := 3) (v := .int .i64 q) rfl
 have H := Lh (Hp.out _ b4)
 clear Gr2 b3 bJ bK Jr Jb Jh o9 r9 Hp
 rcases h with rfl | ⟨rfl, h5, h6⟩
 · go_wp2_with fail
   refine H.out.mono ?_
   rintro e w2 ⟨v, rfl, hown, b5⟩
   have hown2 := QI hown b4.size
   rw [List.length_set] at hown hown2
   have HB := Lh (b4.trans (b5.mono b4.size))
   obtain ⟨A3, c3, rfl⟩ := Zd hown
   have HF := Lh hown2
   clear hown hown2 b5 b4 H
   go_wp2_with fail
   go_ret
   exact ⟨_, rfl, by rw [List.length_set]; exact HF.out, HB.out⟩
 · go_wp2_with fail
   refine H.out.mono ?_
   rintro e w2 ⟨v, rfl, hown, b5⟩
   have hown2 := QI hown b4.size
   rw [List.length_set] at hown hown2
   have HB := Lh (b4.trans (b5.mono b4.size))
   obtain ⟨A3, c3, rfl⟩ := Zd hown
   have HF := Lh hown2
   clear hown hown2 b5 b4 H
   go_wp2_with fail
   go_ret
   exact ⟨_, rfl, by rw [List.length_set]; exact HF.out, HB.out⟩
theorem Aa7 {P : Program} {o : Oper} {w w1 : World} {ρ : Operand → Value} {x lo : Operand} {t : TypeId} (ho : o.op = .slice t x (some lo) none none) {v : Value} (hv : (Instr.sliceAt t (ρ x) (some (ρ lo)) none none).run P w = .ok v w1) : (execOp ρ o).run P w = .ok (.value v) w1 := by
 simp only [execOp, ho, Option.map_some, Option.map_none, Sem.run_bind, hv, Result.andThen_ok, Sem.run_pure]
theorem Aa6 {P : Program} {o : Oper} {w w1 : World} {ρ : Operand → Value} {x hi : Operand} {t : TypeId} (ho : o.op = .slice t x none (some hi) none) {v : Value} (hv : (Instr.sliceAt t (ρ x) none (some (ρ hi)) none).run P w = .ok v w1) : (execOp ρ o).run P w = .ok (.value v) w1 := by
 simp only [execOp, ho, Option.map_some, Option.map_none, Sem.run_bind, hv, Result.andThen_ok, Sem.run_pure]
theorem AhV (W : World) (A : Option Addr) (n cap p : Nat) (h : p ≤ n) : (Instr.sliceAt 23 (.slice A n cap) (some (.int .i64 (p : Int))) none none).run Tryz.prog W = .ok (sliced A p n cap 2) W := by
 refine (run_sliceAt_slice (P := Tryz.prog) (w := W) 23 (.slice A n cap) (some (.int .i64 (p : Int))) none none (by kernel_rfl)).trans ?_
 refine (run_slice_l (P := Tryz.prog) (w := W) 23 A n cap (by kernel_rfl) .i64 (p : Int) (by omega) (by omega)).trans ?_
 rw [Int.toNat_natCast, show (sizeOf (Tryz.prog.elem 23)).run Tryz.prog W = .ok 2 W from by kernel_rfl]
 rfl
theorem AhU (W : World) (A : Option Addr) (n cap q : Nat) (h : q ≤ cap) : (Instr.sliceAt 23 (.slice A n cap) none (some (.int .i64 (q : Int))) none).run Tryz.prog W = .ok (sliced A 0 q cap 2) W := by
 refine (run_sliceAt_slice (P := Tryz.prog) (w := W) 23 (.slice A n cap) none (some (.int .i64 (q : Int))) none (by kernel_rfl)).trans ?_
 refine (run_slice_h (P := Tryz.prog) (w := W) 23 A n cap (by kernel_rfl) .i64 (q : Int) (by omega) (by omega)).trans ?_
 rw [Int.toNat_natCast, show (sizeOf (Tryz.prog.elem 23)).run Tryz.prog W = .ok 2 W from by kernel_rfl]
 rfl
theorem Aet {A : Option Addr} {l : List Nd} {p q cap : Nat} (hpq : p ≤ q) (hq : q ≤ l.length) (hc : l.length ≤ cap) (hA : A ≠ none) : ∃ X, sliced A p q cap 2 = .slice X (q - p) (cap - p) ∧ X ≠ none ∧ ∀ W : World, Rd W A (l.flatMap Nd.cells) → Rd W X (((l.take q).drop p).flatMap Nd.cells) := by
 by_cases hcp : cap = p
 · refine ⟨A, by simp [sliced, hcp], hA, fun W h => ?_⟩
   rw [List.drop_eq_nil_of_le (by rw [List.length_take]; omega)]
   exact Rd.nil _ _
 · refine ⟨A.map (·.add (p * 2)), by simp [sliced, hcp], by simpa using hA, fun W h => ?_⟩
   by_cases hne : ((l.take q).drop p).flatMap Nd.cells = []
   · rw [hne]; exact Rd.nil _ _
   · have e : l = l.take p ++ ((l.take q).drop p ++ l.drop q) := by
      have e1 : l.take q = l.take p ++ (l.take q).drop p := by
       have : (l.take q).take p = l.take p := by rw [List.take_take, Nat.min_eq_left hpq]
       rw [← this, List.take_append_drop]
      rw [← List.append_assoc, ← e1, List.take_append_drop]
     have hlen : ((l.take p).flatMap Nd.cells).length = p * 2 := by rw [ZQ, List.length_take]; congr 1; omega
     obtain ⟨ad', e1, e2⟩ := Rd.part h (p * 2) (((l.take q).drop p).flatMap Nd.cells) (fun j u hj => by
      have e3 : l.flatMap Nd.cells = (l.take p).flatMap Nd.cells ++ (((l.take q).drop p).flatMap Nd.cells ++ (l.drop q).flatMap Nd.cells) := by
       conv => lhs; rw [e]
       rw [List.flatMap_append, List.flatMap_append]
      rw [e3, List.getElem?_append_right (by omega), hlen, Nat.add_sub_cancel_left, List.getElem?_append_left (List.getElem?_eq_some_iff.1 hj).1]
      exact hj) hne
     subst e1
     exact fun j u hj => ⟨_, rfl, e2 j u hj⟩
theorem Aez (A B : Option Addr) (cap c : Nat) (l g : List Nd) (q : Nat) (t : Tr) (w : World) (hat : At l q t) (hr : Rd w A (l.flatMap Nd.cells)) (hg : Rd w B (g.flatMap Nd.cells)) (hB : B = none → g = []) (hl : l.length ≤ 1000) (hgl : g.length ≤ 1000) (hlc : l.length ≤ cap) (hcm : cap ≤ maxLen) :
 Calls Tryz.prog 184 #[.slice A l.length cap, .int .i64 (q : Int), .slice B g.length c] w fun e w' => NdsR (l.take q ++ (g ++ l.drop (q + t.size))) w w' e := by
 have he := JH A cap l (q : Int) w hr hl
 rw [hat.endZ] at he
 have hle := hat.le
 obtain ⟨ad, had, _⟩ := Jq hr hat.root
 have hA : A ≠ none := by rw [had]; simp
 obtain ⟨to, hto⟩ : ∃ to, to = q + t.size := ⟨_, rfl⟩
 rw [← hto] at he ⊢
 obtain ⟨X, hX, hXn, hXr⟩ := Aet (A := A) (l := l) (p := 0) (q := q) (cap := cap) (by omega) (by omega) hlc hA
 obtain ⟨Y, hY, hYn, hYr⟩ := Aet (A := A) (l := l) (p := to) (q := l.length) (cap := cap) (by omega) (by omega) hlc hA
 rw [List.drop_zero] at hXr
 rw [List.take_length] at hYr
 have hxl : q - 0 = (l.take q).length := by rw [List.length_take]; omega
 have hyl : l.length - to = (l.drop to).length := by rw [List.length_drop]
 rw [hxl, Nat.sub_zero] at hX
 rw [hyl] at hY
 obtain ⟨S, hSd⟩ : ∃ S, S = (fun W => (Rd W A (l.flatMap Nd.cells) ∧ Rd W B (g.flatMap Nd.cells)) ∧ Below w.heap.size w W) := ⟨_, rfl⟩
 have stS : St S := by rw [hSd]; infer_instance
 have T0 : Hid (∀ W, S W → Rd W A (l.flatMap Nd.cells)) := by show ∀ W, _; rw [hSd]; exact fun W h => h.1.1
 have T1 : Hid (∀ W, S W → Rd W B (g.flatMap Nd.cells)) := by show ∀ W, _; rw [hSd]; exact fun W h => h.1.2
 have T2 : Hid (∀ W, S W → Below w.heap.size w W) := by show ∀ W, _; rw [hSd]; exact fun W h => h.2
 have hS : S w := by rw [hSd]; exact ⟨⟨hr, hg⟩, Below.refl _ _⟩
 have He := Lh he
 have HX := Lh (And.intro hX (And.intro hXn hXr))
 have HY := Lh (And.intro hY (And.intro hYn hYr))
 have Hn := Lh (And.intro (And.intro hl hgl) (And.intro (And.intro hlc hcm) (And.intro hB (show q ≤ l.length ∧ to ≤ l.length by omega))))
 have hto0 : 0 ≤ (to : Int) := by omega
 have hneg : ¬ ((to : Int) < 0) := by omega
 clear hSd he hX hXn hXr hY hYn hYr hxl hyl had hat hr hg hB hl hgl hlc hcm hle hto hA
 go_enter Tryz.func184, Tryz.ntmps184
 go_wp2_with fail
 refine He.out.mono ?_
 rintro e w1 ⟨rfl, b1⟩
 replace hS := stS.go hS b1
 clear He b1
 go_wp2_with fail
 refine Zt S 7 (by kernel_rfl) (by kernel_rfl) (St.drew hS) ?_
 clear hS
 simp only [List.take_succ_cons, List.take_zero, List.drop_succ_cons, List.drop_zero]
 iterate 2 (refine Qg rfl ?_ (fun W hW => ?_) ?_; rotate_left; (focus (go_simp; exact rfl)); simp only [Act.put, Qa, Qb, Qc])
 (refine Qg rfl (.slice X (l.take q).length cap) (fun W hW => by rw [← HX.out.1]; exact Aa6 rfl (AhU W A l.length cap q (by have := Hn.out; omega))) ?_; simp only [Act.put, Qa, Qb, Qc])
 iterate 3 (refine Qg rfl ?_ (fun W hW => ?_) ?_; rotate_left; (focus (go_simp; exact rfl)); simp only [Act.put, Qa, Qb, Qc])
 (refine Qg rfl (.slice Y (l.drop to).length (cap - to)) (fun W hW => by rw [← HY.out.1]; exact Aa7 rfl (AhV W A l.length cap to (by have := Hn.out; omega))) ?_; simp only [Act.put, Qa, Qb, Qc])
 refine QV fun W hW => ?_
 go_wp2_with (refine Zp _ _ _ rfl ?_)
 refine Stop.to ?_
 refine Qu rfl 316 3 _ rfl 23 #[PtV.val ⟨X, cap, l.take q⟩, PtV.val ⟨B, c, g⟩, PtV.val ⟨Y, cap - to, l.drop to⟩] (fun W => by kernel_rfl) ?_
 intro G w2 hG rG bG
 have b2 := (T2.out W hW).trans ((bG.mono hG).mono (T2.out W hW).size)
 have bW := (Below.refl W.heap.size W).trans (bG.mono hG)
 have hj := Vs (some ⟨G, 0, none⟩) 3 3 [⟨X, cap, l.take q⟩, ⟨B, c, g⟩, ⟨Y, cap - to, l.drop to⟩] w2 rfl (JM (cs := [PtV.val ⟨X, cap, l.take q⟩, PtV.val ⟨B, c, g⟩, PtV.val ⟨Y, cap - to, l.drop to⟩]) rG) (fun x hx => by
  simp only [List.mem_cons, List.not_mem_nil, or_false] at hx
  rcases hx with rfl | rfl | rfl
  · exact ⟨(HX.out.2.2 W (T0.out W hW)).go bW, fun e => absurd e HX.out.2.1⟩
  · exact ⟨(T1.out W hW).go bW, Hn.out.2.2.1⟩
  · exact ⟨(HY.out.2.2 W (T0.out W hW)).go bW, fun e => absurd e HY.out.2.1⟩) (by simp [Q6]; have := Hn.out; omega) (by omega)
 have Hj := Lh hj
 have HB := Lh b2
 clear hj b2 bW rG bG hG
 go_wp2_with fail
 refine Hj.out.mono ?_
 rintro e w3 ⟨v, rfl, hown, b3⟩
 rw [show Q6 [⟨X, cap, l.take q⟩, ⟨B, c, g⟩, ⟨Y, cap - to, l.drop to⟩] = l.take q ++ (g ++ l.drop to) by simp [Q6]] at hown
 have b4 := HB.out.trans (b3.mono HB.out.size)
 have own2 := QI hown HB.out.size
 obtain ⟨n3, hn3⟩ : ∃ n3, n3 = (l.take q ++ (g ++ l.drop to)).length := ⟨_, rfl⟩
 rw [← hn3] at own2 hown
 obtain ⟨A3, c3, rfl⟩ := Zd hown
 have HF := Lh own2
 have HN := Lh hn3
 have H4 := Lh b4
 clear hown own2 hn3 b3 b4 Hj HB
 go_wp2_with fail
 go_ret
 exact ⟨_, rfl, by rw [← HN.out]; exact HF.out, H4.out⟩
theorem Ke {P : Program} (w : World) (dT sT ty elem : TypeId) (size g o dLen dCap : Nat) (a : Addr) (sLen sCap : Nat) (cur : Array Value) (t : TypeId) (cs : List Value)
 (hu : P.underlying dT = some (.slice elem)) (hs : (P.info? elem).map (·.size) = some size)
 (hg : Row w g t cur) (hn : cs.length = Nat.min sLen dLen * size)
 (hsrc : ∀ j v, cs[j]? = some v → w.cell? (a.add j) = some v) (hfit : o + cs.length ≤ cur.size) (h1 : ∀ v ∈ cs, v.oneCell' = true) :
 (Builtin.copy_ #[dT, sT] ty #[.slice (some ⟨g, o, none⟩) dLen dCap, .slice (some a) sLen sCap]).run P w =
  .ok (goInt (Nat.min sLen dLen)) (w.setRow g (ZD cur o cs)) := by
 have hl := run_loadCells_list (P := P) w a cs hsrc
 have hst := run_storeCells_at P g o t cs 0 cur w hg (by simpa using hfit) h1
 cases hq : P.info? elem with
 | none => simp [hq] at hs
 | some i =>
  have hi : i.size = size := by simpa [hq] using hs
  simp [Builtin.copy_, run_underlying hu, Builtin.lenOf, Builtin.firstCells, sizeOf, typeInfo, hq, hi, ← hn, hl, hst, ZD]
theorem Afp {cur : Array Value} {l : List Nd} {n i cap : Nat} (y : Nd) (hl : l.length = n) (hc : cur.size = cap * 2) (hn : n + 1 ≤ cap) (hi : i ≤ n) (ht : cur.toList.take (n * 2) = l.flatMap Nd.cells) :
 (ZD (ZD cur ((i + 1) * 2) ((l.drop i).flatMap Nd.cells)) (i * 2) y.cells).toList.take ((n + 1) * 2) = (l.take i ++ y :: l.drop i).flatMap Nd.cells := by
 have e1 : (l.take i).flatMap Nd.cells = cur.toList.take (i * 2) := by
  have h1 : l.flatMap Nd.cells = (l.take i).flatMap Nd.cells ++ (l.drop i).flatMap Nd.cells := by rw [← List.flatMap_append, List.take_append_drop]
  have h2 : ((l.take i).flatMap Nd.cells).length = i * 2 := by rw [ZQ, List.length_take]; congr 1; omega
  have h3 := congrArg (List.take (i * 2)) (ht.trans h1)
  rw [List.take_left' h2, List.take_take, Nat.min_eq_left (by omega)] at h3
  exact h3.symm
 have hd : ((l.drop i).flatMap Nd.cells).length = (n - i) * 2 := by rw [ZQ, List.length_drop, hl]
 have hy : y.cells.length = 2 := rfl
 have hcl : cur.toList.length = cap * 2 := by rw [Array.length_toList, hc]
 rw [List.flatMap_append, List.flatMap_cons, e1]
 unfold ZD
 simp only [List.toList_toArray]
 have hA : (cur.toList.take ((i + 1) * 2)).length = (i + 1) * 2 := by rw [List.length_take]; omega
 have t1 : (cur.toList.take ((i + 1) * 2) ++ (l.drop i).flatMap Nd.cells ++ cur.toList.drop ((i + 1) * 2 + ((l.drop i).flatMap Nd.cells).length)).take (i * 2) = cur.toList.take (i * 2) := by
  rw [List.append_assoc, List.take_append_of_le_length (by omega), List.take_take, Nat.min_eq_left (by omega)]
 have t2 : (cur.toList.take ((i + 1) * 2) ++ (l.drop i).flatMap Nd.cells ++ cur.toList.drop ((i + 1) * 2 + ((l.drop i).flatMap Nd.cells).length)).drop (i * 2 + y.cells.length) = (l.drop i).flatMap Nd.cells ++ cur.toList.drop ((i + 1) * 2 + ((l.drop i).flatMap Nd.cells).length) := by
  rw [List.append_assoc]
  exact List.drop_left' (by rw [hA, hy]; omega)
 rw [t1, t2]
 have hB : (cur.toList.take (i * 2) ++ y.cells ++ (l.drop i).flatMap Nd.cells).length = (n + 1) * 2 := by
  simp only [List.length_append, List.length_take, hd, hy]; omega
 rw [← List.append_assoc, List.take_left' hB, List.append_assoc]
end Go.Proofs.YtdcmppdhdcjpfaaGreat
