/- Lemmas for JnBll. -/
import Derived.Test.YtcgglolckkeeiaaGreatZk29
import Derived.Test.YtcgglolckkeeiaaGreatZk30
namespace Go.Proofs.YtcgglolckkeeiaaGreat
set_option linter.unusedVariables false
open Go.RowKit Go.Deep
attribute [local go_sem] Oper.semAt_some
theorem zero_er (w : World) : (zeroValue 34).run Tryz.prog w = .ok (.int .i64 0) w := by kernel_rfl
theorem cp_fuel {W : World} {G : Nat} {t : TypeId} {c : CpV} (h : Row W G t c.cells) : W.cell? ⟨G, 4, none⟩ = some (.int .i64 c.fuel) := h.cellv (i := 4) rfl
theorem wp_ends {P : Program} {c : Code} {a : Act} {w : World} {Q : Exit → Act → World → Prop} (h : c.wp P (Ends Q) a w) : c.wp P Q a w := Code.wp_mono Ends.imp h
theorem wp_cut4 {P : Program} {c : Code} {a : Act} {w : World} {Q : Exit → Act → World → Prop} {F : Option Addr → Nat → Option Addr → Nat → World → Prop} {f : Option Addr → Nat → Option Addr → Nat → Act}
 (hreg : c.wp P (Ends fun _ a' w' => ∃ (A1 : Option Addr) (k1 : Nat) (A2 : Option Addr) (k2 : Nat), a' = f A1 k1 A2 k2 ∧ F A1 k1 A2 k2 w') a w) (cont : ∀ A1 k1 A2 k2 w', F A1 k1 A2 k2 w' → Q .normal (f A1 k1 A2 k2) w') : c.wp P Q a w :=
 Code.wp_mono (fun e a' w' h => by
  cases e with
  | normal =>
   obtain ⟨A1, k1, A2, k2, rfl, hF⟩ := (h : ∃ (A1 : Option Addr) (k1 : Nat) (A2 : Option Addr) (k2 : Nat), a' = f A1 k1 A2 k2 ∧ F A1 k1 A2 k2 w')
   exact cont _ _ _ _ _ hF
  | _ => exact (h : False).elim) hreg
def cpO (p : PgV) (tA : Option Addr) (tcap : Nat) (tests : List IntsV) (f : Int) (mA : Option Addr) (mcap : Nat) (mts : List MtV) : CpV := ⟨p, tA, tcap, tests, f, mA, mcap, mts, ⟨0, 0, 0⟩⟩
theorem below_none {w w' : World} (h : w.grownBy w' none) : Below w.heap.size w w' := ⟨h.os, h.tape, h.output, h.size, fun k hk => h.block k hk (by simp)⟩
def RowB (W : World) (t : TypeId) (A : Option Addr) : Prop := ∀ ad, A = some ad → ∃ cs : Array Value, Row W ad.block t cs
theorem RowB.go {W W' : World} {t : TypeId} {A : Option Addr} (h : RowB W t A) (b : Below W.heap.size W W') : RowB W' t A := fun ad e => by
 obtain ⟨cs, hr⟩ := h ad e
 exact ⟨cs, hr.below b hr.lt⟩
theorem RowB.only {W W' : World} {t t' : TypeId} {A : Option Addr} {g : Nat} {cs' : Array Value} (h : RowB W t A) (o : Only g W W') (hg : Row W g t' cs') (ne : t ≠ t') : RowB W' t A := fun ad e => by
 obtain ⟨cs, hr⟩ := h ad e
 refine ⟨cs, hr.only o fun e2 => ne ?_⟩
 have h9 : W.heap[g]? = some (.cells cs t (0, 0)) := by rw [← e2]; exact hr
 rw [show W.heap[g]? = some (.cells cs' t' (0, 0)) from hg] at h9
 injection h9 with h9; injection h9 with _ h9; exact h9.symm
theorem RowB.kp {W W' : World} {t : TypeId} {A : Option Addr} {X : Nat → Prop} (h : RowB W t A) (k : KpX X W W') (hx : ∀ i cs, Row W i t cs → ¬ X i) : RowB W' t A := fun ad e => by
 obtain ⟨cs, hr⟩ := h ad e
 exact ⟨cs, k.row hr (hx _ _ hr)⟩
theorem own_rowB {w : World} {base size n m c : Nat} {e : TypeId} {A : Option Addr} {xs : List Value} (h : w.ownsRow base e size (.slice A m c) n xs) : RowB w e A := fun ad ha => by
 rcases h.2 with ⟨e2, _⟩ | ⟨g, c, cur, e2, hb, hr, _⟩
 · injection e2 with e3; rw [ha] at e3; cases e3
 · injection e2 with e3; rw [ha] at e3; injection e3 with e3; rw [e3]; exact ⟨cur, hr⟩
structure CpT (W : World) (c : CpV) : Prop where
 va : RowB W 3 c.p.va
 ba : RowB W 74 c.p.ba
 tA : RowB W 22 c.tA
 ts : ∀ x ∈ c.tests, RowB W 3 x.addr
 mA : RowB W 47 c.mA
 ms : ∀ x ∈ c.mts, RowB W 3 x.A
theorem CpT.zero (W : World) : CpT W cp0 := ⟨fun ad e => (by cases e), fun ad e => (by cases e), fun ad e => (by cases e), fun x hx => (by simp [cp0] at hx), fun ad e => (by cases e), fun x hx => (by simp [cp0] at hx)⟩
theorem PgV.ok.only {p : PgV} {W W' : World} {g : Nat} (h : p.ok W) (o : Only g W W') (h1 : ∀ a, p.va = some a → a.block ≠ g) (h2 : ∀ a, p.ba = some a → a.block ≠ g) : p.ok W' :=
 ⟨h.par, h.vlen, h.vmax, h.vnil, h.vrd.only o (fun _ a e => h1 a e), h.vin, h.blen, h.bmax, h.bnil, h.brd.only o (fun _ a e => h2 a e), h.bin⟩
theorem RowB.ne {W : World} {t : TypeId} {A : Option Addr} {g : Nat} {cs' : Array Value} (h : RowB W t A) (hg : Row W g 31 cs') (ne : t ≠ 31) : ∀ ad, A = some ad → ad.block ≠ g := fun ad e e2 => by
 obtain ⟨cs, hr⟩ := h ad e
 have h9 : W.heap[g]? = some (.cells cs t (0, 0)) := by rw [← e2]; exact hr
 rw [show W.heap[g]? = some (.cells cs' 31 (0, 0)) from hg] at h9
 injection h9 with h9; injection h9 with _ h9; exact ne h9.symm
theorem CpOk.onlyT {W W' : World} {c : CpV} {g : Nat} {cs : Array Value} (h : CpOk W c) (t : CpT W c) (o : Only g W W') (hg : Row W g 31 cs) : CpOk W' c :=
 ⟨h.pok.only o (t.va.ne hg (by decide)) (t.ba.ne hg (by decide)), h.bl, h.vl, h.trd.only o (fun _ => t.tA.ne hg (by decide)), fun x hx => ⟨(h.tok x hx).len, (h.tok x hx).cap, (h.tok x hx).nil, (h.tok x hx).reads.only o (fun _ => (t.ts x hx).ne hg (by decide)), (h.tok x hx).all⟩, h.tlen, h.tl, h.tnil, h.mrd.only o (fun _ => t.mA.ne hg (by decide)), fun x hx => ⟨(h.mok x hx).rd.only o (fun _ => (t.ms x hx).ne hg (by decide)), (h.mok x hx).len, (h.mok x hx).nil, (h.mok x hx).dig⟩, h.mlen, h.mnil⟩
structure MergeT (a b : CpV) (w w' : World) (e : Ending) : Prop where
 ex : ∃ c : CpV, e = .returned (.tuple #[.agg c.cells, .int .i64 (mergeE a b)]) ∧ CpOk w' c ∧ c.data = mgZ a b ∧ Below w.heap.size w w' ∧ CpT w' c
theorem MergeT.err {a b : CpV} {w w' : World} {n : Int} (h : mergeE a b = n) (h0 : n ≠ 0) (hb : Below w.heap.size w w') : MergeT a b w w' (.returned (.tuple #[.agg cp0.cells, .int .i64 n])) :=
 ⟨cp0, by rw [h], cp0_ok _, by unfold mgZ; rw [if_neg (by rw [h]; exact h0)], hb, CpT.zero _⟩
theorem MergeT.ok {a b c : CpV} {w w' : World} (h : mergeE a b = 0) (hc : CpOk w' c) (hd : c.data = mergeD a.data b.data) (hb : Below w.heap.size w w') (ht : CpT w' c) : MergeT a b w w' (.returned (.tuple #[.agg c.cells, .int .i64 0])) :=
 ⟨c, by rw [h], hc, by unfold mgZ; rw [if_pos h, hd], hb, ht⟩
theorem app_ints (W : World) (A : Option Addr) (cap : Nat) (l : List Int) (hr : Rd W A (ints l)) (hn : A = none → l = []) (hl : l.length ≤ 100000) : ∃ A' c' W', (Builtin.append_ #[22, 22] 22 #[.slice none 0 0, .slice A l.length cap]).run Tryz.prog W = .ok (.slice A' l.length c') W' ∧ Below W.heap.size W W' ∧ Rd W' A' (ints l) ∧ l.length ≤ c' ∧ c' ≤ maxLen ∧ (A' = none → c' = 0) ∧ (∀ ad, A' = some ad → W.heap.size ≤ ad.block) ∧ RowB W' 3 A' := by
 obtain ⟨v3, w3, hrun, hown, hgr, -⟩ := append_rd (P := Tryz.prog) 22 3 (.int .i64 0) 1 8 Tryz.underlying22 info_int rfl (by decide) (by decide) (World.ownsRow_nil W W.heap.size 3 1) (Nat.le_refl _) hr (m := l.length) (cap := cap) (by rw [ints_length, Nat.mul_one]) (ints_one l) (fun e => by rw [hn e]; rfl) (by omega)
 rw [Nat.zero_add, List.nil_append] at hown
 obtain ⟨A', c', rfl, h1, h2, h3, h4, h5⟩ := own_rdM hown
 exact ⟨A', c', w3, hrun, below_none hgr, h1, h2, h3, h4, h5, own_rowB hown⟩
theorem app_intsB (W : World) (A : Option Addr) (cap : Nat) (l : List Int) (hr : Rd W A (ints l)) (hn : A = none → l = []) (hl : l.length ≤ 100000) : ∃ A' c' W', (Builtin.append_ #[22, 22] 22 #[.slice none 0 0, .slice A l.length cap]).run Tryz.prog W = .ok (.slice A' l.length c') W' ∧ Below W.heap.size W W' ∧ Rd W' A' (ints l) ∧ l.length ≤ c' ∧ c' ≤ maxLen ∧ (A' = none → c' = 0) ∧ IntB W' A' := by
 obtain ⟨v3, w3, hrun, hown, hgr, -⟩ := append_rd (P := Tryz.prog) 22 3 (.int .i64 0) 1 8 Tryz.underlying22 info_int rfl (by decide) (by decide) (World.ownsRow_nil W W.heap.size 3 1) (Nat.le_refl _) hr (m := l.length) (cap := cap) (by rw [ints_length, Nat.mul_one]) (ints_one l) (fun e => by rw [hn e]; rfl) (by omega)
 rw [Nat.zero_add, List.nil_append] at hown
 obtain ⟨A', c', rfl, h1, h2, h3, h4, -⟩ := own_rdM hown
 exact ⟨A', c', w3, hrun, below_none hgr, h1, h2, h3, h4, own_intB hown rfl⟩
theorem app_nds (W : World) (A : Option Addr) (cap : Nat) (l : List Nd) (hr : Rd W A (l.flatMap Nd.cells)) (hn : A = none → l = []) (hl : l.length ≤ 100000) : ∃ A' c' W', (Builtin.append_ #[23, 23] 23 #[.slice none 0 0, .slice A l.length cap]).run Tryz.prog W = .ok (.slice A' l.length c') W' ∧ Below W.heap.size W W' ∧ Rd W' A' (l.flatMap Nd.cells) ∧ l.length ≤ c' ∧ c' ≤ maxLen ∧ (A' = none → c' = 0) ∧ (∀ ad, A' = some ad → W.heap.size ≤ ad.block) ∧ RowB W' 74 A' := by
 have hlen : (l.flatMap Nd.cells).length = l.length * 2 := by
  clear hr hn hl
  induction l with
  | nil => rfl
  | cons x l ih => rw [List.flatMap_cons, List.length_append, ih, List.length_cons]; show 2 + _ = _; omega
 obtain ⟨v3, w3, hrun, hown, hgr, -⟩ := append_rd (P := Tryz.prog) 23 74 (.agg #[.int .i64 0, .int .i64 0]) 2 16 Tryz.underlying23 info_nd rfl (by decide) (by decide) (World.ownsRow_nil W W.heap.size 74 2) (Nat.le_refl _) hr (m := l.length) (cap := cap) hlen (fun u hu => by
  obtain ⟨x, -, hx⟩ := List.mem_flatMap.1 hu
  simp only [Nd.cells, List.mem_cons, List.not_mem_nil, or_false] at hx
  rcases hx with rfl | rfl <;> rfl) (fun e => by rw [hn e]; rfl) (by omega)
 rw [Nat.zero_add, List.nil_append] at hown
 obtain ⟨A', c', rfl, h1, h2, h3, h4, h5⟩ := own_rdM hown
 exact ⟨A', c', w3, hrun, below_none hgr, h1, h2, h3, h4, h5, own_rowB hown⟩
theorem cp_pars {W : World} {G : Nat} {t : TypeId} {c : CpV} (h : Row W G t c.cells) : W.cell? ⟨G, 0, none⟩ = some (.int .i64 c.p.params) ∧ W.cell? ⟨G, 1, none⟩ = some (.slice c.p.va c.p.V.length c.p.vcap) ∧ W.cell? ⟨G, 2, none⟩ = some (.slice c.p.ba c.p.body.length c.p.bcap) := ⟨h.cellv (i := 0) rfl, h.cellv (i := 1) rfl, h.cellv (i := 2) rfl⟩
structure LoopT (a : CpV) (p2 : PgV) (Q lim : Nat) (S : World → Prop) (w3 : World) (k : Nat) (W : World) : Prop where
 s : S W
 kp : KpX (fun i => i = Q ∨ lim ≤ i) w3 W
 ex : ∃ (tA : Option Addr) (tcap : Nat) (ts : List IntsV), Row W Q 31 (cpO p2 tA tcap ts a.fuel none 0 []).cells ∧ W.ownsRow lim 22 1 (.slice tA ts.length tcap) ts.length (tstC ts) ∧ (∀ x ∈ ts, x.ok W ∧ IntB W x.addr) ∧ ts.map IntsV.l = (a.testsL).take k
theorem info_tst : (Tryz.prog.info? 22).map (fun i => (i.zero, i.size, i.bytes)) = some (some (.slice none 0 0), 1, 24) := by kernel_rfl
theorem info_tsz : (Tryz.prog.info? 22).map (fun i => (i.zero, i.size)) = some (some (.slice none 0 0), 1) := by kernel_rfl
def IntT (W : World) (x : IntsV) : Prop := x.ok W ∧ IntB W x.addr
theorem IntT.same {A B : World} {x : IntsV} (h : IntT A x) (hb : ∀ (a : Addr) (cs : Array Value), x.addr = some a → Row A a.block 3 cs → Row B a.block 3 cs) : IntT B x :=
 ⟨⟨h.1.len, h.1.cap, h.1.nil, fun j u hj => by
  obtain ⟨a, e, hc⟩ := h.1.reads j u hj
  obtain ⟨cs, hr⟩ := h.2 a e
  exact ⟨a, e, (World.cell?_of_block (by rw [add_block]; exact (hb a cs e hr).trans (Eq.symm hr))).trans hc⟩, h.1.all⟩, fun a e => by
  obtain ⟨cs, hr⟩ := h.2 a e
  exact ⟨cs, hb a cs e hr⟩⟩
theorem tst_app (a : CpV) (p2 : PgV) (Q lim k M2 : Nat) (S : World → Prop) (w3 V V2 : World) (tA : Option Addr) (tcap : Nat) (ts : List IntsV) (x : IntsV) (y : IntsV)
 (hSg : ∀ A B v n xs, S A → A.ownsRow lim 22 1 v n xs → A.grownBy B v.ownBlock → S B) (hSo : ∀ A B, S A → Only Q A B → S B) (hS2 : S V2) (kp : KpX (fun i => i = Q ∨ lim ≤ i) w3 V) (hl : lim ≤ V.heap.size) (rQ : Row V Q 31 (cpO p2 tA tcap ts a.fuel none 0 []).cells)
 (own : V.ownsRow lim 22 1 (.slice tA ts.length tcap) ts.length (tstC ts)) (hall : ∀ x ∈ ts, IntT V x) (hmap : ts.map IntsV.l = (a.testsL).take k) (hx : (a.testsL)[k]? = some x.l) (hk : ts.length ≤ 1000) (bm : Below V.heap.size V V2) (hy : IntT V2 y) (hyl : y.l = x.l) (Mr : Row V2 M2 22 #[y.val]) :
 ∃ A3 c3 V3, (Builtin.append_ #[26, 26] 26 #[.slice tA ts.length tcap, .slice (some ⟨M2, 0, none⟩) 1 1]).run Tryz.prog V2 = .ok (.slice A3 (ts.length + 1) c3) V3 ∧ S V3 ∧ Row V3 Q 31 (cpO p2 tA tcap ts a.fuel none 0 []).cells ∧ LoopT a p2 Q lim S w3 (k + 1) (V3.setCell ⟨Q, 3, none⟩ (.slice A3 (ts.length + 1) c3)) := by
 have own2 := own_below own bm
 have rQ2 := rQ.below bm rQ.lt
 obtain ⟨v3, V3, hrun, own3, hgr, -⟩ := append_rd (P := Tryz.prog) 26 22 (.slice none 0 0) 1 24 Tryz.underlying26 info_tst rfl (by decide) (by decide) own2 (Nat.le_trans hl bm.size) (rd_rowP (cs := [y.val]) Mr) (m := 1) (cap := 1) rfl (fun u hu => by rw [List.mem_singleton.1 hu]; rfl) (by simp) (by omega)
 rw [show tstC ts ++ [y.val] = tstC (ts ++ [y]) by simp [tstC]] at own3
 have r3 := rQ2.grown hgr (own_ne own2 rQ2 (by decide))
 obtain ⟨A3, c3, rfl⟩ := own_sl own3
 have o4 := only_set V3 Q 3 (.slice A3 (ts.length + 1) c3)
 have own4 := own_only own3 o4 (own_ne own3 r3 (by decide))
 have hS3 := hSg _ _ _ _ _ hS2 own2 hgr
 have hgo : ∀ z, IntT V2 z → IntT (V3.setCell ⟨Q, 3, none⟩ (.slice A3 (ts.length + 1) c3)) z := fun z hz => hz.same fun ad cs e hr => by
  have h1 := hr.grown hgr (own_ne own2 hr (by decide))
  refine h1.only o4 (fun e2 => ?_)
  have h9 : V3.heap[Q]? = some (.cells cs 3 (0, 0)) := by rw [← e2]; exact h1
  rw [show V3.heap[Q]? = some (.cells _ 31 (0, 0)) from r3] at h9
  injection h9 with h9; injection h9 with _ h9; exact absurd h9 (by decide)
 have r4 : Row (V3.setCell ⟨Q, 3, none⟩ (.slice A3 (ts.length + 1) c3)) Q 31 (cpO p2 A3 c3 (ts ++ [y]) a.fuel none 0 []).cells := by
  have h := r3.set 3 (.slice A3 (ts.length + 1) c3)
  have e : (cpO p2 A3 c3 (ts ++ [y]) a.fuel none 0 []).cells = (cpO p2 tA tcap ts a.fuel none 0 []).cells.set! 3 (.slice A3 (ts.length + 1) c3) := by simp [cpO, CpV.cells]
  rw [e]; exact h
 refine ⟨A3, c3, V3, hrun, hS3, r3, hSo _ _ hS3 o4, kp.trans ((KpX.of_below bm).trans ⟨fun i o hi ho => ?_, Nat.le_trans hgr.size (Nat.le_of_eq o4.size.symm)⟩), A3, c3, ts ++ [y], r4, by rw [List.length_append]; exact own4, fun z hz => ?_, ?_⟩
 · rw [o4.block i (fun e => hi (.inl e))]
   exact (hgr.block i (Array.getElem?_eq_some_iff.1 ho).1 (fun e => hi (.inr (own_from own2 e.symm)))).trans ho
 · rcases List.mem_append.1 hz with hz | hz
   · exact hgo _ ((hall z hz).same fun ad cs e hr => hr.below bm hr.lt)
   · rw [List.mem_singleton.1 hz]; exact hgo _ hy
 · rw [List.map_append, hmap, List.take_add_one, hx, List.map_singleton, hyl]; rfl
theorem PgV.ok.kp {p : PgV} {W W' : World} {X : Nat → Prop} (h : p.ok W) (k : KpX X W W') (h1 : ints p.V ≠ [] → ∀ a, p.va = some a → ¬ X a.block) (h2 : p.body.flatMap Nd.cells ≠ [] → ∀ a, p.ba = some a → ¬ X a.block) : p.ok W' :=
 ⟨h.par, h.vlen, h.vmax, h.vnil, k.rd h.vrd h1, h.vin, h.blen, h.bmax, h.bnil, k.rd h.brd h2, h.bin⟩
structure InvM (a b : CpV) (p2 : PgV) (tA : Option Addr) (tcap : Nat) (ts : List IntsV) (Q lim : Nat) (S : World → Prop) (X : Nat → Prop) (w5 : World) (pre : List ZX) (W : World) : Prop where
 s : S W
 kp : KpX X w5 W
 size : lim ≤ W.heap.size
 ex : ∃ (v : Value) (ms : List MtV), Row W Q 31 (cpQ p2 tA tcap ts a.fuel v) ∧ W.ownsRow lim 47 8 v ms.length (mtsC ms) ∧ (∀ x ∈ ms, MtT W x) ∧ ms.map MtV.m = pre.map (pickN a.muts b.muts)
 ag : pre.all (agZ a.muts b.muts) = true
theorem InvM.abide {a b : CpV} {p2 : PgV} {tA : Option Addr} {tcap : Nat} {ts : List IntsV} {Q lim : Nat} {S : World → Prop} {X : Nat → Prop} {w5 : World} {pre : List ZX} {W W' : World} {row : Option Nat} (h : InvM a b p2 tA tcap ts Q lim S X w5 pre W) (hX : ∀ i, lim ≤ i → X i)
 (hSa : S W → S W') (hg : W.grownBy W' row) (hr : ∀ r, row = some r → False ∨ (lim ≤ r ∧ ∃ o : Obj, W.heap[r]? = some o ∧ o.isCells = false)) : InvM a b p2 tA tcap ts Q lim S X w5 pre W' := by
 obtain ⟨h1, h2, h3, ⟨v, ms, h4, h5, h6, h7⟩, h8⟩ := h
 have hrow : ∀ r, row = some r → lim ≤ r ∧ v.ownBlock ≠ some r := fun r e => by
  rcases hr r e with h | ⟨h, o, ho, hc⟩
  · exact h.elim
  · exact ⟨h, own_cells h5 ho hc⟩
 refine ⟨hSa h1, h2.trans ⟨fun i o hi ho => (hg.block i (Array.getElem?_eq_some_iff.1 ho).1 (fun e => hi (hX i (hrow i e.symm).1))).trans ho, hg.size⟩, Nat.le_trans h3 hg.size, ⟨v, ms, h4.abide hg hr, h5.kept hg ?_, fun x hx => (h6 x hx).abide hg hr, h7⟩, h8⟩
 cases row with
 | none => cases v.ownBlock <;> simp
 | some r => exact .inr (hrow r rfl).2
structure StopM (a b : CpV) (R U : Nat) (w W : World) : Prop where
 r : Row W R 31 cp0.cells
 u : Row W U 34 #[.int .i64 21]
 below : Below w.heap.size w W
 er : mergeE a b = 21
set_option maxRecDepth 100000 in
set_option maxHeartbeats 8000000 in
theorem merge_any (a b : CpV) (w : World) (ha : CpOk w a) (hb : CpOk w b) :
 Calls Tryz.prog 17 #[.agg a.cells, .agg b.cells] w fun e w' => MergeT a b w w' e := by
 have HA := Lib.hid ha
 have HB := Lib.hid hb
 clear ha hb
 refine (callsIn_wide (n := 0)).1 ?_
 refine callsIn_of_wp_marks Tryz.func17 rfl trivial ?_
 simp only [Tryz.ntmps17, List.size_toArray, List.length_cons, List.length_nil, Nat.reduceAdd, Nat.reduceSub, Array.replicate_succ, Array.replicate_zero, List.push_toArray, List.append_toArray, List.nil_append, List.cons_append]
 refine wpIn_wide.2 ?_
 go_wp2_with (refine at_box _ _ rfl ?_)
 refine Stop.to ?_
 refine wpList_box_gen rfl 31 _ rfl a.cells rfl ?_
 intro G Gw Gh Gr Gb
 go_wp2_with (refine at_box _ _ rfl ?_)
 refine Stop.to ?_
 refine wpList_box_gen rfl 31 _ rfl b.cells rfl ?_
 intro H Hw Hh Hr Hb
 have rG := Gr.below Hb (Nat.lt_of_lt_of_le Gr.lt Hh)
 have b1 := (Below.refl w.heap.size w).trans (Gb.mono Gh)
 have b2 := b1.trans ((Hb.mono Hh).mono b1.size)
 have hGH : G < H := Nat.lt_of_lt_of_le Gr.lt Hh
 have hGw : w.heap.size ≤ G := Gh
 clear Gr Gb Gh Hb Hh b1
 go_wp2_with (first | fail | (refine at_alloc _ rfl ?_))
 refine Stop.to ?_
 refine wpList_alloc_gen rfl 31 rfl _ _ (zero_cp _) rfl ?_
 intro R Rw Rh Rr Rb
 have Rc := Rb.mono Rh
 replace rG := rG.below Rc rG.lt
 have hHR : H < R := Nat.lt_of_lt_of_le Hr.lt Rh
 replace Hr := Hr.below Rc Hr.lt
 have hRw : w.heap.size ≤ R := Nat.le_trans b2.size Rh
 replace b2 := b2.trans (Rc.mono b2.size)
 clear Rb Rh Rc
 go_wp2_with (first | fail | (refine at_alloc _ rfl ?_))
 refine Stop.to ?_
 refine wpList_alloc_gen rfl 34 rfl _ _ (zero_er _) rfl ?_
 intro U Uw Uh Ur Ub
 have Uc := Ub.mono Uh
 replace rG := rG.below Uc rG.lt
 replace Hr := Hr.below Uc Hr.lt
 have hUR : U ≠ R := Nat.ne_of_gt (Nat.lt_of_lt_of_le Rr.lt Uh)
 replace Rr := Rr.below Uc Rr.lt
 have hUw : w.heap.size ≤ U := Nat.le_trans b2.size Uh
 replace b2 := b2.trans (Uc.mono b2.size)
 clear Ub Uh Uc
 go_wp2_with (first | (refine at_slice _ _ _ rfl ?_) | (refine wpList_load_row rfl 31 _ rfl G rfl 31 a.cells (0, 0) _ rG Tryz.underlying31 rfl (by kernel_rfl) ?_) | (refine wpList_load_row rfl 31 _ rfl H rfl 31 b.cells (0, 0) _ Hr Tryz.underlying31 rfl (by kernel_rfl) ?_))
 refine Stop.to ?_
 refine wpList_slice_gen rfl 75 2 _ rfl 31 (a.cells ++ b.cells) (fun W => by kernel_rfl) ?_
 intro M Mw Mh Mr Mb
 have Mc := Mb.mono Mh
 replace rG := rG.below Mc rG.lt
 replace Hr := Hr.below Mc Hr.lt
 replace Rr := Rr.below Mc Rr.lt
 replace Ur := Ur.below Mc Ur.lt
 replace b2 := b2.trans (Mc.mono b2.size)
 obtain ⟨S, hSd⟩ : ∃ S, S = (fun W => (Row W G 31 a.cells ∧ Row W H 31 b.cells ∧ Row W M 31 (a.cells ++ b.cells)) ∧ (CpOk W a ∧ CpOk W b) ∧ Below w.heap.size w W ∧ (Row W R 31 cp0.cells ∧ Row W U 34 #[.int .i64 0])) := ⟨_, rfl⟩
 have stS : St S := by rw [hSd]; infer_instance
 have T0 : Hid (∀ W, S W → Row W G 31 a.cells ∧ Row W H 31 b.cells ∧ Row W M 31 (a.cells ++ b.cells)) := by show ∀ W, _; rw [hSd]; exact fun W h => h.1
 have T1 : Hid (∀ W, S W → CpOk W a) := by show ∀ W, _; rw [hSd]; exact fun W h => h.2.1.1
 have T2 : Hid (∀ W, S W → CpOk W b) := by show ∀ W, _; rw [hSd]; exact fun W h => h.2.1.2
 have T3 : Hid (∀ W, S W → Below w.heap.size w W) := by show ∀ W, _; rw [hSd]; exact fun W h => h.2.2.1
 have T4 : Hid (∀ W, S W → Row W R 31 cp0.cells ∧ Row W U 34 #[.int .i64 0]) := by show ∀ W, _; rw [hSd]; exact fun W h => h.2.2.2
 have TS : Hid (∀ W, (Row W G 31 a.cells ∧ Row W H 31 b.cells ∧ Row W M 31 (a.cells ++ b.cells)) → Below w.heap.size w W → (Row W R 31 cp0.cells ∧ Row W U 34 #[.int .i64 0]) → S W) := by show ∀ W, _; rw [hSd]; exact fun W h1 h2 h3 => ⟨h1, ⟨HA.out.go h2, HB.out.go h2⟩, h2, h3⟩
 have hS : S Mw := by rw [hSd]; exact ⟨⟨rG, Hr, Mr⟩, ⟨HA.out.go b2, HB.out.go b2⟩, b2, Rr, Ur⟩
 have HAB : Hid (CpOk w a ∧ CpOk w b) := ⟨HA.out, HB.out⟩
 clear hSd rG Hr Mr Mb Mh Mc b2 HA HB Rr Ur
 go_wp2_with fail
 go_loopw [18] (fun i wr => ∃ k : Nat, i = .int .i64 (k : Int) ∧ k ≤ 2 ∧ Hid ((0 < k → cpCheckZ a = 0) ∧ (1 < k → cpCheckZ b = 0)) ∧ S wr) (fun i _ => 2 - (intOf i).toNat)
 case atStart => exact ⟨0, rfl, by omega, Lib.hid ⟨fun h => by omega, fun h => by omega⟩, hS⟩
 case round =>
  clear hS
  obtain ⟨k, rfl, hk, Hk, hS⟩ := hrel
  have hk2 : k = 0 ∨ k = 1 ∨ k = 2 := by omega
  clear hk
  rcases hk2 with rfl | rfl | rfl
  · skip
    have c0 := (T0.out _ hS).2.2
    go_wp2_with (first | (refine wpList_load_at rfl 31 _ rfl ⟨M, 0, none⟩ rfl a.cells.toList _ (cp_app0 c0) Tryz.underlying31 rfl (by kernel_rfl) ?_) | (refine at_alloc _ rfl ?_))
    refine Stop.to ?_
    refine wpList_alloc_gen rfl 31 rfl _ _ (zero_cp _) rfl ?_
    intro E Ew Eh Er Eb
    go_wp2_with (refine at_store _ _ _ rfl ?_)
    refine Stop.to ?_
    refine wpList_store_gen rfl 31 _ _ rfl E a.cells rfl rfl 31 _ Er (by kernel_rfl) rfl (by simp [CpV.cells, Value.oneCell']) ?_
    intro Ex Es Eo
    have Ec := (Eb.mono Eh).trans (Eo.below Eh)
    clear Eb Er Eo
    replace hS := stS.go hS Ec
    have Hs := Lib.hid (cpCheck_any a Ex (T1.out _ hS))
    clear c0 Ec Eh
    go_wp2_with (refine wpList_load_row rfl 31 _ rfl E rfl 31 a.cells (0, 0) _ Es Tryz.underlying31 rfl (by kernel_rfl) ?_)
    refine Hs.out.mono ?_
    rintro e w' ⟨rfl, b1⟩
    replace hS := stS.go hS b1
    clear Hs b1 Es
    obtain ⟨z, hz⟩ : ∃ z, z = cpCheckZ a := ⟨_, rfl⟩
    rw [← hz]
    by_cases h0 : z = 0
    · have hz2 : (z != 0) = false := by simp [h0]
      have Hk2 : Hid ((0 < 0 + 1 → cpCheckZ a = 0) ∧ (1 < 0 + 1 → cpCheckZ b = 0)) := ⟨fun _ => by rw [← hz]; exact h0, fun h => by omega⟩
      clear hz Hk h0
      go_wp2_with fail
      exact ⟨⟨0 + 1, by simp, by omega, Hk2, hS⟩, by simp [intOf]⟩
    · have hz2 : (z != 0) = true := by simpa using h0
      have hE : mergeE a b = z := by
       have h9 : cpChecks a b = z := by unfold cpChecks; rw [if_pos (by rw [← hz]; exact h0), hz]
       exact (mergeE_chk (by rw [h9]; exact h0)).trans h9
      have HE := Lib.hid hE
      have H0 := Lib.hid h0
      clear hz Hk hE h0
      have rR9 := (T4.out _ hS).1
      have rU9 := (T4.out _ hS).2
      have bw9 := T3.out _ hS
      go_wp2_with (refine at_store _ _ _ rfl ?_)
      refine Stop.to ?_
      refine wpList_store_gen rfl 31 _ _ rfl R cp0.cells rfl rfl 31 _ rR9 (by kernel_rfl) rfl (by simp [cp0, CpV.cells, Value.oneCell']) ?_
      intro W8 r8 o8
      have rU8 := rU9.only o8 hUR
      have bw8 := below_only bw9 o8 hRw
      have c8 := rU8.cellv (i := 0) (v := .int .i64 0) rfl
      have f8 := rU8.free 0
      have HF : Hid (MergeT a b w (W8.setCell ⟨U, 0, none⟩ (.int .i64 z)) (.returned (.tuple #[.agg cp0.cells, .int .i64 z]))) := by
       exact MergeT.err HE.out H0.out (below_only bw8 (only_set W8 U 0 _) hUw)
      have rR8 := r8.only (only_set W8 U 0 (.int .i64 z)) (Ne.symm hUR)
      have rU7 : Row (W8.setCell ⟨U, 0, none⟩ (.int .i64 z)) U 34 #[.int .i64 z] := rU8.set 0 _
      have HR8 := Lib.hid rR8
      have HU7 := Lib.hid rU7
      clear rR9 rU9 bw9 rU8 bw8 rR8 rU7 o8 r8
      go_wp2_with fail
      refine ⟨_, results_cells2 Tryz.results17 _ _ ⟨R, 0, none⟩ ⟨U, 0, none⟩ (.agg cp0.cells) (.int .i64 z) rfl rfl ?_ ?_, HF.out⟩
      · exact run_loadVar_row _ R 31 31 cp0.cells (0, 0) _ HR8.out Tryz.underlying31 rfl (by kernel_rfl)
      · have c7 := HU7.out.cellv (i := 0) (v := .int .i64 z) rfl
        go_simp
  · skip
    have c0 := (T0.out _ hS).2.2
    go_wp2_with (first | (refine wpList_load_at rfl 31 _ rfl ⟨M, 9, none⟩ rfl b.cells.toList _ (cp_app9 c0) Tryz.underlying31 rfl (by kernel_rfl) ?_) | (refine at_alloc _ rfl ?_))
    refine Stop.to ?_
    refine wpList_alloc_gen rfl 31 rfl _ _ (zero_cp _) rfl ?_
    intro E Ew Eh Er Eb
    go_wp2_with (refine at_store _ _ _ rfl ?_)
    refine Stop.to ?_
    refine wpList_store_gen rfl 31 _ _ rfl E b.cells rfl rfl 31 _ Er (by kernel_rfl) rfl (by simp [CpV.cells, Value.oneCell']) ?_
    intro Ex Es Eo
    have Ec := (Eb.mono Eh).trans (Eo.below Eh)
    clear Eb Er Eo
    replace hS := stS.go hS Ec
    have Hs := Lib.hid (cpCheck_any b Ex (T2.out _ hS))
    clear c0 Ec Eh
    go_wp2_with (refine wpList_load_row rfl 31 _ rfl E rfl 31 b.cells (0, 0) _ Es Tryz.underlying31 rfl (by kernel_rfl) ?_)
    refine Hs.out.mono ?_
    rintro e w' ⟨rfl, b1⟩
    replace hS := stS.go hS b1
    clear Hs b1 Es
    obtain ⟨z, hz⟩ : ∃ z, z = cpCheckZ b := ⟨_, rfl⟩
    rw [← hz]
    by_cases h0 : z = 0
    · have hz2 : (z != 0) = false := by simp [h0]
      have Hk2 : Hid ((0 < 1 + 1 → cpCheckZ a = 0) ∧ (1 < 1 + 1 → cpCheckZ b = 0)) := ⟨fun _ => Hk.out.1 (by omega), fun h => by rw [← hz]; exact h0⟩
      clear hz Hk h0
      go_wp2_with fail
      exact ⟨⟨1 + 1, by simp, by omega, Hk2, hS⟩, by simp [intOf]⟩
    · have hz2 : (z != 0) = true := by simpa using h0
      have h00 : cpCheckZ a = 0 := Hk.out.1 (by omega)
      have hE : mergeE a b = z := by
       have h9 : cpChecks a b = z := by unfold cpChecks; rw [if_neg (by simp [h00]), hz]
       exact (mergeE_chk (by rw [h9]; exact h0)).trans h9
      have HE := Lib.hid hE
      have H0 := Lib.hid h0
      clear hz Hk hE h00 h0
      have rR9 := (T4.out _ hS).1
      have rU9 := (T4.out _ hS).2
      have bw9 := T3.out _ hS
      go_wp2_with (refine at_store _ _ _ rfl ?_)
      refine Stop.to ?_
      refine wpList_store_gen rfl 31 _ _ rfl R cp0.cells rfl rfl 31 _ rR9 (by kernel_rfl) rfl (by simp [cp0, CpV.cells, Value.oneCell']) ?_
      intro W8 r8 o8
      have rU8 := rU9.only o8 hUR
      have bw8 := below_only bw9 o8 hRw
      have c8 := rU8.cellv (i := 0) (v := .int .i64 0) rfl
      have f8 := rU8.free 0
      have HF : Hid (MergeT a b w (W8.setCell ⟨U, 0, none⟩ (.int .i64 z)) (.returned (.tuple #[.agg cp0.cells, .int .i64 z]))) := by
       exact MergeT.err HE.out H0.out (below_only bw8 (only_set W8 U 0 _) hUw)
      have rR8 := r8.only (only_set W8 U 0 (.int .i64 z)) (Ne.symm hUR)
      have rU7 : Row (W8.setCell ⟨U, 0, none⟩ (.int .i64 z)) U 34 #[.int .i64 z] := rU8.set 0 _
      have HR8 := Lib.hid rR8
      have HU7 := Lib.hid rU7
      clear rR9 rU9 bw9 rU8 bw8 rR8 rU7 o8 r8
      go_wp2_with fail
      refine ⟨_, results_cells2 Tryz.results17 _ _ ⟨R, 0, none⟩ ⟨U, 0, none⟩ (.agg cp0.cells) (.int .i64 z) rfl rfl ?_ ?_, HF.out⟩
      · exact run_loadVar_row _ R 31 31 cp0.cells (0, 0) _ HR8.out Tryz.underlying31 rfl (by kernel_rfl)
      · have c7 := HU7.out.cellv (i := 0) (v := .int .i64 z) rfl
        go_simp
  · have hch : cpChecks a b = 0 := by unfold cpChecks; rw [Hk.out.1 (by omega), if_neg (by simp)]; exact Hk.out.2 (by omega)
    have Hch := Lib.hid hch
    clear hch Hk
    have Hs := Lib.hid (pgSame_any a.p b.p wr (T1.out _ hS).pok (T2.out _ hS).pok (T1.out _ hS).bl (T1.out _ hS).vl)
    go_wp2_with (first | (refine wpList_load_at rfl 25 _ rfl ⟨G, 0, none⟩ rfl a.p.cells.toList _ (cp_head (T0.out _ hS).1) Tryz.underlying25 rfl (by kernel_rfl) ?_) | (refine wpList_load_at rfl 25 _ rfl ⟨H, 0, none⟩ rfl b.p.cells.toList _ (cp_head (T0.out _ hS).2.1) Tryz.underlying25 rfl (by kernel_rfl) ?_))
    refine Hs.out.mono ?_
    rintro e w1 ⟨rfl, b1⟩
    replace hS := stS.go hS b1
    clear Hs b1
    obtain ⟨sp, hsp⟩ : ∃ sp, sp = sameP a.p b.p := ⟨_, rfl⟩
    rw [← hsp]
    have Hsp := Lib.hid hsp
    clear hsp
    cases sp
    · have HE : Hid (mergeE a b = 26) := mergeE_26 Hch.out (fun h => by have h9 := Hsp.out.trans h.1; cases h9)
      clear Hsp Hch
      have rR9 := (T4.out _ hS).1
      have rU9 := (T4.out _ hS).2
      have bw9 := T3.out _ hS
      go_wp2_with (refine at_store _ _ _ rfl ?_)
      refine Stop.to ?_
      refine wpList_store_gen rfl 31 _ _ rfl R cp0.cells rfl rfl 31 _ rR9 (by kernel_rfl) rfl (by simp [cp0, CpV.cells, Value.oneCell']) ?_
      intro W8 r8 o8
      have rU8 := rU9.only o8 hUR
      have bw8 := below_only bw9 o8 hRw
      have c8 := rU8.cellv (i := 0) (v := .int .i64 0) rfl
      have f8 := rU8.free 0
      have HF : Hid (MergeT a b w (W8.setCell ⟨U, 0, none⟩ (.int .i64 26)) (.returned (.tuple #[.agg cp0.cells, .int .i64 26]))) := by
       exact MergeT.err HE.out (by decide) (below_only bw8 (only_set W8 U 0 _) hUw)
      have rR8 := r8.only (only_set W8 U 0 (.int .i64 26)) (Ne.symm hUR)
      have rU7 : Row (W8.setCell ⟨U, 0, none⟩ (.int .i64 26)) U 34 #[.int .i64 26] := rU8.set 0 _
      have HR8 := Lib.hid rR8
      have HU7 := Lib.hid rU7
      clear rR9 rU9 bw9 rU8 bw8 rR8 rU7 o8 r8
      go_wp2_with fail
      refine ⟨_, results_cells2 Tryz.results17 _ _ ⟨R, 0, none⟩ ⟨U, 0, none⟩ (.agg cp0.cells) (.int .i64 26) rfl rfl ?_ ?_, HF.out⟩
      · exact run_loadVar_row _ R 31 31 cp0.cells (0, 0) _ HR8.out Tryz.underlying31 rfl (by kernel_rfl)
      · have c7 := HU7.out.cellv (i := 0) (v := .int .i64 26) rfl
        go_simp
    have c1 := cp_test (T0.out _ hS).1
    have c2 := cp_test (T0.out _ hS).2.1
    have Hs := Lib.hid (tsSame_any a.tA b.tA a.tcap b.tcap a.tests b.tests w1 (T1.out _ hS).trd (T2.out _ hS).trd (T1.out _ hS).tok (T2.out _ hS).tok (by have := (T1.out _ hS).tlen; omega) (fun x hx => by have := (T1.out _ hS).tl x hx; omega))
    go_wp2_with fail
    refine Hs.out.mono ?_
    rintro e w2 ⟨rfl, b1⟩
    replace hS := stS.go hS b1
    clear Hs b1 c1 c2
    obtain ⟨st, hst⟩ : ∃ st, st = decide (a.tests.map IntsV.l = b.tests.map IntsV.l) := ⟨_, rfl⟩
    rw [← hst]
    have Hst := Lib.hid hst
    clear hst
    cases st
    · have HE : Hid (mergeE a b = 26) := mergeE_26 Hch.out (fun h => of_decide_eq_false Hst.out.symm h.2.1)
      clear Hsp Hch Hst
      have rR9 := (T4.out _ hS).1
      have rU9 := (T4.out _ hS).2
      have bw9 := T3.out _ hS
      go_wp2_with (refine at_store _ _ _ rfl ?_)
      refine Stop.to ?_
      refine wpList_store_gen rfl 31 _ _ rfl R cp0.cells rfl rfl 31 _ rR9 (by kernel_rfl) rfl (by simp [cp0, CpV.cells, Value.oneCell']) ?_
      intro W8 r8 o8
      have rU8 := rU9.only o8 hUR
      have bw8 := below_only bw9 o8 hRw
      have c8 := rU8.cellv (i := 0) (v := .int .i64 0) rfl
      have f8 := rU8.free 0
      have HF : Hid (MergeT a b w (W8.setCell ⟨U, 0, none⟩ (.int .i64 26)) (.returned (.tuple #[.agg cp0.cells, .int .i64 26]))) := by
       exact MergeT.err HE.out (by decide) (below_only bw8 (only_set W8 U 0 _) hUw)
      have rR8 := r8.only (only_set W8 U 0 (.int .i64 26)) (Ne.symm hUR)
      have rU7 : Row (W8.setCell ⟨U, 0, none⟩ (.int .i64 26)) U 34 #[.int .i64 26] := rU8.set 0 _
      have HR8 := Lib.hid rR8
      have HU7 := Lib.hid rU7
      clear rR9 rU9 bw9 rU8 bw8 rR8 rU7 o8 r8
      go_wp2_with fail
      refine ⟨_, results_cells2 Tryz.results17 _ _ ⟨R, 0, none⟩ ⟨U, 0, none⟩ (.agg cp0.cells) (.int .i64 26) rfl rfl ?_ ?_, HF.out⟩
      · exact run_loadVar_row _ R 31 31 cp0.cells (0, 0) _ HR8.out Tryz.underlying31 rfl (by kernel_rfl)
      · have c7 := HU7.out.cellv (i := 0) (v := .int .i64 26) rfl
        go_simp
    have c1 := cp_fuel (T0.out _ hS).1
    have c2 := cp_fuel (T0.out _ hS).2.1
    by_cases hf : a.fuel = b.fuel
    rotate_left
    · have hfb : (a.fuel != b.fuel) = true := by simpa using hf
      have HE : Hid (mergeE a b = 26) := mergeE_26 Hch.out (fun h => hf h.2.2)
      clear Hsp Hch Hst hf
      have rR9 := (T4.out _ hS).1
      have rU9 := (T4.out _ hS).2
      have bw9 := T3.out _ hS
      go_wp2_with (refine at_store _ _ _ rfl ?_)
      refine Stop.to ?_
      refine wpList_store_gen rfl 31 _ _ rfl R cp0.cells rfl rfl 31 _ rR9 (by kernel_rfl) rfl (by simp [cp0, CpV.cells, Value.oneCell']) ?_
      intro W8 r8 o8
      have rU8 := rU9.only o8 hUR
      have bw8 := below_only bw9 o8 hRw
      have c8 := rU8.cellv (i := 0) (v := .int .i64 0) rfl
      have f8 := rU8.free 0
      have HF : Hid (MergeT a b w (W8.setCell ⟨U, 0, none⟩ (.int .i64 26)) (.returned (.tuple #[.agg cp0.cells, .int .i64 26]))) := by
       exact MergeT.err HE.out (by decide) (below_only bw8 (only_set W8 U 0 _) hUw)
      have rR8 := r8.only (only_set W8 U 0 (.int .i64 26)) (Ne.symm hUR)
      have rU7 : Row (W8.setCell ⟨U, 0, none⟩ (.int .i64 26)) U 34 #[.int .i64 26] := rU8.set 0 _
      have HR8 := Lib.hid rR8
      have HU7 := Lib.hid rU7
      clear rR9 rU9 bw9 rU8 bw8 rR8 rU7 o8 r8
      go_wp2_with fail
      refine ⟨_, results_cells2 Tryz.results17 _ _ ⟨R, 0, none⟩ ⟨U, 0, none⟩ (.agg cp0.cells) (.int .i64 26) rfl rfl ?_ ?_, HF.out⟩
      · exact run_loadVar_row _ R 31 31 cp0.cells (0, 0) _ HR8.out Tryz.underlying31 rfl (by kernel_rfl)
      · have c7 := HU7.out.cellv (i := 0) (v := .int .i64 26) rfl
        go_simp
    have hfb : (a.fuel != b.fuel) = false := by simpa using hf
    have HE : Hid (mergeE a b = if (zipN a.muts b.muts 0 0).all (agZ a.muts b.muts) = true then 0 else 21) := mergeE_in Hch.out ⟨Hsp.out.symm, of_decide_eq_true Hst.out.symm, hf⟩
    clear Hsp Hch Hst hf
    go_wp2_with (first | fail | (refine at_alloc _ rfl ?_))
    refine Stop.to ?_
    refine wpList_alloc_gen rfl 31 rfl _ _ (zero_cp _) rfl ?_
    intro Q Qw Qh Qr Qb
    go_wp2_with (refine at_store _ _ _ rfl ?_)
    refine Stop.to ?_
    refine wpList_store_gen rfl 31 _ _ rfl Q (cpO cp0.p none 0 [] a.fuel none 0 []).cells rfl rfl 31 _ Qr (by kernel_rfl) rfl (by simp [cp0, cpO, CpV.cells, Value.oneCell']) ?_
    intro Qx Qs Qo
    have Qc := (Qb.mono Qh).trans (Qo.below Qh)
    clear Qb Qr Qo
    have bQ := Qc
    have hQne : (G ≠ Q ∧ H ≠ Q ∧ M ≠ Q) ∧ (R ≠ Q ∧ U ≠ Q) := by
     have := (T0.out _ hS).1.lt; have := (T0.out _ hS).2.1.lt; have := (T0.out _ hS).2.2.lt; have := (T4.out _ hS).1.lt; have := (T4.out _ hS).2.lt
     omega
    have hQw : w.heap.size ≤ Q := by have := (T3.out _ hS).size; omega
    replace hS := stS.go hS Qc
    have HQ := Lib.hid Qs
    clear Qc Qs Qh bQ c1 c2
    go_wp2_with fail
    apply wp_cut4 (F := fun A1 k1 A2 k2 w' => S w' ∧ PgV.ok ⟨a.p.params, A1, k1, a.p.V, A2, k2, a.p.body⟩ w' ∧ Row w' Q 31 (cpO ⟨a.p.params, A1, k1, a.p.V, A2, k2, a.p.body⟩ none 0 [] a.fuel none 0 []).cells ∧ ((∀ ad, A1 = some ad → Q < ad.block ∧ R < ad.block ∧ U < ad.block) ∧ ∀ ad, A2 = some ad → Q < ad.block ∧ R < ad.block ∧ U < ad.block) ∧ (RowB w' 3 A1 ∧ RowB w' 74 A2))
    case hreg =>
     obtain ⟨Vd, hVd⟩ : ∃ Vd, Vd = Qx.drew := ⟨_, rfl⟩
     have bd : Below Qx.heap.size Qx Vd := by rw [hVd]; exact St.drew (S := fun W => Below Qx.heap.size Qx W) (Below.refl _ _)
     replace hS := stS.go hS bd
     have rQ := HQ.out.below bd HQ.out.lt
     refine region_last (last := 13) (S := S) (by kernel_rfl) ?_
     simp only [List.size_toArray, List.length_cons, List.length_nil, Nat.reduceAdd, Array.replicate_succ, Array.replicate_zero, List.push_toArray, List.nil_append, List.cons_append]
     rw [← hVd]
     clear hVd
     (refine takeL (i := 0) (v := .pointer (some ⟨G, 0, none⟩)) rfl (by kernel_rfl) (by kernel_rfl) (by kernel_rfl) (by kernel_rfl) (fun _ _ _ h => h) (yieldsC_of (yields_val rfl (fun W hW => by (go_simp)))) (by assumption) ?_; simp only [Act.put, List.setIfInBounds_toArray, List.set_cons_zero, List.set_cons_succ])
     (refine takeL (i := 1) (v := .pointer (some ⟨G, 0, none⟩)) rfl (by kernel_rfl) (by kernel_rfl) (by kernel_rfl) (by kernel_rfl) (fun _ _ _ h => h) (yieldsC_of (yields_val rfl (fun W hW => by (go_simp)))) (by assumption) ?_; simp only [Act.put, List.setIfInBounds_toArray, List.set_cons_zero, List.set_cons_succ])
     (refine takeL (i := 2) (v := .int .i64 a.p.params) rfl (by kernel_rfl) (by kernel_rfl) (by kernel_rfl) (by kernel_rfl) (fun _ _ _ h => h) (yieldsC_of (yields_val rfl (fun W hW => by ((have c := (cp_pars (T0.out W hW).1).1; go_simp))))) (by assumption) ?_; simp only [Act.put, List.setIfInBounds_toArray, List.set_cons_zero, List.set_cons_succ])
     (refine takeL (i := 3) (v := .pointer (some ⟨G, 0, none⟩)) rfl (by kernel_rfl) (by kernel_rfl) (by kernel_rfl) (by kernel_rfl) (fun _ _ _ h => h) (yieldsC_of (yields_val rfl (fun W hW => by (go_simp)))) (by assumption) ?_; simp only [Act.put, List.setIfInBounds_toArray, List.set_cons_zero, List.set_cons_succ])
     (refine takeL (i := 4) (v := .pointer (some ⟨G, 1, none⟩)) rfl (by kernel_rfl) (by kernel_rfl) (by kernel_rfl) (by kernel_rfl) (fun _ _ _ h => h) (yieldsC_of (yields_val rfl (fun W hW => by (go_simp)))) (by assumption) ?_; simp only [Act.put, List.setIfInBounds_toArray, List.set_cons_zero, List.set_cons_succ])
     (refine takeL (i := 5) (v := .slice a.p.va a.p.V.length a.p.vcap) rfl (by kernel_rfl) (by kernel_rfl) (by kernel_rfl) (by kernel_rfl) (fun _ _ _ h => h) (yieldsC_of (yields_val rfl (fun W hW => by ((have c := (cp_pars (T0.out W hW).1).2.1; go_simp))))) (by assumption) ?_; simp only [Act.put, List.setIfInBounds_toArray, List.set_cons_zero, List.set_cons_succ])
     (refine takeL (i := 7) (v := .pointer (some ⟨G, 0, none⟩)) rfl (by kernel_rfl) (by kernel_rfl) (by kernel_rfl) (by kernel_rfl) (fun _ _ _ h => h) (yieldsC_of (yields_val rfl (fun W hW => by (go_simp)))) (by assumption) ?_; simp only [Act.put, List.setIfInBounds_toArray, List.set_cons_zero, List.set_cons_succ])
     (refine takeL (i := 8) (v := .pointer (some ⟨G, 2, none⟩)) rfl (by kernel_rfl) (by kernel_rfl) (by kernel_rfl) (by kernel_rfl) (fun _ _ _ h => h) (yieldsC_of (yields_val rfl (fun W hW => by (go_simp)))) (by assumption) ?_; simp only [Act.put, List.setIfInBounds_toArray, List.set_cons_zero, List.set_cons_succ])
     (refine takeL (i := 9) (v := .slice a.p.ba a.p.body.length a.p.bcap) rfl (by kernel_rfl) (by kernel_rfl) (by kernel_rfl) (by kernel_rfl) (fun _ _ _ h => h) (yieldsC_of (yields_val rfl (fun W hW => by ((have c := (cp_pars (T0.out W hW).1).2.2; go_simp))))) (by assumption) ?_; simp only [Act.put, List.setIfInBounds_toArray, List.set_cons_zero, List.set_cons_succ])
     (refine wpAnyL_all (rs := [6]) (by kernel_rfl) (by simp) (fun i hi => ?_); obtain rfl : i = 6 := by simpa using hi)
     have hok := (T1.out _ hS).pok
     obtain ⟨A1, k1, W1, hrun, bw, h1, h2, h3, h4, hb1, hi1⟩ := app_ints Vd a.p.va a.p.vcap a.p.V hok.vrd (fun e => List.eq_nil_of_length_eq_zero (by have := hok.vnil e; have := hok.vlen; omega)) (by have := (T1.out _ hS).vl; omega)
     have hS1 := stS.go hS bw
     have hok1 := (T1.out _ hS1).pok
     obtain ⟨A2, k2, W2, hrun2, bw2, g1, g2, g3, g4, hb2, hi2⟩ := app_nds W1 a.p.ba a.p.bcap a.p.body hok1.brd (fun e => List.eq_nil_of_length_eq_zero (by have := hok1.bnil e; have := hok1.blen; omega)) (by have := (T1.out _ hS1).bl; omega)
     have hS2 := stS.go hS1 bw2
     have rQ2 := (rQ.below bw rQ.lt).below bw2 (by have := rQ.lt; have := bw.size; omega)
     have hok2 : PgV.ok ⟨a.p.params, A1, k1, a.p.V, A2, k2, a.p.body⟩ W2 := ⟨hok.par, h2, h3, h4, h1.go bw2, hok.vin, g2, g3, g4, g1, hok.bin⟩
     have hQl := rQ.lt
     have hRUl : R < Vd.heap.size ∧ U < Vd.heap.size := ⟨(T4.out _ hS).1.lt, (T4.out _ hS).2.lt⟩
     have hWl := bw.size
     clear hok hok1 h1 h2 h3 h4 g1 g2 g3 g4
     refine wpOp_plain rfl rfl (fun K2 hK2 => ?_)
     refine wp_res_gen _ (run_exec_append rfl hrun) ?_
     refine hK2 _ _ ?_
     clear hK2 K2 hrun
     simp only [Act.put, List.setIfInBounds_toArray, List.set_cons_zero, List.set_cons_succ]
     refine ⟨fun _ => hS1, ?_⟩
     (refine wpAnyL_all (rs := [10]) (by kernel_rfl) (by simp) (fun i hi => ?_); obtain rfl : i = 10 := by simpa using hi)
     refine wpOp_plain rfl rfl (fun K2 hK2 => ?_)
     refine wp_res_gen _ (run_exec_append rfl hrun2) ?_
     refine hK2 _ _ ?_
     clear hK2 K2 hrun2
     simp only [Act.put, List.setIfInBounds_toArray, List.set_cons_zero, List.set_cons_succ]
     refine ⟨fun _ => hS2, ?_⟩
     (refine takeL (i := 11) (v := .agg (PgV.cells ⟨a.p.params, A1, k1, a.p.V, A2, k2, a.p.body⟩)) rfl (by kernel_rfl) (by kernel_rfl) (by kernel_rfl) (by kernel_rfl) (fun _ _ _ h => h) (yieldsC_of (yields_val rfl (fun W hW => by (go_simp; try rfl)))) (by assumption) ?_; simp only [Act.put, List.setIfInBounds_toArray, List.set_cons_zero, List.set_cons_succ])
     (refine takeL (i := 12) (v := .pointer (some ⟨Q, 0, none⟩)) rfl (by kernel_rfl) (by kernel_rfl) (by kernel_rfl) (by kernel_rfl) (fun _ _ _ h => h) (yieldsC_of (yields_val rfl (fun W hW => by (go_simp)))) (by assumption) ?_; simp only [Act.put, List.setIfInBounds_toArray, List.set_cons_zero, List.set_cons_succ])
     (refine wpAnyL_all (rs := [13]) (by kernel_rfl) (by simp) (fun i hi => ?_); obtain rfl : i = 13 := by simpa using hi)
     refine wpOp_plain rfl rfl (fun K2 hK2 => ?_)
     refine wp_store_part 25 _ _ rfl Q 0 rfl (.agg (PgV.cells ⟨a.p.params, A1, k1, a.p.V, A2, k2, a.p.body⟩)) rfl (PgV.cells ⟨a.p.params, A1, k1, a.p.V, A2, k2, a.p.body⟩).toList rfl 31 _ (cpO ⟨a.p.params, A1, k1, a.p.V, A2, k2, a.p.body⟩ none 0 [] a.fuel none 0 []).cells rQ2 (by kernel_rfl) (by show 0 + 3 ≤ 9; omega) (by simp [PgV.cells, Value.oneCell']) rfl ?_
     intro W3 r3 o3
     refine hK2 _ _ ?_
     clear hK2 K2
     simp only [Act.put, List.setIfInBounds_toArray, List.set_cons_zero, List.set_cons_succ]
     refine ⟨fun h => absurd rfl h, ?_⟩
     refine wpAnyL_done (by kernel_rfl) ?_ _
     have hq := hQne
     refine ends_normal ⟨A1, k1, A2, k2, rfl, TS.out W3 ⟨(T0.out _ hS2).1.only o3 hq.1.1, (T0.out _ hS2).2.1.only o3 hq.1.2.1, (T0.out _ hS2).2.2.only o3 hq.1.2.2⟩ (below_only (T3.out _ hS2) o3 hQw) ⟨(T4.out _ hS2).1.only o3 hq.2.1, (T4.out _ hS2).2.only o3 hq.2.2⟩, hok2.only o3 (fun ad e => ?_) (fun ad e => ?_), r3, ⟨fun ad e => ?_, fun ad e => ?_⟩, (hi1.go bw2).only o3 rQ2 (by decide), hi2.only o3 rQ2 (by decide)⟩
     · have := hb1 ad e; omega
     · have := hb2 ad e; omega
     · have := hb1 ad e; have := hRUl; omega
     · have := hb2 ad e; have := hRUl; omega
    case cont =>
     rintro A1 k1 A2 k2 w3 ⟨hS, hok, rQ, hAp, hAt⟩
     have Hok := Lib.hid hok
     have HQ2 := Lib.hid rQ
     clear hok rQ
     have c3 := cp_test (T0.out _ hS).1
     go_wp2_with fail
     obtain ⟨p2, hp2⟩ : ∃ p2 : PgV, p2 = ⟨a.p.params, A1, k1, a.p.V, A2, k2, a.p.body⟩ := ⟨_, rfl⟩
     have Hp2 := Lib.hid hp2
     have HAp : Hid ((∀ ad, p2.va = some ad → Q < ad.block ∧ R < ad.block ∧ U < ad.block) ∧ ∀ ad, p2.ba = some ad → Q < ad.block ∧ R < ad.block ∧ U < ad.block) := by rw [hp2]; exact hAp
     have HAt : Hid (RowB w3 3 p2.va ∧ RowB w3 74 p2.ba) := by rw [hp2]; exact hAt
     clear hAp hAt
     rw [← hp2] at Hok HQ2
     obtain ⟨lim, hlim⟩ : ∃ lim, lim = w3.heap.size := ⟨_, rfl⟩
     have hQl : Q < lim := by have := HQ2.out.lt; omega
     have hwl : w.heap.size ≤ lim := by omega
     have HL : Hid (LoopT a p2 Q lim S w3 0 w3) := ⟨hS, KpX.refl _ _, none, 0, [], HQ2.out, World.ownsRow_nil _ _ _ _, fun x hx => by simp at hx, rfl⟩
     have Hlim := Lib.hid hlim
     have HA9 : Hid (Rd w3 a.tA (tstC a.tests) ∧ (∀ x ∈ a.tests, x.ok w3) ∧ a.tests.length ≤ 1000) := ⟨(T1.out _ hS).trd, (T1.out _ hS).tok, (T1.out _ hS).tlen⟩
     have HQ3 := Lib.hid HQ2.out
     clear c3 hp2 hlim HQ2 HQ hS
     have HSo : Hid (∀ A B, S A → Only Q A B → S B) := fun A B h o => TS.out B ⟨(T0.out _ h).1.only o hQne.1.1, (T0.out _ h).2.1.only o hQne.1.2.1, (T0.out _ h).2.2.only o hQne.1.2.2⟩ (below_only (T3.out _ h) o hQw) ⟨(T4.out _ h).1.only o hQne.2.1, (T4.out _ h).2.only o hQne.2.2⟩
     have HSg : Hid (∀ (A B : World) (v : Value) (n : Nat) (xs : List Value), S A → A.ownsRow lim 22 1 v n xs → A.grownBy B v.ownBlock → S B) := fun A B v n xs h ho hg => TS.out B ⟨(T0.out _ h).1.grown hg (own_ne ho (T0.out _ h).1 (by decide)), (T0.out _ h).2.1.grown hg (own_ne ho (T0.out _ h).2.1 (by decide)), (T0.out _ h).2.2.grown hg (own_ne ho (T0.out _ h).2.2 (by decide))⟩ (below_grown_own (T3.out _ h) ho hg (T3.out _ h).size hwl) ⟨(T4.out _ h).1.grown hg (own_ne ho (T4.out _ h).1 (by decide)), (T4.out _ h).2.grown hg (own_ne ho (T4.out _ h).2 (by decide))⟩
     go_loopw [70] (fun i wr => ∃ k : Nat, i = .int .i64 (k : Int) ∧ k ≤ a.tests.length ∧ Hid (LoopT a p2 Q lim S w3 k wr)) (fun i _ => a.tests.length - (intOf i).toNat)
     case atStart => exact ⟨0, rfl, Nat.zero_le _, HL⟩
     case round =>
      clear HL
      obtain ⟨k, rfl, hk, HL⟩ := hrel
      by_cases hlt : k < a.tests.length
      · obtain ⟨x, hx⟩ : ∃ x, a.tests[k]? = some x := ⟨_, List.getElem?_eq_getElem hlt⟩
        obtain ⟨hS, kp, tA, tcap, ts, rQ, own, hall, hmap⟩ := HL.out
        obtain ⟨ad, had, hcx⟩ := rd_map_at (T1.out _ hS).trd hx
        have hc1 : wr.cell? (ad.add k) = some (.slice x.addr x.l.length x.cap) := hcx
        have hltI : (k : Int) < (a.tests.length : Int) := by omega
        have hkI : (k : Int) + 1 ≤ 1000 := by have := HA9.out.2.2; omega
        rw [had]
        have Hx := Lib.hid hx
        have Hkp := Lib.hid kp
        have HrQ := Lib.hid rQ
        have Hown := Lib.hid own
        have Hall := Lib.hid hall
        have Hmap := Lib.hid hmap
        clear hx kp rQ own hall hmap had hcx HL
        go_wp2_with fail
        obtain ⟨Vd, hVd⟩ : ∃ Vd, Vd = wr.drew := ⟨_, rfl⟩
        have bd : Below wr.heap.size wr Vd := by rw [hVd]; exact St.drew (S := fun W => Below wr.heap.size wr W) (Below.refl _ _)
        obtain ⟨S2, hS2d⟩ : ∃ S2, S2 = (fun W => S W ∧ Row W Q 31 (cpO p2 tA tcap ts a.fuel none 0 []).cells) := ⟨_, rfl⟩
        have U0 : Hid (∀ W, S2 W → S W ∧ Row W Q 31 (cpO p2 tA tcap ts a.fuel none 0 []).cells) := by show ∀ W, _; rw [hS2d]; exact fun W h => h
        have U1 : Hid (∀ W, S W → Row W Q 31 (cpO p2 tA tcap ts a.fuel none 0 []).cells → S2 W) := by show ∀ W, _; rw [hS2d]; exact fun W h h2 => ⟨h, h2⟩
        clear hS2d
        have hS2 : S2 Vd := U1.out _ (stS.go hS bd) (HrQ.out.below bd HrQ.out.lt)
        refine wp_ends ?_
        refine region_last (last := 7) (S := S2) (by kernel_rfl) ?_
        simp only [List.size_toArray, List.length_cons, List.length_nil, Nat.reduceAdd, Array.replicate_succ, Array.replicate_zero, List.push_toArray, List.nil_append, List.cons_append]
        rw [← hVd]
        clear hVd hc1
        (refine takeL (i := 0) (v := .pointer (some ⟨Q, 3, none⟩)) rfl (by kernel_rfl) (by kernel_rfl) (by kernel_rfl) (by kernel_rfl) (fun _ _ _ h => h) (yieldsC_of (yields_val rfl (fun W hW => by (go_simp)))) (by assumption) ?_; simp only [Act.put, List.setIfInBounds_toArray, List.set_cons_zero, List.set_cons_succ])
        (refine takeL (i := 1) (v := .slice tA ts.length tcap) rfl (by kernel_rfl) (by kernel_rfl) (by kernel_rfl) (by kernel_rfl) (fun _ _ _ h => h) (yieldsC_of (yields_val rfl (fun W hW => by ((have c := cp_test (U0.out W hW).2; go_simp; first | exact rfl | exact ⟨rfl, rfl, rfl⟩))))) (by assumption) ?_; simp only [Act.put, List.setIfInBounds_toArray, List.set_cons_zero, List.set_cons_succ])
        (refine takeL (i := 2) (v := .slice x.addr x.l.length x.cap) rfl (by kernel_rfl) (by kernel_rfl) (by kernel_rfl) (by kernel_rfl) (fun _ _ _ h => h) (yieldsC_of (yields_val rfl (fun W hW => by (go_simp)))) (by assumption) ?_; simp only [Act.put, List.setIfInBounds_toArray, List.set_cons_zero, List.set_cons_succ])
        have hxo : x.ok Vd := (T1.out _ (U0.out _ hS2).1).tok x (List.mem_of_getElem? Hx.out)
        have hxl : x.l.length ≤ 1000 := (T1.out _ hS).tl x (List.mem_of_getElem? Hx.out)
        obtain ⟨A3, k3, W3, hrun, bw, h1, h2, h3, h4, hib⟩ := app_intsB Vd x.addr x.cap x.l hxo.reads (fun e => List.eq_nil_of_length_eq_zero (by have := hxo.nil e; have := hxo.len; omega)) (by omega)
        have hS3 : S2 W3 := U1.out _ (stS.go (U0.out _ hS2).1 bw) ((U0.out _ hS2).2.below bw (U0.out _ hS2).2.lt)
        obtain ⟨y, hy⟩ : ∃ y : IntsV, y = ⟨A3, k3, x.l⟩ := ⟨_, rfl⟩
        have hyT : IntT W3 y := by rw [hy]; exact ⟨⟨h2, h3, h4, h1, hxo.all⟩, hib⟩
        have Hy := Lib.hid hy
        clear hy h1 h2 h3 h4 hib hxl
        (refine wpAnyL_all (rs := [3]) (by kernel_rfl) (by simp) (fun i hi => ?_); obtain rfl : i = 3 := by simpa using hi)
        refine wpOp_plain rfl rfl (fun K2 hK2 => ?_)
        refine wp_res_gen _ (run_exec_append rfl hrun) ?_
        refine hK2 _ _ ?_
        clear hK2 K2 hrun
        simp only [Act.put, List.setIfInBounds_toArray, List.set_cons_zero, List.set_cons_succ]
        refine ⟨fun _ => hS3, ?_⟩
        have eY : Value.slice A3 x.l.length k3 = y.val := by rw [Hy.out]; rfl
        rw [eY]
        clear eY
        obtain ⟨M2, hM2⟩ : ∃ M2, M2 = W3.heap.size := ⟨_, rfl⟩
        obtain ⟨V2, hV2⟩ : ∃ V2, V2 = W3.alloc (.cells #[y.val] 22) := ⟨_, rfl⟩
        have Mr : Row V2 M2 22 #[y.val] := by rw [hV2, hM2]; exact Row.new _ _ _
        have Mb : Below W3.heap.size W3 V2 := by rw [hV2]; exact (Below.refl _ _).alloc (Nat.le_refl _) _
        have HM2 := Lib.hid hM2
        have HV2 := Lib.hid hV2
        clear hM2 hV2
        have hS4 : S2 V2 := U1.out _ (stS.go (U0.out _ hS3).1 Mb) ((U0.out _ hS3).2.below Mb (U0.out _ hS3).2.lt)
        have bm : Below wr.heap.size wr V2 := (bd.trans (bw.mono bd.size)).trans (Mb.mono (Nat.le_trans bd.size bw.size))
        have hlen : ts.length ≤ 1000 := by
         have h := congrArg List.length Hmap.out
         rw [List.length_map, List.length_take] at h
         have := HA9.out.2.2; omega
        obtain ⟨A4, k4, V3, hrun2, hS5, r5, HT⟩ := tst_app a p2 Q lim k M2 S w3 wr V2 tA tcap ts x y HSg.out HSo.out (U0.out _ hS4).1 Hkp.out (by rw [Hlim.out]; exact Hkp.out.size) HrQ.out Hown.out Hall.out Hmap.out (by unfold CpV.testsL; rw [List.getElem?_map, Hx.out]; rfl) hlen bm (hyT.same fun ad cs e hr => hr.below Mb hr.lt) (by rw [Hy.out]) Mr
        have hS6 : S2 V3 := U1.out _ hS5 r5
        have HTT := Lib.hid HT
        have f5 := r5.free 3
        have c5 := cp_test r5
        (refine wpAnyL_all (rs := [4]) (by kernel_rfl) (by simp) (fun i hi => ?_); obtain rfl : i = 4 := by simpa using hi)
        refine wpOp_plain rfl rfl (fun K2 hK2 => ?_)
        refine wp_res_gen (.slice (some ⟨W3.heap.size, 0, none⟩) 1 1) (run_exec_bslice [(0, .tmp 77)] rfl (bs_run (cells := #[y.val]) Tryz.underlying26 info_tsz (by decide) (by decide) (by kernel_rfl) W3)) ?_
        refine hK2 _ _ ?_
        clear hK2 K2
        simp only [Act.put, List.setIfInBounds_toArray, List.set_cons_zero, List.set_cons_succ]
        rw [← HM2.out, ← HV2.out]
        refine ⟨fun _ => hS4, ?_⟩
        (refine wpAnyL_all (rs := [5]) (by kernel_rfl) (by simp) (fun i hi => ?_); obtain rfl : i = 5 := by simpa using hi)
        refine wpOp_plain rfl rfl (fun K2 hK2 => ?_)
        refine wp_res_gen _ (run_exec_append rfl hrun2) ?_
        refine hK2 _ _ ?_
        clear hK2 K2 hrun2
        simp only [Act.put, List.setIfInBounds_toArray, List.set_cons_zero, List.set_cons_succ]
        refine ⟨fun _ => hS6, ?_⟩
        (refine takeL (i := 6) (v := .pointer (some ⟨Q, 3, none⟩)) rfl (by kernel_rfl) (by kernel_rfl) (by kernel_rfl) (by kernel_rfl) (fun _ _ _ h => h) (yieldsC_of (yields_val rfl (fun W hW => by (go_simp)))) (by assumption) ?_; simp only [Act.put, List.setIfInBounds_toArray, List.set_cons_zero, List.set_cons_succ])
        (refine wpAnyL_all (rs := [7]) (by kernel_rfl) (by simp) (fun i hi => ?_); obtain rfl : i = 7 := by simpa using hi)
        refine wpOp_plain rfl rfl (fun K2 hK2 => ?_)
        unfold Oper.wp
        clear HT hS4 bm hlen Mr Mb hyT hxo bw bd Hkp HrQ Hown Hall Hmap Hx Hy hS2 hS3
        go_simp
        refine hK2 _ _ ?_
        clear hK2 K2
        simp only [List.setIfInBounds_toArray, List.set_cons_zero, List.set_cons_succ]
        refine ⟨fun h => absurd rfl h, ?_⟩
        refine wpAnyL_done (by kernel_rfl) ?_ _
        refine ends_normal ?_
        go_wp2_with fail
        refine ⟨⟨k + 1, (by first | go_num | simp), by omega, HTT⟩, ?_⟩
        simp [intOf]; omega
      · obtain rfl : k = a.tests.length := by omega
        clear hlt hk
        have hS := HL.out.s
        have c1 := cp_mut (T0.out _ hS).1
        have c2 := cp_mut (T0.out _ hS).2.1
        obtain ⟨-, kp, tA, tcap, ts, rQ, own, hall, hmap⟩ := HL.out
        have Hkp := Lib.hid kp
        have HrQ := Lib.hid rQ
        have Hown := Lib.hid own
        have Hall := Lib.hid hall
        have Hmap := Lib.hid hmap
        clear kp rQ own hall hmap HL
        go_wp2_with fail
        refine (zipFn_any a.mA b.mA a.mcap b.mcap a.mts.length b.mts.length wr).mono ?_
        rintro e w5 ⟨ba, bb, bc, rfl, ra, rb, rc, ga, gb, gc, b5⟩
        have lQ := HrQ.out.lt
        have lR := (T4.out _ hS).1.lt
        have lU := (T4.out _ hS).2.lt
        replace Hkp := Lib.hid (Hkp.out.trans (KpX.of_below b5))
        replace HrQ := Lib.hid (HrQ.out.below b5 HrQ.out.lt)
        replace Hown := Lib.hid (own_below Hown.out b5)
        replace Hall : Hid (∀ x ∈ ts, IntT w5 x) := fun x hx => IntT.same (Hall.out x hx) fun ad cs e hr => hr.below b5 hr.lt
        replace hS := stS.go hS b5
        have hab := HAB.out
        obtain ⟨lim2, hlim2⟩ : ∃ lim2, lim2 = w5.heap.size := ⟨_, rfl⟩
        have hRU : R < wr.heap.size ∧ U < wr.heap.size := ⟨lR, lU⟩
        obtain ⟨X, hX⟩ : ∃ X : Nat → Prop, X = (fun i => (i = Q ∨ i = R ∨ i = U) ∨ lim2 ≤ i) := ⟨_, rfl⟩
        have HXX : Hid ((∀ i, i = Q ∨ lim2 ≤ i → X i) ∧ (∀ i, X i ↔ ((i = Q ∨ i = R ∨ i = U) ∨ lim2 ≤ i))) := by rw [hX]; exact ⟨fun i h => h.elim (fun h => .inl (.inl h)) .inr, fun i => Iff.rfl⟩
        clear hX
        have hold : ∀ i, i < w.heap.size → ¬ X i := fun i hi h => by
         have := (T3.out _ hS).size
         rcases (HXX.out.2 i).1 h with (h | h | h) | h <;> omega
        have hmid : ∀ i, wr.heap.size ≤ i → i < w5.heap.size → ¬ X i := fun i hi hi2 h => by
         rcases (HXX.out.2 i).1 h with (h | h | h) | h <;> omega
        have hC : ZipC a.mA b.mA a.mcap b.mcap a.mts b.mts X ba bb bc w5 := ⟨ra, rb, rc, hmid _ ga ra.lt, hmid _ gb rb.lt, hmid _ gc rc.lt,
         (T1.out _ hS).mrd, fun hne ad e => hold _ (rd_lt hab.1.mrd hne e), (T2.out _ hS).mrd, fun hne ad e => hold _ (rd_lt hab.2.mrd hne e),
         (T1.out _ hS).mok, fun x hx hne ad e => hold _ (rd_lt (hab.1.mok x hx).rd hne e), (T2.out _ hS).mok, fun x hx hne ad e => hold _ (rd_lt (hab.2.mok x hx).rd hne e)⟩
        have Hit := Lib.hid (zip1_iter a.mA b.mA a.mcap b.mcap a.mts b.mts X ba bb bc w5 hC (T1.out _ hS).mlen (T2.out _ hS).mlen)
        have Hlim2 := Lib.hid hlim2
        have Hwl2 : Hid (w.heap.size ≤ lim2) := by have := (T3.out _ hS).size; show _ ≤ _; omega
        have Hpre : Hid (∀ W, KpX X w5 W → p2.ok W ∧ Rd W tA (tstC ts) ∧ (∀ x ∈ ts, x.ok W) ∧ (RowB W 3 p2.va ∧ RowB W 74 p2.ba ∧ RowB W 22 tA ∧ ∀ x ∈ ts, RowB W 3 x.addr)) := fun W k => by
         have hp : p2.ok w5 := Hok.out.kp Hkp.out (fun hne ad e h => by have := rd_lt Hok.out.vrd hne e; have := HAp.out.1 ad e; have := Hlim.out; omega) (fun hne ad e h => by have := rd_lt Hok.out.brd hne e; have := HAp.out.2 ad e; have := Hlim.out; omega)
         have hrow : ∀ i t cs, Row w5 i t cs → t ≠ 31 → t ≠ 34 → ¬ X i := fun i t cs hr h1 h2 h => by
          have hl := hr.lt
          have ne : ∀ j t' cs', Row w5 j t' cs' → i = j → t = t' := fun j t' cs' hr' e => by
           subst e
           have h9 : w5.heap[i]? = some (.cells cs t (0, 0)) := hr
           rw [show w5.heap[i]? = some (.cells cs' t' (0, 0)) from hr'] at h9
           injection h9 with h9; injection h9 with _ h9; exact h9.symm
          rcases (HXX.out.2 i).1 h with (h | h | h) | h
          · exact h1 (ne _ _ _ HrQ.out h)
          · exact h1 (ne _ _ _ (T4.out _ hS).1 h)
          · exact h2 (ne _ _ _ (T4.out _ hS).2 h)
          · omega
         have hro : ∀ i t cs, Row w3 i t cs → t ≠ 31 → ¬ (i = Q ∨ lim ≤ i) := fun i t cs hr h1 h => by
          have hl := hr.lt
          have hli := Hlim.out
          rcases h with h | h
          · have h9 : w3.heap[Q]? = some (.cells cs t (0, 0)) := by rw [← h]; exact hr
            have h8 := HQ3.out
            rw [show w3.heap[Q]? = some (.cells _ 31 (0, 0)) from h8] at h9
            injection h9 with h9; injection h9 with _ h9; exact h1 h9.symm
          · omega
         refine ⟨hp.kp k (fun hne ad e h => ?_) (fun hne ad e h => ?_), ?_, fun x hx => ?_, (HAt.out.1.kp Hkp.out (fun i cs hr => hro i _ cs hr (by decide))).kp k (fun i cs hr => hrow i _ cs hr (by decide) (by decide)), (HAt.out.2.kp Hkp.out (fun i cs hr => hro i _ cs hr (by decide))).kp k (fun i cs hr => hrow i _ cs hr (by decide) (by decide)), (own_rowB Hown.out).kp k (fun i cs hr => hrow i _ cs hr (by decide) (by decide)), fun x hx => RowB.kp (A := x.addr) (fun ad e => (Hall.out x hx).2 ad e) k (fun i cs hr => hrow i _ cs hr (by decide) (by decide))⟩
         · have h1 := rd_lt hp.vrd hne e; have h2 := HAp.out.1 ad e
           rcases (HXX.out.2 _).1 h with (h | h | h) | h <;> omega
         · have h1 := rd_lt hp.brd hne e; have h2 := HAp.out.2 ad e
           rcases (HXX.out.2 _).1 h with (h | h | h) | h <;> omega
         · refine k.rd (own_rdS Hown.out) fun hne ad e => ?_
           rcases Hown.out.2 with ⟨e2, h0⟩ | ⟨g, c, cur, e2, _, hr, _⟩
           · exact absurd (List.eq_nil_of_length_eq_zero (by have := Hown.out.1; omega)) hne
           · injection e2 with e2; rw [e] at e2; injection e2 with e2; rw [e2]; exact hrow _ _ _ hr (by decide) (by decide)
         · have hx5 := Hall.out x hx
           exact (hx5.same fun ad cs e hr => k.row hr (hrow _ _ _ hr (by decide) (by decide))).1
        have HSo2 := Lib.hid HSo.out
        have Hown7 := Lib.hid Hown.out
        have HSg2 : Hid (∀ (A B : World) (v : Value) (n : Nat) (xs : List Value), S A → A.ownsRow lim2 47 8 v n xs → A.grownBy B v.ownBlock → S B) := fun A B v n xs h ho hg => TS.out B ⟨(T0.out _ h).1.grown hg (own_ne ho (T0.out _ h).1 (by decide)), (T0.out _ h).2.1.grown hg (own_ne ho (T0.out _ h).2.1 (by decide)), (T0.out _ h).2.2.grown hg (own_ne ho (T0.out _ h).2.2 (by decide))⟩ (below_grown_own (T3.out _ h) ho hg (T3.out _ h).size Hwl2.out) ⟨(T4.out _ h).1.grown hg (own_ne ho (T4.out _ h).1 (by decide)), (T4.out _ h).2.grown hg (own_ne ho (T4.out _ h).2 (by decide))⟩
        have HS := Lib.hid hS
        clear hC ra rb rc ga gb gc b5 hS hold c1 c2 hlim2 hab hmid hRU lR lU
        go_wp2_with fail
        refine (wpIn_wide (n := 0)).1 ?_
        have HI0 : Hid (InvM a b p2 tA tcap ts Q lim2 S X w5 [] w5) := ⟨HS.out, KpX.refl _ _, Nat.le_of_eq Hlim2.out, ⟨_, [], HrQ.out, World.ownsRow_nil _ _ _ _, fun c hc => by simp at hc, rfl⟩, rfl⟩
        have hfl : (zipN a.muts b.muts 0 0).length ≤ 200000 := zipN_le HAB.out.1.mlen HAB.out.2.mlen
        obtain ⟨full, hfull⟩ : ∃ full, full = zipN a.muts b.muts 0 0 := ⟨_, rfl⟩
        rw [show zipN (a.mts.map MtV.m) (b.mts.map MtV.m) 0 0 = full from hfull.symm] at Hit
        rw [← hfull] at hfl
        have Hfull := Lib.hid hfull
        clear hfull
        refine rangeP (gf := 104) (lb := #[.pointer (some ⟨ba, 0, none⟩), .pointer (some ⟨bb, 0, none⟩), .pointer (some ⟨bc, 0, none⟩)]) rfl (enters_of Tryz.func104 (by kernel_rfl) rfl) Hit.out (fun r h => h.elim)
         (fun h k => h.trans k) (fun V o o' ho hc => ⟨fun i p hx hp => by rw [World.putObj_heap_other (fun e => hx (.inr e))]; exact hp, by simp⟩) (World.grownBy.refl _ _) (fun _ => rfl)
         (fun pre V => InvM a b p2 tA tcap ts Q lim2 S X w5 pre V)
         (fun c _ W => c = Code.ret ∧ StopM a b R U w W) (.inl trivial) ?hI ?hIx HI0.out
         (fun pre z a' V => a' = { tmps := #[.agg a.cells, .agg b.cells, .pointer (some ⟨G, 0, none⟩), .pointer (some ⟨H, 0, none⟩), .pointer (some ⟨R, 0, none⟩), .pointer (some ⟨U, 0, none⟩), undef, u7, u8, .pointer (some ⟨Q, 0, none⟩), undef, u11, zpt a.mA z.1, zpt b.mA z.2, .agg a.cells, .agg b.cells, .slice (some ⟨M, 0, none⟩) 2 2, .int .i64 2, .int .i64 2, .bool false, u20, u21, u22, u23, u24, u25, u26, u27, u28, .pointer (some ⟨G, 0, none⟩), .agg a.p.cells, .pointer (some ⟨H, 0, none⟩), .agg b.p.cells, .bool true, .bool false, .bool false, .pointer (some ⟨G, 3, none⟩), .slice a.tA a.tests.length a.tcap, .pointer (some ⟨H, 3, none⟩), .slice b.tA b.tests.length b.tcap, .bool true, .bool false, .bool false, .bool false, .pointer (some ⟨G, 4, none⟩), .int .i64 a.fuel, .pointer (some ⟨H, 4, none⟩), .int .i64 b.fuel, .bool false, .bool false, undef, .pointer (some ⟨G, 4, none⟩), .int .i64 a.fuel, .agg #[.int .i64 0, .slice none 0 0, .slice none 0 0, .slice none 0 0, .int .i64 a.fuel, .slice none 0 0, .int .i64 0, .int .i64 0, .int .i64 0], .pointer (some ⟨G, 0, none⟩), .pointer (some ⟨G, 0, none⟩), .int .i64 a.p.params, .pointer (some ⟨G, 0, none⟩), .pointer (some ⟨G, 1, none⟩), .slice a.p.va a.p.V.length a.p.vcap, .slice A1 a.p.V.length k1, .pointer (some ⟨G, 0, none⟩), .pointer (some ⟨G, 2, none⟩), .slice a.p.ba a.p.body.length a.p.bcap, .slice A2 a.p.body.length k2, .agg (PgV.cells ⟨a.p.params, A1, k1, a.p.V, A2, k2, a.p.body⟩), .pointer (some ⟨Q, 0, none⟩), .pointer (some ⟨G, 3, none⟩), .slice a.tA a.tests.length a.tcap, .int .i64 (a.tests.length : Int), .int .i64 (a.tests.length : Int), .bool false, u72, u73, u74, u75, u76, u77, u78, u79, u80, u81, .pointer (some ⟨G, 5, none⟩), .slice a.mA a.mts.length a.mcap, .pointer (some ⟨H, 5, none⟩), .slice b.mA b.mts.length b.mcap, .func (.func 104) #[] #[.pointer (some ⟨ba, 0, none⟩), .pointer (some ⟨bb, 0, none⟩), .pointer (some ⟨bc, 0, none⟩)], zpt a.mA z.1, zpt b.mA z.2, undef, undef, undef, undef, undef, undef, undef, undef, undef, undef, undef, undef, undef, undef, undef, undef, undef, undef, undef, undef, undef, undef, undef, undef, undef, undef, undef, undef, undef, undef], defers := [] } ∧ ZipP full pre z V) ?hAx ?assign ?body ?done ?stop
        case hI =>
         rintro pre V V' row h hg hr
         refine h.abide (fun i hi => HXX.out.1 i (.inr hi)) (fun hs => TS.out V' ⟨(T0.out _ hs).1.abide hg hr, (T0.out _ hs).2.1.abide hg hr, (T0.out _ hs).2.2.abide hg hr⟩ ((T3.out _ hs).grown hg (T3.out _ hs).size (fun k e => by
          rcases hr k e with h | ⟨h, _⟩
          · exact h.elim
          · have := Hlim2.out; have := Hwl2.out; omega)) ⟨(T4.out _ hs).1.abide hg hr, (T4.out _ hs).2.abide hg hr⟩) hg (fun r e => by rw [Hlim2.out]; exact hr r e)
        case hIx =>
         rintro c pre V V' row ⟨rfl, h1, h2, h3, h4⟩ hg hr
         exact ⟨rfl, h1.abide hg hr, h2.abide hg hr, h3.grown hg h3.size (fun k e => by
          rcases hr k e with h | ⟨h, _⟩
          · exact h.elim
          · have := Hlim2.out; have := Hwl2.out; omega), h4⟩
        case hAx => exact fun pre z a' _ _ _ _ h _ _ => h
        case assign =>
         rintro l3 pre z V K hI hP hK
         have HK := Lib.hid hK
         have HI := Lib.hid hI
         have HP := Lib.hid hP
         clear hK hI hP
         unfold zenc
         gi_wp2_with fail
         exact HK.out _ _ (KeepsFrom.refl _ _) (KpX.refl _ _) HI.out ⟨rfl, HP.out⟩
        case body =>
         rintro l3 pre z a' V hl3 _ ⟨hSV, kp, hsz, ⟨v, ms, rQ, own, hall, hmap⟩, hag⟩ ⟨rfl, rest, hrest⟩ hlen
         have hpl : pre.length < 200000 := by have := congrArg List.length hrest; simp at this; omega
         have hms : ms.length < 200000 := by have := congrArg List.length hmap; simp at this; omega
         dsimp only
         have hz : z ∈ zipN a.muts b.muts 0 0 := by rw [← show full = zipN a.muts b.muts 0 0 from Hfull.out, ← hrest]; simp
         have Hz := Lib.hid hz
         obtain ⟨T, hTd⟩ : ∃ T, T = (fun W => Below V.heap.size V W) := ⟨_, rfl⟩
         have stT : St T := by rw [hTd]; exact ⟨fun h b => h.trans (b.mono h.size)⟩
         have K0 : Hid (∀ W, T W → Below V.heap.size V W) := by show ∀ W, _; rw [hTd]; exact fun W h => h
         have hTV : T V := by rw [hTd]; exact Below.refl _ _
         have TB0 := Lib.hid T2.out
         clear T2
         obtain ⟨T2, hT2d⟩ : ∃ T2, T2 = (fun W => S W ∧ Row W Q 31 (cpQ p2 tA tcap ts a.fuel v)) := ⟨_, rfl⟩
         have stT2 : St T2 := by rw [hT2d]; infer_instance
         have L0 : Hid (∀ W, T2 W → S W ∧ Row W Q 31 (cpQ p2 tA tcap ts a.fuel v)) := by show ∀ W, _; rw [hT2d]; exact fun W h => h
         have L2 : Hid (∀ W, S W → Row W Q 31 (cpQ p2 tA tcap ts a.fuel v) → T2 W) := by show ∀ W, _; rw [hT2d]; exact fun W h1 h2 => ⟨h1, h2⟩
         have TT : Hid (∀ W, T W → T2 W) := fun W h => L2.out W (stS.go hSV (K0.out W h)) (rQ.below (K0.out W h) rQ.lt)
         have HQ5 : Hid (∀ W, T2 W → W.cell? ⟨Q, 5, none⟩ = some v) := fun W h => cpQ_cell (L0.out W h).2
         have TA : Hid (∀ W, T2 W → CpOk W a) := fun W h => T1.out _ (L0.out W h).1
         have TB : Hid (∀ W, T2 W → CpOk W b) := fun W h => TB0.out _ (L0.out W h).1
         have hTV2 : T2 V := L2.out _ hSV rQ
         clear hTd hT2d hrest hlen hl3 hfl Hit
         rcases zipN_mem a.muts b.muts a.muts b.muts 0 0 rfl rfl z hz with ⟨i, x, rfl, hx⟩ | ⟨k, y, rfl, hy⟩ | ⟨i, k, x, y, rfl, hx, hy, -⟩
         · obtain ⟨p, xv, rfl, hxm, hp, hpc⟩ := zpt_at (TA.out _ hTV2).mrd hx
           have HX : Hid (∀ W, T2 W → MtOk W xv) := fun W h => (TA.out W h).mok xv hxm
           have HXc : Hid (∀ W, T2 W → ∀ j u, xv.cells[j]? = some u → W.cell? (p.add j) = some u) := fun W h => hpc W (TA.out W h).mrd
           have Hpk : Hid (pickN a.muts b.muts ((some i : Option Nat), (none : Option Nat)) = xv.m) := pickN_l hx
           have Hagz : Hid (agZ a.muts b.muts ((some i : Option Nat), (none : Option Nat)) = true) := rfl
           rw [show zpt a.mA (some i) = .pointer (some p) from hp, show zpt b.mA none = .pointer none from rfl]
           clear hx hxm hp hpc hz
           gi_wp2_with fail
           refine region_holdR T (by kernel_rfl) (by kernel_rfl) (by kernel_rfl) (St.drew hTV) ?_
           clear hTV
           iterate 3 (refine hold_value rfl ?_ (fun W hW => ?_) ?_; rotate_left; (focus (go_simp; exact rfl)); simp only [Act.put, List.setIfInBounds_toArray, List.set_cons_zero, List.set_cons_succ])
           iterate 8 (refine hold_skip rfl ?_; simp only [Act.put, List.setIfInBounds_toArray, List.set_cons_zero, List.set_cons_succ])
           (refine hold_value rfl ?_ (fun W hW => ?_) ?_; rotate_left; (focus (go_simp; exact rfl)); simp only [Act.put, List.setIfInBounds_toArray, List.set_cons_zero, List.set_cons_succ])
           refine wpHold_nil fun V1 hT1 => ?_
           gi_wp2_with fail
           obtain ⟨Vd, hVd⟩ : ∃ Vd, Vd = V1.drew := ⟨_, rfl⟩
           have bVd : Below V.heap.size V Vd := by rw [hVd]; exact K0.out _ (St.drew hT1)
           have hTd : T2 Vd := L2.out _ (stS.go hSV bVd) (rQ.below bVd rQ.lt)
           refine region_lastR (last := 9) (S := T2) (by kernel_rfl) (by kernel_rfl) ?_
           simp only [List.size_toArray, List.length_cons, List.length_nil, Nat.reduceAdd, Array.replicate_succ, Array.replicate_zero, List.push_toArray, List.nil_append, List.cons_append]
           rw [← hVd]
           clear hVd hT1
           (refine takeL (i := 0) (v := .pointer (some ⟨Q, 5, none⟩)) rfl (by kernel_rfl) (by kernel_rfl) (by kernel_rfl) (by kernel_rfl) (fun _ _ _ h => h) (yieldsC_of (yields_val rfl (fun W hW => by (go_simp)))) (by assumption) ?_; simp only [Act.put, List.setIfInBounds_toArray, List.set_cons_zero, List.set_cons_succ])
           (refine takeL (i := 1) (v := v) rfl (by kernel_rfl) (by kernel_rfl) (by kernel_rfl) (by kernel_rfl) (fun _ _ _ h => h) (yieldsC_of (yields_val rfl (fun W hW => by ((have c := HQ5.out W hW; go_simp))))) (by assumption) ?_; simp only [Act.put, List.setIfInBounds_toArray, List.set_cons_zero, List.set_cons_succ])
           (refine takeL (i := 2) (v := .pointer (some p)) rfl (by kernel_rfl) (by kernel_rfl) (by kernel_rfl) (by kernel_rfl) (fun _ _ _ h => h) (yieldsC_of (yields_val rfl (fun W hW => by (go_simp)))) (by assumption) ?_; simp only [Act.put, List.setIfInBounds_toArray, List.set_cons_zero, List.set_cons_succ])
           (refine takeL (i := 3) (v := .pointer (some p)) rfl (by kernel_rfl) (by kernel_rfl) (by kernel_rfl) (by kernel_rfl) (fun _ _ _ h => h) (yieldsC_of (yields_val rfl (fun W hW => by (go_simp)))) (by assumption) ?_; simp only [Act.put, List.setIfInBounds_toArray, List.set_cons_zero, List.set_cons_succ])
           (refine takeL (i := 4) (v := _) rfl (by kernel_rfl) (by kernel_rfl) (by kernel_rfl) (by kernel_rfl) (fun _ _ _ h => h) (yieldsC_of ((yields_atp rfl 47 _ rfl p rfl xv.cells _ (fun W hW => HXc.out W hW) Tryz.underlying47 rfl (by kernel_rfl)))) (by assumption) ?_; simp only [Act.put, List.setIfInBounds_toArray, List.set_cons_zero, List.set_cons_succ])
           (refine wpAnyL_all (rs := [5]) (by kernel_rfl) (by simp) (fun i hi => ?_); obtain rfl : i = 5 := by simpa using hi)
           refine wpOp_plain rfl rfl (fun K2 hK2 => ?_)
           refine wp_call_gen 48 #[.agg xv.cells.toArray] (w1 := Vd) (by go_simp; try rfl) (Calls.mono (copied_any xv Vd (HX.out Vd hTd)) ?_)
           rintro e W9 ⟨y, rfl, ym, yok, yib, -, yb⟩
           refine ⟨_, rfl, hK2 _ _ ?_⟩
           clear hK2 K2
           simp only [Act.put, List.setIfInBounds_toArray, List.set_cons_zero, List.set_cons_succ]
           have hT9 := stT2.go hTd yb
           refine ⟨fun _ => hT9, ?_⟩
           have Hym := Lib.hid ym
           clear ym hTd
           (refine wpAnyL_all (rs := [6]) (by kernel_rfl) (by simp) (fun i hi => ?_); obtain rfl : i = 6 := by simpa using hi)
           refine wpOp_plain rfl rfl (fun K2 hK2 => ?_)
           refine wp_res_gen (.slice (some ⟨W9.heap.size, 0, none⟩) 1 1) (run_exec_bslice [(0, .tmp 110)] rfl (bs_run (cells := y.cells.toArray) Tryz.underlying27 info_mtz (by decide) (by decide) (by kernel_rfl) W9)) ?_
           refine hK2 _ _ ?_
           clear hK2 K2
           simp only [Act.put, List.setIfInBounds_toArray, List.set_cons_zero, List.set_cons_succ]
           obtain ⟨M2, hM2⟩ : ∃ M2, M2 = W9.heap.size := ⟨_, rfl⟩
           obtain ⟨V2, hV2⟩ : ∃ V2, V2 = W9.alloc (.cells y.cells.toArray 47) := ⟨_, rfl⟩
           have Mr : Row V2 M2 47 y.cells.toArray := by rw [hV2, hM2]; exact Row.new _ _ _
           have Mb : Below W9.heap.size W9 V2 := by rw [hV2]; exact (Below.refl _ _).alloc (Nat.le_refl _) _
           rw [← hM2, ← hV2]
           clear hM2 hV2
           have hT2 := stT2.go hT9 Mb
           refine ⟨fun _ => hT2, ?_⟩
           have bV2 : Below V.heap.size V V2 := (bVd.trans (yb.mono bVd.size)).trans (Mb.mono (Nat.le_trans bVd.size yb.size))
           have hyT : MtT V2 y := MtT.go ⟨yok, yib⟩ Mb
           obtain ⟨A3, c3, V3, hrun, hr3, hst⟩ := mtm_app p2 tA tcap ts a.fuel Q lim2 M2 S X V V2 v ms y HXX.out.1 HSg2.out HSo.out (stS.go hSV bV2) hsz rQ own hall (by omega) bV2 hyT Mr
           have Hrun := Lib.hid hrun
           have HF : Hid (KeepsFrom w5.heap.size V (V3.setCell ⟨Q, 5, none⟩ (.slice A3 (ms.length + 1) c3)) ∧ KpX (fun i => X i ∨ i = w5.heap.size + 1) V (V3.setCell ⟨Q, 5, none⟩ (.slice A3 (ms.length + 1) c3)) ∧ InvM a b p2 tA tcap ts Q lim2 S X w5 (pre ++ [((some i : Option Nat), (none : Option Nat))]) (V3.setCell ⟨Q, 5, none⟩ (.slice A3 (ms.length + 1) c3))) :=
            ⟨by rw [← Hlim2.out]; exact hst.kf, hst.kp.more (fun _ h => .inl h), hst.s, kp.trans hst.kp, hst.size, ⟨_, ms ++ [y], hst.row, hst.own, hst.all, by rw [List.map_append, hmap, List.map_append, List.map_cons, List.map_nil, List.map_cons, List.map_nil, Hym.out, Hpk.out]⟩, by rw [List.all_append, hag]; simp [Hagz.out]⟩
           have r3 := hr3.2
           have hT3 := L2.out _ hr3.1 hr3.2
           have f3 := r3.free 5
           have c3' := cpQ_cell r3
           clear hrun hr3 hst Mr hyT yok yib yb Mb hT9 hT2 bV2 bVd HX HXc Hym hSV kp hsz rQ own hall hmap hag r3
           (refine wpAnyL_all (rs := [7]) (by kernel_rfl) (by simp) (fun i hi => ?_); obtain rfl : i = 7 := by simpa using hi)
           refine wpOp_plain rfl rfl (fun K2 hK2 => ?_)
           refine wp_res_gen _ (run_exec_append rfl Hrun.out) ?_
           refine hK2 _ _ ?_
           clear hK2 K2 Hrun
           simp only [Act.put, List.setIfInBounds_toArray, List.set_cons_zero, List.set_cons_succ]
           refine ⟨fun _ => hT3, ?_⟩
           (refine takeL (i := 8) (v := .pointer (some ⟨Q, 5, none⟩)) rfl (by kernel_rfl) (by kernel_rfl) (by kernel_rfl) (by kernel_rfl) (fun _ _ _ h => h) (yieldsC_of (yields_val rfl (fun W hW => by (go_simp)))) (by assumption) ?_; simp only [Act.put, List.setIfInBounds_toArray, List.set_cons_zero, List.set_cons_succ])
           (refine wpAnyL_all (rs := [9]) (by kernel_rfl) (by simp) (fun i hi => ?_); obtain rfl : i = 9 := by simpa using hi)
           refine wpOp_plain rfl rfl (fun K2 hK2 => ?_)
           unfold Oper.wp
           go_simp
           refine hK2 _ _ ?_
           clear hK2 K2
           simp only [List.setIfInBounds_toArray, List.set_cons_zero, List.set_cons_succ]
           refine ⟨fun h => absurd rfl h, ?_⟩
           refine wpAnyL_done (by kernel_rfl) ?_ _
           refine ends_normal ?_
           gi_wp2_with fail
           exact HF.out
         · obtain ⟨p, xv, rfl, hxm, hp, hpc⟩ := zpt_at (TB.out _ hTV2).mrd hy
           have HX : Hid (∀ W, T2 W → MtOk W xv) := fun W h => (TB.out W h).mok xv hxm
           have HXc : Hid (∀ W, T2 W → ∀ j u, xv.cells[j]? = some u → W.cell? (p.add j) = some u) := fun W h => hpc W (TB.out W h).mrd
           have Hpk : Hid (pickN a.muts b.muts ((none : Option Nat), some k) = xv.m) := pickN_r hy
           have Hagz : Hid (agZ a.muts b.muts ((none : Option Nat), (some k : Option Nat)) = true) := rfl
           rw [show zpt b.mA (some k) = .pointer (some p) from hp, show zpt a.mA none = .pointer none from rfl]
           clear hy hxm hp hpc hz
           obtain ⟨V1, hV1⟩ : ∃ V1, V1 = V := ⟨_, rfl⟩
           have hT1 : T V1 := by rw [hV1]; exact hTV
           gi_wp2_with fail
           rw [← hV1]
           clear hV1 hTV
           obtain ⟨Vd, hVd⟩ : ∃ Vd, Vd = V1.drew := ⟨_, rfl⟩
           have bVd : Below V.heap.size V Vd := by rw [hVd]; exact K0.out _ (St.drew hT1)
           have hTd : T2 Vd := L2.out _ (stS.go hSV bVd) (rQ.below bVd rQ.lt)
           refine region_lastR (last := 9) (S := T2) (by kernel_rfl) (by kernel_rfl) ?_
           simp only [List.size_toArray, List.length_cons, List.length_nil, Nat.reduceAdd, Array.replicate_succ, Array.replicate_zero, List.push_toArray, List.nil_append, List.cons_append]
           rw [← hVd]
           clear hVd hT1
           (refine takeL (i := 0) (v := .pointer (some ⟨Q, 5, none⟩)) rfl (by kernel_rfl) (by kernel_rfl) (by kernel_rfl) (by kernel_rfl) (fun _ _ _ h => h) (yieldsC_of (yields_val rfl (fun W hW => by (go_simp)))) (by assumption) ?_; simp only [Act.put, List.setIfInBounds_toArray, List.set_cons_zero, List.set_cons_succ])
           (refine takeL (i := 1) (v := v) rfl (by kernel_rfl) (by kernel_rfl) (by kernel_rfl) (by kernel_rfl) (fun _ _ _ h => h) (yieldsC_of (yields_val rfl (fun W hW => by ((have c := HQ5.out W hW; go_simp))))) (by assumption) ?_; simp only [Act.put, List.setIfInBounds_toArray, List.set_cons_zero, List.set_cons_succ])
           (refine takeL (i := 2) (v := .pointer (some p)) rfl (by kernel_rfl) (by kernel_rfl) (by kernel_rfl) (by kernel_rfl) (fun _ _ _ h => h) (yieldsC_of (yields_val rfl (fun W hW => by (go_simp)))) (by assumption) ?_; simp only [Act.put, List.setIfInBounds_toArray, List.set_cons_zero, List.set_cons_succ])
           (refine takeL (i := 3) (v := .pointer (some p)) rfl (by kernel_rfl) (by kernel_rfl) (by kernel_rfl) (by kernel_rfl) (fun _ _ _ h => h) (yieldsC_of (yields_val rfl (fun W hW => by (go_simp)))) (by assumption) ?_; simp only [Act.put, List.setIfInBounds_toArray, List.set_cons_zero, List.set_cons_succ])
           (refine takeL (i := 4) (v := _) rfl (by kernel_rfl) (by kernel_rfl) (by kernel_rfl) (by kernel_rfl) (fun _ _ _ h => h) (yieldsC_of ((yields_atp rfl 47 _ rfl p rfl xv.cells _ (fun W hW => HXc.out W hW) Tryz.underlying47 rfl (by kernel_rfl)))) (by assumption) ?_; simp only [Act.put, List.setIfInBounds_toArray, List.set_cons_zero, List.set_cons_succ])
           (refine wpAnyL_all (rs := [5]) (by kernel_rfl) (by simp) (fun i hi => ?_); obtain rfl : i = 5 := by simpa using hi)
           refine wpOp_plain rfl rfl (fun K2 hK2 => ?_)
           refine wp_call_gen 48 #[.agg xv.cells.toArray] (w1 := Vd) (by go_simp; try rfl) (Calls.mono (copied_any xv Vd (HX.out Vd hTd)) ?_)
           rintro e W9 ⟨y, rfl, ym, yok, yib, -, yb⟩
           refine ⟨_, rfl, hK2 _ _ ?_⟩
           clear hK2 K2
           simp only [Act.put, List.setIfInBounds_toArray, List.set_cons_zero, List.set_cons_succ]
           have hT9 := stT2.go hTd yb
           refine ⟨fun _ => hT9, ?_⟩
           have Hym := Lib.hid ym
           clear ym hTd
           (refine wpAnyL_all (rs := [6]) (by kernel_rfl) (by simp) (fun i hi => ?_); obtain rfl : i = 6 := by simpa using hi)
           refine wpOp_plain rfl rfl (fun K2 hK2 => ?_)
           refine wp_res_gen (.slice (some ⟨W9.heap.size, 0, none⟩) 1 1) (run_exec_bslice [(0, .tmp 110)] rfl (bs_run (cells := y.cells.toArray) Tryz.underlying27 info_mtz (by decide) (by decide) (by kernel_rfl) W9)) ?_
           refine hK2 _ _ ?_
           clear hK2 K2
           simp only [Act.put, List.setIfInBounds_toArray, List.set_cons_zero, List.set_cons_succ]
           obtain ⟨M2, hM2⟩ : ∃ M2, M2 = W9.heap.size := ⟨_, rfl⟩
           obtain ⟨V2, hV2⟩ : ∃ V2, V2 = W9.alloc (.cells y.cells.toArray 47) := ⟨_, rfl⟩
           have Mr : Row V2 M2 47 y.cells.toArray := by rw [hV2, hM2]; exact Row.new _ _ _
           have Mb : Below W9.heap.size W9 V2 := by rw [hV2]; exact (Below.refl _ _).alloc (Nat.le_refl _) _
           rw [← hM2, ← hV2]
           clear hM2 hV2
           have hT2 := stT2.go hT9 Mb
           refine ⟨fun _ => hT2, ?_⟩
           have bV2 : Below V.heap.size V V2 := (bVd.trans (yb.mono bVd.size)).trans (Mb.mono (Nat.le_trans bVd.size yb.size))
           have hyT : MtT V2 y := MtT.go ⟨yok, yib⟩ Mb
           obtain ⟨A3, c3, V3, hrun, hr3, hst⟩ := mtm_app p2 tA tcap ts a.fuel Q lim2 M2 S X V V2 v ms y HXX.out.1 HSg2.out HSo.out (stS.go hSV bV2) hsz rQ own hall (by omega) bV2 hyT Mr
           have Hrun := Lib.hid hrun
           have HF : Hid (KeepsFrom w5.heap.size V (V3.setCell ⟨Q, 5, none⟩ (.slice A3 (ms.length + 1) c3)) ∧ KpX (fun i => X i ∨ i = w5.heap.size + 1) V (V3.setCell ⟨Q, 5, none⟩ (.slice A3 (ms.length + 1) c3)) ∧ InvM a b p2 tA tcap ts Q lim2 S X w5 (pre ++ [((none : Option Nat), (some k : Option Nat))]) (V3.setCell ⟨Q, 5, none⟩ (.slice A3 (ms.length + 1) c3))) :=
            ⟨by rw [← Hlim2.out]; exact hst.kf, hst.kp.more (fun _ h => .inl h), hst.s, kp.trans hst.kp, hst.size, ⟨_, ms ++ [y], hst.row, hst.own, hst.all, by rw [List.map_append, hmap, List.map_append, List.map_cons, List.map_nil, List.map_cons, List.map_nil, Hym.out, Hpk.out]⟩, by rw [List.all_append, hag]; simp [Hagz.out]⟩
           have r3 := hr3.2
           have hT3 := L2.out _ hr3.1 hr3.2
           have f3 := r3.free 5
           have c3' := cpQ_cell r3
           clear hrun hr3 hst Mr hyT yok yib yb Mb hT9 hT2 bV2 bVd HX HXc Hym hSV kp hsz rQ own hall hmap hag r3
           (refine wpAnyL_all (rs := [7]) (by kernel_rfl) (by simp) (fun i hi => ?_); obtain rfl : i = 7 := by simpa using hi)
           refine wpOp_plain rfl rfl (fun K2 hK2 => ?_)
           refine wp_res_gen _ (run_exec_append rfl Hrun.out) ?_
           refine hK2 _ _ ?_
           clear hK2 K2 Hrun
           simp only [Act.put, List.setIfInBounds_toArray, List.set_cons_zero, List.set_cons_succ]
           refine ⟨fun _ => hT3, ?_⟩
           (refine takeL (i := 8) (v := .pointer (some ⟨Q, 5, none⟩)) rfl (by kernel_rfl) (by kernel_rfl) (by kernel_rfl) (by kernel_rfl) (fun _ _ _ h => h) (yieldsC_of (yields_val rfl (fun W hW => by (go_simp)))) (by assumption) ?_; simp only [Act.put, List.setIfInBounds_toArray, List.set_cons_zero, List.set_cons_succ])
           (refine wpAnyL_all (rs := [9]) (by kernel_rfl) (by simp) (fun i hi => ?_); obtain rfl : i = 9 := by simpa using hi)
           refine wpOp_plain rfl rfl (fun K2 hK2 => ?_)
           unfold Oper.wp
           go_simp
           refine hK2 _ _ ?_
           clear hK2 K2
           simp only [List.setIfInBounds_toArray, List.set_cons_zero, List.set_cons_succ]
           refine ⟨fun h => absurd rfl h, ?_⟩
           refine wpAnyL_done (by kernel_rfl) ?_ _
           refine ends_normal ?_
           gi_wp2_with fail
           exact HF.out
         · obtain ⟨p, xv, rfl, hxm, hp, hpc⟩ := zpt_at (TA.out _ hTV2).mrd hx
           obtain ⟨p2', yv, rfl, hym, hp2, hpc2⟩ := zpt_at (TB.out _ hTV2).mrd hy
           have HX : Hid (∀ W, T2 W → MtOk W xv) := fun W h => (TA.out W h).mok xv hxm
           have HY : Hid (∀ W, T2 W → MtOk W yv) := fun W h => (TB.out W h).mok yv hym
           have HXc : Hid (∀ W, T2 W → ∀ j u, xv.cells[j]? = some u → W.cell? (p.add j) = some u) := fun W h => hpc W (TA.out W h).mrd
           have HYc : Hid (∀ W, T2 W → ∀ j u, yv.cells[j]? = some u → W.cell? (p2'.add j) = some u) := fun W h => hpc2 W (TB.out W h).mrd
           have Hpk : Hid (pickN a.muts b.muts ((some i : Option Nat), (some k : Option Nat)) = xv.m) := pickN_l hx
           obtain ⟨g, hg⟩ : ∃ g, g = sameM xv.m yv.m := ⟨_, rfl⟩
           have Hgz : Hid (agZ a.muts b.muts ((some i : Option Nat), (some k : Option Nat)) = g) := by rw [hg]; exact agZ_pair hx hy
           have Hg := Lib.hid hg
           rw [show zpt a.mA (some i) = .pointer (some p) from hp, show zpt b.mA (some k) = .pointer (some p2') from hp2]
           clear hx hxm hp hpc hy hym hp2 hpc2 hz hg
           gi_wp2_with fail
           refine region_holdR T (by kernel_rfl) (by kernel_rfl) (by kernel_rfl) (St.drew hTV) ?_
           clear hTV
           iterate 5 (refine hold_value rfl ?_ (fun W hW => ?_) ?_; rotate_left; (focus (go_simp; exact rfl)); simp only [Act.put, List.setIfInBounds_toArray, List.set_cons_zero, List.set_cons_succ])
           (refine hold_load_at rfl 47 _ rfl (p) rfl xv.cells _ (fun W hW => HXc.out W (TT.out W hW)) Tryz.underlying47 rfl (by kernel_rfl) ?_; simp only [Act.put, List.setIfInBounds_toArray, List.set_cons_zero, List.set_cons_succ])
           iterate 2 (refine hold_value rfl ?_ (fun W hW => ?_) ?_; rotate_left; (focus (go_simp; exact rfl)); simp only [Act.put, List.setIfInBounds_toArray, List.set_cons_zero, List.set_cons_succ])
           (refine hold_load_at rfl 47 _ rfl (p2') rfl yv.cells _ (fun W hW => HYc.out W (TT.out W hW)) Tryz.underlying47 rfl (by kernel_rfl) ?_; simp only [Act.put, List.setIfInBounds_toArray, List.set_cons_zero, List.set_cons_succ])
           (refine hold_call_new rfl 47 _ (fun W => by (go_simp; try rfl)) (.bool g) (fun W hW => (by rw [Hg.out]; exact mtSame_any xv yv W (HX.out W (TT.out W hW)) (HY.out W (TT.out W hW)))) ?_; simp only [Act.put, List.setIfInBounds_toArray, List.set_cons_zero, List.set_cons_succ])
           iterate 2 (refine hold_value rfl ?_ (fun W hW => ?_) ?_; rotate_left; (focus (go_simp; exact rfl)); simp only [Act.put, List.setIfInBounds_toArray, List.set_cons_zero, List.set_cons_succ])
           refine wpHold_nil fun V1 hT1 => ?_
           clear HYc HY Hg
           cases g
           · have rRU := T4.out _ (stS.go hSV (K0.out _ hT1))
             have bw1 := T3.out _ (stS.go hSV (K0.out _ hT1))
             have bV := K0.out _ hT1
             have rR1 := rRU.1
             have rU1 := rRU.2
             have HE21 : Hid (mergeE a b = 21) := by
              have h1 := HE.out
              rw [if_neg (fun h => by have := List.all_eq_true.1 h _ Hz.out; rw [Hgz.out] at this; cases this)] at h1
              exact h1
             clear hSV kp hsz rQ own hall hmap hag HX HXc Hpk HQ5 TA TB rRU Hgz
             gi_wp2_with (refine wpListIn_store_row rfl 31 _ _ rfl R cp0.cells rfl rfl 31 _ rR1 (by kernel_rfl) rfl (by simp [cp0, CpV.cells, Value.oneCell']) ?_; generalize hW8 : World.setRow _ _ _ = W8; have o8 : Only R V1 W8 := (by rw [← hW8]; exact only_setRow _ _ _); have r8 : Row W8 R 31 cp0.cells := (by rw [← hW8]; exact rR1.setRow _); have rU8 := rU1.only o8 hUR; have c8 := rU8.cellv (i := 0) (v := .int .i64 0) rfl; have f8 := rU8.free 0; clear hW8)
             have o9 := only_set W8 U 0 (.int .i64 21)
             refine ⟨?_, ?_, rfl, r8.only o9 (Ne.symm hUR), rU8.set 0 _, below_only (below_only bw1 o8 hRw) o9 hUw, HE21.out⟩
             · exact ((KpX.of_below bV).keeps (X := fun _ => False) (fun _ h => h.elim)).trans ((KeepsFrom.of_only rR1 o8).trans (KeepsFrom.of_only rU8 o9))
             · exact (KpX.of_below bV).trans ((KpX.only o8 (.inl ((HXX.out.2 R).2 (.inl (.inr (.inl rfl)))))).trans (KpX.only o9 (.inl ((HXX.out.2 U).2 (.inl (.inr (.inr rfl)))))))
           · have Hagz := Hgz
             clear Hgz
             gi_wp2_with fail
             obtain ⟨Vd, hVd⟩ : ∃ Vd, Vd = V1.drew := ⟨_, rfl⟩
             have bVd : Below V.heap.size V Vd := by rw [hVd]; exact K0.out _ (St.drew hT1)
             have hTd : T2 Vd := L2.out _ (stS.go hSV bVd) (rQ.below bVd rQ.lt)
             refine region_lastR (last := 9) (S := T2) (by kernel_rfl) (by kernel_rfl) ?_
             simp only [List.size_toArray, List.length_cons, List.length_nil, Nat.reduceAdd, Array.replicate_succ, Array.replicate_zero, List.push_toArray, List.nil_append, List.cons_append]
             rw [← hVd]
             clear hVd hT1
             (refine takeL (i := 0) (v := .pointer (some ⟨Q, 5, none⟩)) rfl (by kernel_rfl) (by kernel_rfl) (by kernel_rfl) (by kernel_rfl) (fun _ _ _ h => h) (yieldsC_of (yields_val rfl (fun W hW => by (go_simp)))) (by assumption) ?_; simp only [Act.put, List.setIfInBounds_toArray, List.set_cons_zero, List.set_cons_succ])
             (refine takeL (i := 1) (v := v) rfl (by kernel_rfl) (by kernel_rfl) (by kernel_rfl) (by kernel_rfl) (fun _ _ _ h => h) (yieldsC_of (yields_val rfl (fun W hW => by ((have c := HQ5.out W hW; go_simp))))) (by assumption) ?_; simp only [Act.put, List.setIfInBounds_toArray, List.set_cons_zero, List.set_cons_succ])
             (refine takeL (i := 2) (v := .pointer (some p)) rfl (by kernel_rfl) (by kernel_rfl) (by kernel_rfl) (by kernel_rfl) (fun _ _ _ h => h) (yieldsC_of (yields_val rfl (fun W hW => by (go_simp)))) (by assumption) ?_; simp only [Act.put, List.setIfInBounds_toArray, List.set_cons_zero, List.set_cons_succ])
             (refine takeL (i := 3) (v := .pointer (some p)) rfl (by kernel_rfl) (by kernel_rfl) (by kernel_rfl) (by kernel_rfl) (fun _ _ _ h => h) (yieldsC_of (yields_val rfl (fun W hW => by (go_simp)))) (by assumption) ?_; simp only [Act.put, List.setIfInBounds_toArray, List.set_cons_zero, List.set_cons_succ])
             (refine takeL (i := 4) (v := _) rfl (by kernel_rfl) (by kernel_rfl) (by kernel_rfl) (by kernel_rfl) (fun _ _ _ h => h) (yieldsC_of ((yields_atp rfl 47 _ rfl p rfl xv.cells _ (fun W hW => HXc.out W hW) Tryz.underlying47 rfl (by kernel_rfl)))) (by assumption) ?_; simp only [Act.put, List.setIfInBounds_toArray, List.set_cons_zero, List.set_cons_succ])
             (refine wpAnyL_all (rs := [5]) (by kernel_rfl) (by simp) (fun i hi => ?_); obtain rfl : i = 5 := by simpa using hi)
             refine wpOp_plain rfl rfl (fun K2 hK2 => ?_)
             refine wp_call_gen 48 #[.agg xv.cells.toArray] (w1 := Vd) (by go_simp; try rfl) (Calls.mono (copied_any xv Vd (HX.out Vd hTd)) ?_)
             rintro e W9 ⟨y, rfl, ym, yok, yib, -, yb⟩
             refine ⟨_, rfl, hK2 _ _ ?_⟩
             clear hK2 K2
             simp only [Act.put, List.setIfInBounds_toArray, List.set_cons_zero, List.set_cons_succ]
             have hT9 := stT2.go hTd yb
             refine ⟨fun _ => hT9, ?_⟩
             have Hym := Lib.hid ym
             clear ym hTd
             (refine wpAnyL_all (rs := [6]) (by kernel_rfl) (by simp) (fun i hi => ?_); obtain rfl : i = 6 := by simpa using hi)
             refine wpOp_plain rfl rfl (fun K2 hK2 => ?_)
             refine wp_res_gen (.slice (some ⟨W9.heap.size, 0, none⟩) 1 1) (run_exec_bslice [(0, .tmp 110)] rfl (bs_run (cells := y.cells.toArray) Tryz.underlying27 info_mtz (by decide) (by decide) (by kernel_rfl) W9)) ?_
             refine hK2 _ _ ?_
             clear hK2 K2
             simp only [Act.put, List.setIfInBounds_toArray, List.set_cons_zero, List.set_cons_succ]
             obtain ⟨M2, hM2⟩ : ∃ M2, M2 = W9.heap.size := ⟨_, rfl⟩
             obtain ⟨V2, hV2⟩ : ∃ V2, V2 = W9.alloc (.cells y.cells.toArray 47) := ⟨_, rfl⟩
             have Mr : Row V2 M2 47 y.cells.toArray := by rw [hV2, hM2]; exact Row.new _ _ _
             have Mb : Below W9.heap.size W9 V2 := by rw [hV2]; exact (Below.refl _ _).alloc (Nat.le_refl _) _
             rw [← hM2, ← hV2]
             clear hM2 hV2
             have hT2 := stT2.go hT9 Mb
             refine ⟨fun _ => hT2, ?_⟩
             have bV2 : Below V.heap.size V V2 := (bVd.trans (yb.mono bVd.size)).trans (Mb.mono (Nat.le_trans bVd.size yb.size))
             have hyT : MtT V2 y := MtT.go ⟨yok, yib⟩ Mb
             obtain ⟨A3, c3, V3, hrun, hr3, hst⟩ := mtm_app p2 tA tcap ts a.fuel Q lim2 M2 S X V V2 v ms y HXX.out.1 HSg2.out HSo.out (stS.go hSV bV2) hsz rQ own hall (by omega) bV2 hyT Mr
             have Hrun := Lib.hid hrun
             have HF : Hid (KeepsFrom w5.heap.size V (V3.setCell ⟨Q, 5, none⟩ (.slice A3 (ms.length + 1) c3)) ∧ KpX (fun i => X i ∨ i = w5.heap.size + 1) V (V3.setCell ⟨Q, 5, none⟩ (.slice A3 (ms.length + 1) c3)) ∧ InvM a b p2 tA tcap ts Q lim2 S X w5 (pre ++ [((some i : Option Nat), (some k : Option Nat))]) (V3.setCell ⟨Q, 5, none⟩ (.slice A3 (ms.length + 1) c3))) :=
              ⟨by rw [← Hlim2.out]; exact hst.kf, hst.kp.more (fun _ h => .inl h), hst.s, kp.trans hst.kp, hst.size, ⟨_, ms ++ [y], hst.row, hst.own, hst.all, by rw [List.map_append, hmap, List.map_append, List.map_cons, List.map_nil, List.map_cons, List.map_nil, Hym.out, Hpk.out]⟩, by rw [List.all_append, hag]; simp [Hagz.out]⟩
             have r3 := hr3.2
             have hT3 := L2.out _ hr3.1 hr3.2
             have f3 := r3.free 5
             have c3' := cpQ_cell r3
             clear hrun hr3 hst Mr hyT yok yib yb Mb hT9 hT2 bV2 bVd HX HXc Hym hSV kp hsz rQ own hall hmap hag r3
             (refine wpAnyL_all (rs := [7]) (by kernel_rfl) (by simp) (fun i hi => ?_); obtain rfl : i = 7 := by simpa using hi)
             refine wpOp_plain rfl rfl (fun K2 hK2 => ?_)
             refine wp_res_gen _ (run_exec_append rfl Hrun.out) ?_
             refine hK2 _ _ ?_
             clear hK2 K2 Hrun
             simp only [Act.put, List.setIfInBounds_toArray, List.set_cons_zero, List.set_cons_succ]
             refine ⟨fun _ => hT3, ?_⟩
             (refine takeL (i := 8) (v := .pointer (some ⟨Q, 5, none⟩)) rfl (by kernel_rfl) (by kernel_rfl) (by kernel_rfl) (by kernel_rfl) (fun _ _ _ h => h) (yieldsC_of (yields_val rfl (fun W hW => by (go_simp)))) (by assumption) ?_; simp only [Act.put, List.setIfInBounds_toArray, List.set_cons_zero, List.set_cons_succ])
             (refine wpAnyL_all (rs := [9]) (by kernel_rfl) (by simp) (fun i hi => ?_); obtain rfl : i = 9 := by simpa using hi)
             refine wpOp_plain rfl rfl (fun K2 hK2 => ?_)
             unfold Oper.wp
             go_simp
             refine hK2 _ _ ?_
             clear hK2 K2
             simp only [List.setIfInBounds_toArray, List.set_cons_zero, List.set_cons_succ]
             refine ⟨fun h => absurd rfl h, ?_⟩
             refine wpAnyL_done (by kernel_rfl) ?_ _
             refine ends_normal ?_
             gi_wp2_with fail
             exact HF.out
        case stop =>
         rintro D c pre W hD _ ⟨rfl, h1, h2, h3, h4⟩ hK
         have HR8 := Lib.hid (show Row (W.putObj D (.deferred none)) R 31 cp0.cells from Row.abide (p := fun _ => True) h1 (grownBy_putObj' W D (.deferred none)) (fun r e => by cases e; exact .inr ⟨trivial, _, hK, rfl⟩))
         have HU7 := Lib.hid (show Row (W.putObj D (.deferred none)) U 34 #[.int .i64 21] from Row.abide (p := fun _ => True) h2 (grownBy_putObj' W D (.deferred none)) (fun r e => by cases e; exact .inr ⟨trivial, _, hK, rfl⟩))
         have HF : Hid (MergeT a b w (W.putObj D (.deferred none)) (.returned (.tuple #[.agg cp0.cells, .int .i64 21]))) := MergeT.err h4 (by decide) (h3.grown (grownBy_putObj' W D (.deferred none)) h3.size (fun k e => by cases e; have := Hlim2.out; have := Hwl2.out; omega))
         have HK := Lib.hid hK
         clear h1 h2 h3 h4 hK
         gi_wp2
         refine ⟨by simp, .inl ⟨_, _, rfl, run_takeDeferred HK.out, ?_⟩⟩
         refine ⟨_, results_cells2 Tryz.results17 _ _ ⟨R, 0, none⟩ ⟨U, 0, none⟩ (.agg cp0.cells) (.int .i64 21) rfl rfl ?_ ?_, HF.out⟩
         · exact run_loadVar_row _ R 31 31 cp0.cells (0, 0) _ HR8.out Tryz.underlying31 rfl (by kernel_rfl)
         · have c7 := HU7.out.cellv (i := 0) (v := .int .i64 21) rfl
           go_simp
        case done =>
         rintro D ys V hD hys ⟨hSV, kp, hsz, ⟨v, ms, rQ, own, hall, hmap⟩, hag⟩ hK
         obtain ⟨A9, c9, rfl⟩ := own_sl own
         have hJ : Joins a b := mergeE_0.1 (by
          have h1 := HE.out
          rw [if_pos (by rw [← show full = zipN a.muts b.muts 0 0 from Hfull.out, ← hys]; exact hag)] at h1
          exact h1)
         have hmm : ms.map MtV.m = mergeM a.muts b.muts := by rw [hmap, hys, Hfull.out]; exact zipN_pick a.muts b.muts a.muts b.muts 0 0 rfl rfl
         have hml : ms.length ≤ 4000 := by
          have h1 := congrArg List.length hmm
          rw [List.length_map] at h1
          have := mergeM_length a.muts b.muts; have := hJ.ha.len; have := hJ.hb.len; omega
         have hne : ∀ i t cs, Row V i t cs → D ≠ i := fun i t cs hr e => by
          subst e
          rw [show V.heap[D]? = some (.cells cs t (0, 0)) from hr] at hK; injection hK with hK; cases hK
         have hD3 : Hid (D ≠ Q ∧ D ≠ R ∧ D ≠ U) := ⟨hne _ _ _ rQ, hne _ _ _ (T4.out _ hSV).1, hne _ _ _ (T4.out _ hSV).2⟩
         have hDl : Hid (lim2 ≤ D) := by show _ ≤ _; rw [Hlim2.out]; exact hD
         have c5 := cpQ_cell rQ
         have Hs := Lib.hid (score_any A9 c9 ms V (own_rdS own) (by omega))
         have HJ := Lib.hid hJ
         have Hmm := Lib.hid hmm
         have Hml := Lib.hid hml
         have HrQ9 := Lib.hid rQ
         have Hown9 := Lib.hid own
         have Hall9 := Lib.hid hall
         have Hkp9 := Lib.hid kp
         have HSV := Lib.hid hSV
         have HK := Lib.hid hK
         clear hJ hmm hml hne hSV kp hsz rQ own hall hmap hag hys hK hD HrQ Hown Hkp
         gi_wp2
         go_wp2_with fail
         clear c5
         refine Hs.out.mono ?_
         rintro e V2 ⟨rfl, b6⟩
         have rQ6 := HrQ9.out.below b6 HrQ9.out.lt
         have own6 := own_below Hown9.out b6
         have hK6 : V2.heap[D]? = some (.deferred (some [])) := by rw [b6.block D (Array.getElem?_eq_some_iff.1 HK.out).1]; exact HK.out
         have kp6 := Hkp9.out.trans (KpX.of_below (X := X) b6)
         have hall6 : ∀ x ∈ ms, MtT V2 x := fun x hx => (Hall9.out x hx).go b6
         have hS6 := stS.go HSV.out b6
         obtain ⟨c, hc⟩ : ∃ c : CpV, c = ⟨p2, tA, tcap, ts, a.fuel, A9, c9, ms, scoreZ (ms.map MtV.m)⟩ := ⟨_, rfl⟩
         have Hc := Lib.hid hc
         clear hc Hs b6
         go_wp2_with (refine at_store _ _ _ rfl ?_)
         refine Stop.to ?_
         refine wpList_store_part rfl 29 _ _ rfl Q 6 rfl (.agg (scoreZ (ms.map MtV.m)).cells) rfl (scoreZ (ms.map MtV.m)).cells.toList rfl 31 _ c.cells rQ6 (by kernel_rfl) (by show 6 + 3 ≤ 9; omega) (by simp [Sc.cells, Value.oneCell']) (by rw [Hc.out]; rfl) ?_
         intro V3 r7 o7
         have own7 := own_only own6 o7 (own_ne own6 rQ6 (by decide))
         have hK7 : V3.heap[D]? = some (.deferred (some [])) := (o7.block D hD3.out.1).trans hK6
         have kp7 := kp6.trans (KpX.only o7 ((HXX.out.2 Q).2 (.inl (.inl rfl))))
         have hall7 : ∀ x ∈ ms, MtT V3 x := fun x hx => (hall6 x hx).only rQ6 (by decide) o7
         have hS7 := HSo2.out _ _ hS6 o7
         clear rQ6 own6 hK6 kp6 hall6 hS6 o7
         have rR7 := (T4.out _ hS7).1
         go_wp2_with (first | (refine wpList_load_row rfl 31 _ rfl Q rfl 31 c.cells (0, 0) _ r7 Tryz.underlying31 rfl (by kernel_rfl) ?_) | (refine at_store _ _ _ rfl ?_))
         refine Stop.to ?_
         refine wpList_store_gen rfl 31 _ _ rfl R c.cells rfl rfl 31 _ rR7 (by kernel_rfl) rfl (by simp [CpV.cells, Value.oneCell']) ?_
         intro V4 r8 o8
         have own8 := own_only own7 o8 (own_ne own7 rR7 (by decide))
         have hK8 : V4.heap[D]? = some (.deferred (some [])) := (o8.block D hD3.out.2.1).trans hK7
         have kp8 := kp7.trans (KpX.only o8 ((HXX.out.2 R).2 (.inl (.inr (.inl rfl)))))
         have hall8 : ∀ x ∈ ms, MtT V4 x := fun x hx => (hall7 x hx).only rR7 (by decide) o8
         have rU8 := (T4.out _ hS7).2.only o8 hUR
         have bw8 := below_only (T3.out _ hS7) o8 hRw
         clear r7 own7 hK7 kp7 hall7 hS7 o8 rR7
         have c8 := rU8.cellv (i := 0) (v := .int .i64 0) rfl
         have f8 := rU8.free 0
         obtain ⟨V5, hV5⟩ : ∃ V5, V5 = V4.setCell ⟨U, 0, none⟩ (.int .i64 0) := ⟨_, rfl⟩
         have o9 : Only U V4 V5 := by rw [hV5]; exact only_set V4 U 0 _
         have rU9 : Row V5 U 34 #[.int .i64 0] := by rw [hV5]; exact rU8.set 0 _
         have own9 := own_only own8 o9 (own_ne own8 rU8 (by decide))
         have hK9 : V5.heap[D]? = some (.deferred (some [])) := (o9.block D hD3.out.2.2).trans hK8
         have kp9 := kp8.trans (KpX.only o9 ((HXX.out.2 U).2 (.inl (.inr (.inr rfl)))))
         have hall9 : ∀ x ∈ ms, MtT V5 x := fun x hx => (hall8 x hx).only rU8 (by decide) o9
         have rR9 := r8.only o9 (Ne.symm hUR)
         have bw9 := below_only bw8 o9 hUw
         have hg := grownBy_putObj' V5 D (.deferred none)
         have hr : ∀ r, some D = some r → False ∨ (True ∧ ∃ o : Obj, V5.heap[r]? = some o ∧ o.isCells = false) := fun r e => by cases e; exact .inr ⟨trivial, _, hK9, rfl⟩
         have HF : Hid (MergeT a b w (V5.putObj D (.deferred none)) (.returned (.tuple #[.agg c.cells, .int .i64 0]))) := by
          have kpD : KpX X V5 (V5.putObj D (.deferred none)) := ⟨fun i o hi ho => (hg.block i (Array.getElem?_eq_some_iff.1 ho).1 (fun e => hi (by rw [show i = D from (Option.some.inj e.symm).symm]; exact HXX.out.1 D (.inr hDl.out)))).trans ho, hg.size⟩
          obtain ⟨q1, q2, q3, q4, q5, q6, q7⟩ := Hpre.out _ (kp9.trans kpD)
          have own10 := own9.kept hg (.inr (own_cells own9 hK9 rfl))
          obtain ⟨_, _, e1, h1, h2, h3, h4, -⟩ := own_rdM Hown7.out
          obtain ⟨_, _, e2, g1, g2, g3, g4, -⟩ := own_rdM own10
          injection e1 with e3 e4 e5; subst e3 e5
          injection e2 with e3 e4 e5; subst e3 e5
          have hm2 : ts.map IntsV.l = a.testsL := by rw [Hmap.out]; exact List.take_of_length_le (by unfold CpV.testsL; rw [List.length_map]; exact Nat.le_refl _)
          have htl : ts.length = a.tests.length := by have h9 := congrArg List.length hm2; unfold CpV.testsL at h9; simpa using h9
          refine MergeT.ok (mergeE_0.2 HJ.out) ?_ ?_ (bw9.grown hg bw9.size (fun k e => by cases e; have := hDl.out; have := Hwl2.out; omega)) (by rw [Hc.out]; exact ⟨q4, q5, q6, q7, own_rowB own10, fun x hx ad e => ((hall9 x hx).abide hg hr).2 ad e⟩)
          · rw [Hc.out]
            refine ⟨q1, ?_, ?_, q2, q3, by have := HAB.out.1.tlen; show ts.length ≤ 1000; omega, fun x hx => ?_, fun e => List.eq_nil_of_length_eq_zero (by have := h4 e; show ts.length = 0; omega), own_rdS own10, fun x hx => ((hall9 x hx).abide hg hr).1, by have := Hml.out; show ms.length ≤ 100000; omega, fun e => List.eq_nil_of_length_eq_zero (by have := g4 e; show ms.length = 0; omega)⟩
            · rw [Hp2.out]; exact HAB.out.1.bl
            · rw [Hp2.out]; exact HAB.out.1.vl
            · have h9 : x.l ∈ a.testsL := by rw [← hm2]; exact List.mem_map_of_mem hx
              unfold CpV.testsL at h9
              obtain ⟨y, hy, e⟩ := List.mem_map.1 h9
              rw [← e]; exact HAB.out.1.tl y hy
          · rw [Hc.out]
            show (⟨p2.params, p2.V, p2.body, ts.map IntsV.l, a.fuel, ms.map MtV.m, scoreZ (ms.map MtV.m)⟩ : Cd) = _
            rw [Hp2.out, hm2, Hmm.out]; rfl
         have HR9 := Lib.hid rR9
         have HU9 := Lib.hid (show Row (V5.putObj D (.deferred none)) U 34 #[.int .i64 0] from rU9.abide hg hr)
         have HR10 := Lib.hid (show Row (V5.putObj D (.deferred none)) R 31 c.cells from rR9.abide hg hr)
         have HK9 := Lib.hid hK9
         have HV5 := Lib.hid hV5
         clear hV5 o9 rU9 own9 hK9 kp9 hall9 rR9 bw9 hg hr own8 hK8 kp8 hall8 rU8 bw8 r8
         go_wp2_with fail
         rw [← HV5.out]
         refine ⟨by simp, .inl ⟨_, _, rfl, run_takeDeferred HK9.out, ?_⟩⟩
         refine ⟨_, results_cells2 Tryz.results17 _ _ ⟨R, 0, none⟩ ⟨U, 0, none⟩ (.agg c.cells) (.int .i64 0) rfl rfl ?_ ?_, HF.out⟩
         · exact run_loadVar_row _ R 31 31 c.cells (0, 0) _ HR10.out Tryz.underlying31 rfl (by kernel_rfl)
         · have c7 := HU9.out.cellv (i := 0) (v := .int .i64 0) rfl
           go_simp
end Go.Proofs.YtcgglolckkeeiaaGreat
