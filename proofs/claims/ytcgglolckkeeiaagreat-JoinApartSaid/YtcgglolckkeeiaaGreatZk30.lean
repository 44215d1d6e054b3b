/- Lemmas for JnBll. -/
import Derived.Test.YtcgglolckkeeiaaGreatZk28
import Derived.Test.YtcgglolckkeeiaaGreatZk29
import Derived.Test.YtcgglolckkeeiaaGreatZk14
import Derived.Test.YtcgglolckkeeiaaGreatZk16
namespace Go.Proofs.YtcgglolckkeeiaaGreat
set_option linter.unusedVariables false
open Go.RowKit Go.Deep
def MtT (W : World) (x : MtV) : Prop := MtOk W x ∧ IntB W x.A
theorem MtT.same {A B : World} {x : MtV} (h : MtT A x) (hb : ∀ (a : Addr) (cs : Array Value), x.A = some a → Row A a.block 3 cs → Row B a.block 3 cs) : MtT B x :=
 ⟨⟨fun j u hj => by
  obtain ⟨a, e, hc⟩ := h.1.rd j u hj
  obtain ⟨cs, hr⟩ := h.2 a e
  exact ⟨a, e, (World.cell?_of_block (by rw [add_block]; exact (hb a cs e hr).trans (Eq.symm hr))).trans hc⟩, h.1.len, h.1.nil, h.1.dig⟩, fun a e => by
  obtain ⟨cs, hr⟩ := h.2 a e
  exact ⟨cs, hb a cs e hr⟩⟩
theorem MtT.go {A B : World} {x : MtV} (h : MtT A x) (b : Below A.heap.size A B) : MtT B x := h.same fun _ _ _ hr => hr.below b hr.lt
theorem MtT.abide {W W' : World} {x : MtV} {row : Option Nat} {q : Nat → Prop} (h : MtT W x) (hg : W.grownBy W' row) (hr : ∀ r, row = some r → False ∨ (q r ∧ ∃ o : Obj, W.heap[r]? = some o ∧ o.isCells = false)) : MtT W' x := h.same fun _ _ _ k => k.abide hg hr
theorem MtT.own {W W' : World} {x : MtV} {lim n : Nat} {v : Value} {xs : List Value} (h : MtT W x) (hown : W.ownsRow lim 47 8 v n xs) (hg : W.grownBy W' v.ownBlock) : MtT W' x := h.same fun _ _ _ k => k.grown hg (own_ne hown k (by decide))
theorem MtT.only {W W' : World} {x : MtV} {g : Nat} {t : TypeId} {cs : Array Value} (h : MtT W x) (hr : Row W g t cs) (ht : t ≠ 3) (o : Only g W W') : MtT W' x := h.same fun a cs' _ k => k.only o (fun e => by
 have h1 : W.heap[g]? = some (.cells cs' 3 (0, 0)) := by rw [← e]; exact k
 rw [show W.heap[g]? = some (.cells cs t (0, 0)) from hr] at h1
 injection h1 with h1; injection h1 with _ h1; exact ht h1)
theorem info_mtz : (Tryz.prog.info? 47).map (fun i => (i.zero, i.size)) = some (some (.agg #[.slice none 0 0, .int .i64 0, .int .i64 0, .int .i64 0, .int .i64 0, .int .i64 0, .int .i64 0, .string ByteArray.empty]), 8) := by kernel_rfl
def cpQ (p : PgV) (tA : Option Addr) (tcap : Nat) (ts : List IntsV) (f : Int) (v : Value) : Array Value := #[.int .i64 p.params, .slice p.va p.V.length p.vcap, .slice p.ba p.body.length p.bcap, .slice tA ts.length tcap, .int .i64 f, v, .int .i64 0, .int .i64 0, .int .i64 0]
theorem cpQ_cell {W : World} {Q : Nat} {t : TypeId} {p : PgV} {tA : Option Addr} {tcap : Nat} {ts : List IntsV} {f : Int} {v : Value} (h : Row W Q t (cpQ p tA tcap ts f v)) : W.cell? ⟨Q, 5, none⟩ = some v := h.cellv (i := 5) rfl
structure StepM (p : PgV) (tA : Option Addr) (tcap : Nat) (ts : List IntsV) (f : Int) (Q lim : Nat) (S : World → Prop) (X : Nat → Prop) (ms : List MtV) (v : Value) (V V4 : World) : Prop where
 s : S V4
 row : Row V4 Q 31 (cpQ p tA tcap ts f v)
 own : V4.ownsRow lim 47 8 v ms.length (mtsC ms)
 all : ∀ x ∈ ms, MtT V4 x
 kf : KeepsFrom lim V V4
 kp : KpX X V V4
 size : lim ≤ V4.heap.size
theorem mtm_app (p : PgV) (tA : Option Addr) (tcap : Nat) (ts : List IntsV) (f : Int) (Q lim M2 : Nat) (S : World → Prop) (X : Nat → Prop) (V V2 : World) (v : Value) (ms : List MtV) (y : MtV)
 (hX : ∀ i, i = Q ∨ lim ≤ i → X i) (hSg : ∀ A B v n xs, S A → A.ownsRow lim 47 8 v n xs → A.grownBy B v.ownBlock → S B) (hSo : ∀ A B, S A → Only Q A B → S B) (hS2 : S V2) (hl : lim ≤ V.heap.size)
 (rQ : Row V Q 31 (cpQ p tA tcap ts f v)) (own : V.ownsRow lim 47 8 v ms.length (mtsC ms)) (hall : ∀ x ∈ ms, MtT V x) (hk : ms.length ≤ 500000) (bm : Below V.heap.size V V2) (hy : MtT V2 y) (Mr : Row V2 M2 47 y.cells.toArray) :
 ∃ A3 c3 V3, (Builtin.append_ #[27, 27] 27 #[v, .slice (some ⟨M2, 0, none⟩) 1 1]).run Tryz.prog V2 = .ok (.slice A3 (ms.length + 1) c3) V3 ∧ (S V3 ∧ Row V3 Q 31 (cpQ p tA tcap ts f v)) ∧ StepM p tA tcap ts f Q lim S X (ms ++ [y]) (.slice A3 (ms.length + 1) c3) V (V3.setCell ⟨Q, 5, none⟩ (.slice A3 (ms.length + 1) c3)) := by
 have own2 := own_below own bm
 have rQ2 := rQ.below bm rQ.lt
 have hl2 : lim ≤ V2.heap.size := Nat.le_trans hl bm.size
 obtain ⟨v3, V3, hrun, own3, hgr, -⟩ := append_rd (P := Tryz.prog) 27 47 (.agg #[.slice none 0 0, .int .i64 0, .int .i64 0, .int .i64 0, .int .i64 0, .int .i64 0, .int .i64 0, .string ByteArray.empty]) 8 88 Tryz.underlying27 info_mt rfl (by decide) (by decide) own2 hl2 (rd_rowP (cs := y.cells) Mr) (m := 1) (cap := 1) rfl (fun u hu => mtsC_one [y] u (by simpa [mtsC] using hu)) (by simp) (by omega)
 rw [show mtsC ms ++ y.cells = mtsC (ms ++ [y]) by simp [mtsC]] at own3
 have r3 := rQ2.grown hgr (own_ne own2 rQ2 (by decide))
 obtain ⟨A3, c3, rfl⟩ := own_sl own3
 have o4 := only_set V3 Q 5 (.slice A3 (ms.length + 1) c3)
 have own4 := own_only own3 o4 (own_ne own3 r3 (by decide))
 have hS3 := hSg _ _ _ _ _ hS2 own2 hgr
 have r4 : Row (V3.setCell ⟨Q, 5, none⟩ (.slice A3 (ms.length + 1) c3)) Q 31 (cpQ p tA tcap ts f (.slice A3 (ms.length + 1) c3)) := r3.set 5 (.slice A3 (ms.length + 1) c3)
 have hgo : ∀ z, MtT V2 z → MtT (V3.setCell ⟨Q, 5, none⟩ (.slice A3 (ms.length + 1) c3)) z := fun z hz => (hz.own own2 hgr).only r3 (by decide) o4
 have hkp : KpX X V (V3.setCell ⟨Q, 5, none⟩ (.slice A3 (ms.length + 1) c3)) := (KpX.of_below bm).trans ⟨fun i o hi ho => by
  rw [o4.block i (fun e => hi (hX i (.inl e)))]
  exact (hgr.block i (Array.getElem?_eq_some_iff.1 ho).1 (fun e => hi (hX i (.inr (own_from own2 e.symm))))).trans ho, Nat.le_trans hgr.size (Nat.le_of_eq o4.size.symm)⟩
 refine ⟨A3, c3, V3, hrun, ⟨hS3, r3⟩, hSo _ _ hS3 o4, r4, by rw [List.length_append]; exact own4, fun z hz => ?_, ?_, hkp, by have := hkp.size; omega⟩
 · rcases List.mem_append.1 hz with hz | hz
   · exact hgo _ ((hall z hz).go bm)
   · rw [List.mem_singleton.1 hz]; exact hgo _ hy
 · exact ((KpX.of_below bm).keeps (X := fun _ => False) (fun _ h => h.elim)).trans ((KeepsFrom.of_own own2 hgr).trans (KeepsFrom.of_only r3 o4))
end Go.Proofs.YtcgglolckkeeiaaGreat
namespace Go.Proofs.YtcgglolckkeeiaaGreat
set_option linter.unusedVariables false
open Go.ChangeShapes Go.WideShapes Go.RowKit Go.Deep
theorem cells_string : Tryz.prog.cellsOf 9 = 1 := by kernel_rfl
theorem cells_delta : Tryz.prog.cellsOf 42 = 3 := by kernel_rfl
theorem cells_out2 : Tryz.prog.cellsOf 45 = 2 := by kernel_rfl
theorem cells_mutant : Tryz.prog.cellsOf 47 = 8 := by kernel_rfl
theorem cells_muts : Tryz.prog.cellsOf 27 = 1 := by kernel_rfl
theorem cells_tests : Tryz.prog.cellsOf 26 = 1 := by kernel_rfl
theorem cells_score : Tryz.prog.cellsOf 29 = 3 := by kernel_rfl
theorem cells_camp : Tryz.prog.cellsOf 31 = 9 := by kernel_rfl
structure DlRaw (W : World) (x : DlV) : Prop where
 rd : Rd W x.A (ints x.d.path)
 len : x.d.path.length ≤ x.cap
 cap : x.cap ≤ maxLen
 nil : x.A = none → x.cap = 0
 all : ∀ n ∈ x.d.path, InI n
 op : InI x.d.op
 n : InI x.d.n
theorem DlRaw.go {W W' : World} {x : DlV} (h : DlRaw W x) (b : Below W.heap.size W W') : DlRaw W' x := ⟨h.rd.go b, h.len, h.cap, h.nil, h.all, h.op, h.n⟩
instance St.dlraw {x : DlV} : St (fun W => DlRaw W x) := ⟨fun h b => h.go b⟩
theorem DlRaw.none {W : World} {x : DlV} (h : DlRaw W x) (e : x.A = none) : x.d.path = [] := List.eq_nil_of_length_eq_zero (by have := h.nil e; have := h.len; omega)
theorem DlRaw.ok {W : World} {x : DlV} (h : DlRaw W x) (hl : x.d.path.length ≤ 1000000) : DlOk W x := ⟨h.rd, hl⟩
structure MtIn (x : MtV) : Prop where
 len : x.m.d.path.length ≤ x.cap
 cap : x.cap ≤ maxLen
 nil : x.A = none → x.cap = 0
 all : ∀ n ∈ x.m.d.path, InI n
 op : InI x.m.d.op
 n : InI x.m.d.n
 verdict : InI x.m.verdict
 test : InI x.m.test
 kind : InI x.m.kind
 value : InI x.m.value
 dig : x.m.digest.length ≤ maxLen
def MtRaw (W : World) (x : MtV) : Prop := Rd W x.A (ints x.m.d.path) ∧ MtIn x
theorem MtRaw.none {W : World} {x : MtV} (h : MtRaw W x) (e : x.A = Option.none) : x.m.d.path = [] := List.eq_nil_of_length_eq_zero (by have := h.2.nil e; have := h.2.len; omega)
structure CpIn (c : CpV) : Prop where
 tlen : c.tests.length ≤ c.tcap
 tcap : c.tcap ≤ maxLen
 tnil : c.tA = none → c.tcap = 0
 fuel : InI c.fuel
 mlen : c.mts.length ≤ c.mcap
 mcap : c.mcap ≤ maxLen
 mnil : c.mA = none → c.mcap = 0
 mts : ∀ x ∈ c.mts, MtIn x
 alive : InI c.sc.alive
 killed : InI c.sc.killed
 timeout : InI c.sc.timeout
section
variable {H : Type} {enc : TypeId × Value → H} {w : World} {base : Nat} {spare : Nat → Bool} {held : Bool}
set_option maxRecDepth 100000 in
theorem open_deltaC {fuel : Nat} {cs : List Value} {x : DataW H × List MemPlace} (h : DataW.trod enc Tryz.prog w base spare held fuel 42 cs = some x) : ∃ x : DlV, DlRaw w x ∧ cs = x.cells.toList := by
 obtain ⟨hl, n, hf⟩ := trod_field Tryz.underlying42 h
 have hl3 : cs.length = 3 := hl.trans cells_delta
 match cs, hl3 with
 | [a, b, c], _ =>
  obtain ⟨_, h0⟩ := hf 0 _ rfl
  obtain ⟨_, h1⟩ := hf 1 _ rfl
  obtain ⟨_, h2⟩ := hf 2 _ rfl
  obtain ⟨r, hr, e0⟩ := open_intsC h0
  obtain ⟨n1, e1, w1⟩ := trod_i64 Tryz.underlying3 h1
  obtain ⟨n2, e2, w2⟩ := trod_i64 Tryz.underlying3 h2
  simp [cells_int, cells_ints] at e0 e1 e2
  exact ⟨⟨r.addr, r.cap, ⟨r.l, n1, n2⟩⟩, ⟨hr.reads, hr.len, hr.cap, hr.nil, hr.all, w1, w2⟩, by rw [e0, e1, e2]; rfl⟩
set_option maxRecDepth 100000 in
theorem open_outC {fuel : Nat} {cs : List Value} {x : DataW H × List MemPlace} (h : DataW.trod enc Tryz.prog w base spare held fuel 45 cs = some x) : ∃ k v : Int, cs = [.int .i64 k, .int .i64 v] ∧ InI k ∧ InI v := by
 obtain ⟨hl, n, hf⟩ := trod_field Tryz.underlying45 h
 have hl2 : cs.length = 2 := hl.trans cells_out2
 match cs, hl2 with
 | [a, b], _ =>
  obtain ⟨_, h0⟩ := hf 0 _ rfl
  obtain ⟨_, h1⟩ := hf 1 _ rfl
  obtain ⟨n0, e0, w0⟩ := trod_i64 Tryz.underlying3 h0
  obtain ⟨n1, e1, w1⟩ := trod_i64 Tryz.underlying3 h1
  simp [cells_int] at e0 e1
  exact ⟨n0, n1, by rw [e0, e1], w0, w1⟩
set_option maxRecDepth 100000 in
theorem open_scoreC {fuel : Nat} {cs : List Value} {x : DataW H × List MemPlace} (h : DataW.trod enc Tryz.prog w base spare held fuel 29 cs = some x) : ∃ s : Sc, cs = s.cells.toList ∧ InI s.alive ∧ InI s.killed ∧ InI s.timeout := by
 obtain ⟨hl, n, hf⟩ := trod_field Tryz.underlying29 h
 have hl3 : cs.length = 3 := hl.trans cells_score
 match cs, hl3 with
 | [a, b, c], _ =>
  obtain ⟨_, h0⟩ := hf 0 _ rfl
  obtain ⟨_, h1⟩ := hf 1 _ rfl
  obtain ⟨_, h2⟩ := hf 2 _ rfl
  obtain ⟨n0, e0, w0⟩ := trod_i64 Tryz.underlying3 h0
  obtain ⟨n1, e1, w1⟩ := trod_i64 Tryz.underlying3 h1
  obtain ⟨n2, e2, w2⟩ := trod_i64 Tryz.underlying3 h2
  simp [cells_int] at e0 e1 e2
  exact ⟨⟨n0, n1, n2⟩, by rw [e0, e1, e2]; rfl, w0, w1, w2⟩
set_option maxRecDepth 100000 in
theorem open_mutC {fuel : Nat} {cs : List Value} {x : DataW H × List MemPlace} (h : DataW.trod enc Tryz.prog w base spare held fuel 47 cs = some x) : ∃ x : MtV, cs = x.cells ∧ MtRaw w x := by
 obtain ⟨hl, n, hf⟩ := trod_field Tryz.underlying47 h
 have hl8 : cs.length = 8 := hl.trans cells_mutant
 match cs, hl8 with
 | [a0, a1, a2, a3, a4, a5, a6, a7], _ =>
  obtain ⟨_, h0⟩ := hf 0 _ rfl
  obtain ⟨_, h1⟩ := hf 1 _ rfl
  obtain ⟨_, h2⟩ := hf 2 _ rfl
  obtain ⟨_, h3⟩ := hf 3 _ rfl
  obtain ⟨_, h4⟩ := hf 4 _ rfl
  obtain ⟨x, hx, e0⟩ := open_deltaC h0
  obtain ⟨n1, e1, w1⟩ := trod_i64 Tryz.underlying3 h1
  obtain ⟨n2, e2, w2⟩ := trod_i64 Tryz.underlying3 h2
  obtain ⟨k, v, e3, w3, w3'⟩ := open_outC h3
  obtain ⟨s, e4, _, w4⟩ := DataW.trod_string Tryz.underlying9 h4
  simp [cells_int, cells_string, cells_delta, cells_out2, DlV.cells] at e0 e1 e2 e3 e4
  refine ⟨⟨x.A, x.cap, ⟨x.d, n1, n2, k, v, s.data.toList⟩⟩, ?_, hx.rd, hx.len, hx.cap, hx.nil, hx.all, hx.op, hx.n, w1, w2, w3, w3', ?_⟩
  · rw [e0.1, e0.2.1, e0.2.2, e1, e2, e3.1, e3.2, e4]; rfl
  · show s.data.toList.length ≤ maxLen
    rw [Array.length_toList]; exact w4
set_option maxRecDepth 100000 in
theorem open_mutsC {fuel : Nat} {cs : List Value} {x : DataW H × List MemPlace} (h : DataW.trod enc Tryz.prog w base spare held fuel 27 cs = some x) :
 ∃ (A : Option Addr) (cap : Nat) (l : List MtV), cs = [.slice A l.length cap] ∧ l.length ≤ cap ∧ cap ≤ maxLen ∧ (A = none → cap = 0) ∧ Rd w A (mtsC l) ∧ ∀ e ∈ l, MtRaw w e := by
 obtain ⟨A, cap, xss, rfl, h1, h2, hA, h3, h4, h5⟩ := open_rows Tryz.underlying27 h
 obtain ⟨l, rfl, hok⟩ := rows_map MtV.cells (MtRaw w) xss (fun xs hxs => by obtain ⟨n, y, hy⟩ := h5 xs hxs; exact open_mutC hy)
 rw [List.length_map] at h1
 exact ⟨A, cap, l, by rw [List.length_map], h1, h2, hA, by rw [mtsC, List.flatMap_def]; exact h4, hok⟩
set_option maxRecDepth 100000 in
theorem open_testsC {fuel : Nat} {cs : List Value} {x : DataW H × List MemPlace} (h : DataW.trod enc Tryz.prog w base spare held fuel 26 cs = some x) :
 ∃ (A : Option Addr) (cap : Nat) (l : List IntsV), cs = [.slice A l.length cap] ∧ l.length ≤ cap ∧ cap ≤ maxLen ∧ (A = none → cap = 0) ∧ Rd w A (tstC l) ∧ ∀ e ∈ l, e.ok w := by
 obtain ⟨A, cap, xss, rfl, h1, h2, hA, h3, h4, h5⟩ := open_rows Tryz.underlying26 h
 obtain ⟨l, rfl, hok⟩ := rows_map (fun x : IntsV => [x.val]) (fun x => x.ok w) xss (fun xs hxs => by obtain ⟨n, y, hy⟩ := h5 xs hxs; obtain ⟨r, hr, e⟩ := open_intsC hy; exact ⟨r, e, hr⟩)
 rw [List.length_map] at h1
 refine ⟨A, cap, l, by rw [List.length_map], h1, h2, hA, ?_, hok⟩
 rw [show tstC l = (l.map fun x : IntsV => [x.val]).flatten from by
  clear h1 h2 hA h3 h4 h5 hok h
  induction l with
  | nil => rfl
  | cons x l ih => simp only [tstC, List.map_cons, List.flatten_cons, List.singleton_append] at ih ⊢; rw [← ih]]
 exact h4
set_option maxRecDepth 100000 in
theorem open_camp {r : Go.Reach} {b0 : Nat} {v : Value} {d : DataW H} {p : List MemPlace} (hv : Value.okWide Tryz.prog w r b0 31 v) (h : DataW.Trod enc Tryz.prog w base spare held 31 v d p) : ∃ c : CpV, (CpRaw w c ∧ CpIn c) ∧ v = .agg c.cells := by
 obtain ⟨cs, rfl, fuel, x, hx⟩ := trod_val Tryz.underlying31 hv h
 obtain ⟨hl, n, hf⟩ := trod_field Tryz.underlying31 hx
 have hl9 : cs.length = 9 := hl.trans cells_camp
 match cs, hl9 with
 | [a0, a1, a2, a3, a4, a5, a6, a7, a8], _ =>
  obtain ⟨_, h0⟩ := hf 0 _ rfl
  obtain ⟨_, h1⟩ := hf 1 _ rfl
  obtain ⟨_, h2⟩ := hf 2 _ rfl
  obtain ⟨_, h3⟩ := hf 3 _ rfl
  obtain ⟨_, h4⟩ := hf 4 _ rfl
  obtain ⟨q, hq, e0⟩ := open_progC h0
  obtain ⟨tA, tcap, ts, e1, g1, g2, g3, g4, g5⟩ := open_testsC h1
  obtain ⟨n2, e2, w2⟩ := trod_i64 Tryz.underlying3 h2
  obtain ⟨mA, mcap, ms, e3, k1, k2, k3, k4, k5⟩ := open_mutsC h3
  obtain ⟨s, e4, s1, s2, s3⟩ := open_scoreC h4
  simp [cells_prog, cells_int, cells_tests, cells_muts, cells_score, PgV.cells, Sc.cells] at e0 e1 e2 e3 e4
  refine ⟨⟨q, tA, tcap, ts, n2, mA, mcap, ms, s⟩, ⟨⟨hq, g4, g5, fun e => List.eq_nil_of_length_eq_zero (by have := g3 e; show ts.length = 0; omega), k4, fun y hy => ⟨(k5 y hy).1, fun e => (k5 y hy).none e⟩, fun e => List.eq_nil_of_length_eq_zero (by have := k3 e; show ms.length = 0; omega)⟩,
   ⟨g1, g2, g3, w2, k1, k2, k3, fun y hy => (k5 y hy).2, s1, s2, s3⟩⟩, ?_⟩
  rw [e0.1, e0.2.1, e0.2.2, e1, e2, e3, e4.1, e4.2.1, e4.2.2]; rfl
set_option maxRecDepth 100000 in
theorem open_delta {r : Go.Reach} {b0 : Nat} {v : Value} {d : DataW H} {p : List MemPlace} (hv : Value.okWide Tryz.prog w r b0 42 v) (h : DataW.Trod enc Tryz.prog w base spare held 42 v d p) : ∃ x : DlV, DlRaw w x ∧ v = .agg x.cells := by
 obtain ⟨cs, rfl, fuel, x, hx⟩ := trod_val Tryz.underlying42 hv h
 obtain ⟨y, hy, rfl⟩ := open_deltaC hx
 exact ⟨y, hy, rfl⟩
end
end Go.Proofs.YtcgglolckkeeiaaGreat
namespace Go.Proofs.YtcgglolckkeeiaaGreat
set_option linter.unusedVariables false
open Go.RowKit Go.Deep
def bodyE : List Nd := [⟨20, 1⟩, ⟨25, 0⟩, ⟨3, 0⟩]
def treeE : Tr := .node ⟨20, 1⟩ [.node ⟨25, 0⟩ [.node ⟨3, 0⟩ []]]
def pE (g1 g2 : Nat) : PgV := ⟨1, some ⟨g1, 0, none⟩, 1, [0], some ⟨g2, 0, none⟩, 3, bodyE⟩
def mE : Mt := ⟨⟨[0], 5, 0⟩, 0, -1, 0, 0, []⟩
def mvE (g3 : Nat) : MtV := ⟨some ⟨g3, 0, none⟩, 1, mE⟩
def tvE (g4 : Nat) : IntsV := ⟨some ⟨g4, 0, none⟩, 1, [1]⟩
def cE (g1 g2 g3 g4 g5 g6 : Nat) : CpV := ⟨pE g1 g2, some ⟨g5, 0, none⟩, 1, [tvE g4], 9, some ⟨g6, 0, none⟩, 1, [mvE g3], ⟨1, 0, 0⟩⟩
def dE (g1 g2 g4 g5 : Nat) (f : Int) : CpV := ⟨pE g1 g2, some ⟨g5, 0, none⟩, 1, [tvE g4], f, none, 0, [], ⟨0, 0, 0⟩⟩
theorem rd_row0 {W : World} {g : Nat} {t : TypeId} {cs : List Value} (h : Row W g t cs.toArray) : Rd W (some ⟨g, 0, none⟩) cs := rd_rowP h
theorem pE_ok {g1 g2 : Nat} {W : World} (r1 : Row W g1 3 (ints [0]).toArray) (r2 : Row W g2 74 (bodyE.flatMap Nd.cells).toArray) : (pE g1 g2).ok W :=
 ⟨by unfold InI pE; dsimp only; omega, by simp [pE], by unfold maxLen; simp [pE], fun h => (by cases h), rd_row0 r1, by simp [pE, InI], by simp [pE, bodyE], by unfold maxLen; simp [pE], fun h => (by cases h), rd_row0 r2, by simp [pE, bodyE, InI]⟩
theorem tvE_ok {g4 : Nat} {W : World} (r4 : Row W g4 3 (ints [1]).toArray) : (tvE g4).ok W :=
 ⟨by simp [tvE], by unfold maxLen; simp [tvE], fun h => (by cases h), rd_row0 r4, by simp [tvE, InI]⟩
theorem mvE_ok {g3 : Nat} {W : World} (r3 : Row W g3 3 (ints [0]).toArray) : MtOk W (mvE g3) :=
 ⟨rd_row0 r3, by simp [mvE, mE], fun h => (by cases h), by simp [mvE, mE]⟩
theorem cE_ok {g1 g2 g3 g4 g5 g6 : Nat} {W : World} (r1 : Row W g1 3 (ints [0]).toArray) (r2 : Row W g2 74 (bodyE.flatMap Nd.cells).toArray) (r3 : Row W g3 3 (ints [0]).toArray) (r4 : Row W g4 3 (ints [1]).toArray)
 (r5 : Row W g5 22 (tstC [tvE g4]).toArray) (r6 : Row W g6 47 (mtsC [mvE g3]).toArray) : CpOk W (cE g1 g2 g3 g4 g5 g6) :=
 ⟨pE_ok r1 r2, by simp [cE, pE, bodyE], by simp [cE, pE], rd_row0 r5, fun x hx => by rw [List.mem_singleton.1 hx]; exact tvE_ok r4, by simp [cE], fun x hx => by rw [List.mem_singleton.1 hx]; simp [tvE], fun h => (by cases h), rd_row0 r6, fun x hx => by rw [List.mem_singleton.1 hx]; exact mvE_ok r3, by simp [cE], fun h => (by cases h)⟩
theorem dE_ok {g1 g2 g4 g5 : Nat} {f : Int} {W : World} (r1 : Row W g1 3 (ints [0]).toArray) (r2 : Row W g2 74 (bodyE.flatMap Nd.cells).toArray) (r4 : Row W g4 3 (ints [1]).toArray)
 (r5 : Row W g5 22 (tstC [tvE g4]).toArray) : CpOk W (dE g1 g2 g4 g5 f) :=
 ⟨pE_ok r1 r2, by simp [dE, pE, bodyE], by simp [dE, pE], rd_row0 r5, fun x hx => by rw [List.mem_singleton.1 hx]; exact tvE_ok r4, by simp [dE], fun x hx => by rw [List.mem_singleton.1 hx]; simp [tvE], fun h => (by cases h), Rd.nil _ _, fun x hx => by simp [dE] at hx, by simp [dE], fun _ => rfl⟩
theorem treeE_fits : treeE.fits := by
 refine .mk _ _ (by rfl) (fun k hk => ?_)
 rw [List.mem_singleton.1 hk]
 refine .mk _ _ (by rfl) (fun k hk => ?_)
 rw [List.mem_singleton.1 hk]
 exact .mk _ _ (by rfl) (fun k hk => by simp at hk)
theorem goodE (g1 g2 : Nat) : Good (pE g1 g2) treeE := ⟨⟨treeE_fits, [], by rfl⟩, by rfl, by show varsOk 1 [0]; decide, rfl, by show ofT [0] treeE = 2; decide +kernel⟩
theorem fineE (g1 g2 : Nat) : Fine (pE g1 g2) treeE := ⟨goodE g1 g2, by simp [pE, bodyE], by show ∀ x ∈ bodyE, ¬ arityZ x < 0; decide, by decide +kernel⟩
theorem inE (g1 g2 : Nat) : inP (pE g1 g2) ⟨[0], 5, 0⟩ = true := (inP_fine (fineE g1 g2) _).2 (by
 show (⟨[0], 5, 0⟩ : Dl) ∈ allZ bodyE treeE
 unfold allZ
 rw [List.mem_flatMap]
 refine ⟨(1, [0]), by simp [pathsT, pathsK, treeE], ?_⟩
 rw [List.mem_map]
 refine ⟨(5, 0), ?_, rfl⟩
 unfold choicesAt choicesZ
 rw [List.mem_flatMap]
 refine ⟨5, by rw [List.mem_map]; exact ⟨4, by simp, rfl⟩, ?_⟩
 rw [List.mem_map]
 refine ⟨0, ?_, rfl⟩
 rw [List.mem_filter]
 exact ⟨by unfold triesZ; rw [sortU_mem]; simp, by decide⟩)
theorem okE (g1 g2 g3 g4 g5 g6 : Nat) : OkC (cE g1 g2 g3 g4 g5 g6) :=
 ⟨checkP_ok.2 ⟨_, fineE g1 g2⟩, by show suiteZ 1 [[1]] 9 = 0; decide, by show [mE].length ≤ 2000; decide, trivial, fun m hm => by rw [List.mem_singleton.1 hm]; exact inE g1 g2, fun m hm => by rw [List.mem_singleton.1 hm]; show oddZ 1 mE = false; decide, by show (⟨1, 0, 0⟩ : Sc) = scoreZ [mE]; rfl⟩
theorem okD (g1 g2 g4 g5 : Nat) {f : Int} (h : f = 9 ∨ f = 8) : OkC (dE g1 g2 g4 g5 f) :=
 ⟨checkP_ok.2 ⟨_, fineE g1 g2⟩, by show suiteZ 1 [[1]] f = 0; rcases h with rfl | rfl <;> decide, by show ([] : List Mt).length ≤ 2000; decide, trivial, fun m hm => by simp [dE, CpV.muts] at hm, fun m hm => by simp [dE, CpV.muts] at hm, by show (⟨0, 0, 0⟩ : Sc) = scoreZ []; rfl⟩
theorem joinsE (g1 g2 g3 g4 g5 g6 h4 h5 : Nat) : Joins (dE g1 g2 h4 h5 9) (cE g1 g2 g3 g4 g5 g6) :=
 ⟨okD _ _ _ _ (.inl rfl), okE _ _ _ _ _ _, sameS_iff.2 ⟨⟨rfl, rfl, rfl⟩, rfl, rfl⟩, fun x hx => by simp [dE, CpV.muts] at hx⟩
theorem mergeE_E (g1 g2 g3 g4 g5 g6 h4 h5 : Nat) : mergeD (dE g1 g2 h4 h5 9).data (cE g1 g2 g3 g4 g5 g6).data = (cE g1 g2 g3 g4 g5 g6).data := by
 unfold mergeD
 show (⟨1, [0], bodyE, [[1]], 9, mergeM [] [mE], scoreZ (mergeM [] [mE])⟩ : Cd) = ⟨1, [0], bodyE, [[1]], 9, [mE], ⟨1, 0, 0⟩⟩
 rw [mergeM_nil']
 rfl
theorem mergeE_8 (g1 g2 g3 g4 g5 g6 h4 h5 : Nat) : mergeE (dE g1 g2 h4 h5 8) (cE g1 g2 g3 g4 g5 g6) = 26 :=
 mergeE_no (okD _ _ _ _ (.inr rfl)) (okE _ _ _ _ _ _) (fun h => absurd (sameS_iff.1 h).2.2 (by show ¬ (8 : Int) = 9; decide))
theorem checkP_cp0 : checkP cp0.p = 10 := by rw [checkP_0 (by rw [checkA_0 rfl]; decide), checkA_0 rfl]
theorem mergeE_z (b : CpV) : mergeE cp0 b = 23 := by
 have h : cpCheckZ cp0 = 23 := by
  unfold cpCheckZ
  rw [checkP_cp0]; rfl
 have h2 : cpChecks cp0 b = 23 := by unfold cpChecks; rw [if_pos (by rw [h]; decide), h]
 exact (mergeE_chk (by rw [h2]; decide)).trans h2
theorem diffE_E (g1 g2 g3 g4 g5 g6 h4 h5 : Nat) : diffE (cE g1 g2 g3 g4 g5 g6) (dE g1 g2 h4 h5 9) = 0 := by
 unfold diffE
 rw [if_neg (by rw [checks_iff.2 ⟨okE _ _ _ _ _ _, okD _ _ _ _ (.inl rfl)⟩]; simp), if_pos (by rfl)]
theorem diffL_E : diffL [mE] [] = [(⟨[0], 5, 0⟩, 0, -1)] := by
 unfold diffL
 rw [zipN, zipN]
 rfl
theorem info_iE : (Tryz.prog.info? 3).map (fun i => (i.zero, i.size)) = some (some (.int .i64 0), 1) := by kernel_rfl
theorem info_nE : (Tryz.prog.info? 74).map (fun i => (i.zero, i.size)) = some (some (.agg #[.int .i64 0, .int .i64 0]), 2) := by kernel_rfl
theorem info_tE : (Tryz.prog.info? 22).map (fun i => (i.zero, i.size)) = some (some (.slice none 0 0), 1) := by kernel_rfl
theorem zero_pgE {w : World} : (zeroValue 25).run Tryz.prog w = .ok (.agg #[.int .i64 0, .slice none 0 0, .slice none 0 0]) w := by kernel_rfl
end Go.Proofs.YtcgglolckkeeiaaGreat
