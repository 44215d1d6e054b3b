/- Lemmas for CoAll. -/
import Derived.Test.YtcgglolckkeeiaaGreatZo8
import Derived.Test.YtcgglolckkeeiaaGreatZo6
import Derived.Test.YtcgglolckkeeiaaGreatZo3
import Derived.Test.YtcgglolckkeeiaaGreatZo7
import Derived.Lib.AppendZerosOnto
import Derived.Lib.SliceRun
set_option linter.unusedVariables false
set_option linter.unusedSimpArgs false
namespace Go.Proofs.YtcgglolckkeeiaaGreat
open Go.RowKit Go.Deep
def sameC (a b : CpV) : Bool := sameP a.p b.p && (decide (a.testsL = b.testsL) && (a.fuel == b.fuel && ((a.sc.alive == b.sc.alive && (a.sc.killed == b.sc.killed && a.sc.timeout == b.sc.timeout)) && decide (a.muts = b.muts))))
theorem cp_head {W : World} {G : Nat} {t : TypeId} {c : CpV} (h : Row W G t c.cells) : ∀ j v, c.p.cells.toList[j]? = some v → W.cell? ((⟨G, 0, none⟩ : Addr).add j) = some v :=
 Row.from_ (cur := c.cells) h 0 (fun j v hj => by
  match j, hj with
  | 0, hj | 1, hj | 2, hj => exact hj
  | j + 3, hj => simp [PgV.cells] at hj)
set_option maxRecDepth 100000 in
set_option maxHeartbeats 4000000 in
theorem cpSame_any (a b : CpV) (w : World) (ha : CpOk w a) (hb : CpOk w b) :
 Calls Tryz.prog 27 #[.agg a.cells, .agg b.cells] w fun e w' => e = .returned (.bool (sameC a b)) ∧ Below w.heap.size w w' := by
 have Ha := Lib.hid ha
 have Hb := Lib.hid hb
 clear ha hb
 go_enter Tryz.func27, Tryz.ntmps27
 go_wp2_with (refine at_box _ _ rfl ?_)
 refine Stop.to ?_
 refine wpList_box_gen rfl 31 _ rfl a.cells rfl ?_
 intro G Gw Gh Gr Gb
 go_wp2_with (refine at_box _ _ rfl ?_)
 refine Stop.to ?_
 refine wpList_box_gen rfl 31 _ rfl b.cells rfl ?_
 intro J Jw Jh Jr Jb
 have rG := Gr.below Jb (Nat.lt_of_lt_of_le Gr.lt Jh)
 have rJ := Jr
 have b1 := (Below.refl w.heap.size w).trans (Gb.mono Gh)
 have b2 := b1.trans ((Jb.mono Jh).mono b1.size)
 clear Gr Gb Gh Jb Jh Jr b1
 have Hs := Lib.hid (pgSame_any a.p b.p Jw (Ha.out.go b2).pok (Hb.out.go b2).pok Ha.out.bl Ha.out.vl)
 go_wp2_with (first | (refine wpList_load_at rfl 25 _ rfl ⟨G, 0, none⟩ rfl a.p.cells.toList _ (cp_head rG) Tryz.underlying25 rfl (by kernel_rfl) ?_) | (refine wpList_load_at rfl 25 _ rfl ⟨J, 0, none⟩ rfl b.p.cells.toList _ (cp_head rJ) Tryz.underlying25 rfl (by kernel_rfl) ?_))
 refine Hs.out.mono ?_
 rintro e w1 ⟨rfl, b3⟩
 have b4 := b2.trans (b3.mono b2.size)
 replace rG := rG.below b3 rG.lt
 replace rJ := rJ.below b3 rJ.lt
 clear b3 b2 Hs
 have b2 := b4
 clear b4
 generalize hs : sameP a.p b.p = s
 have Hs := Lib.hid hs
 clear hs
 cases s
 · go_wp2_with fail
   go_ret
   exact ⟨ret_b (by unfold sameC; rw [Hs.out]; rfl), b2⟩
 have ct := rG.cellv (i := 3) (v := .slice a.tA a.tests.length a.tcap) rfl
 have cf := rG.cellv (i := 4) (v := .int .i64 a.fuel) rfl
 have cm := rG.cellv (i := 5) (v := .slice a.mA a.mts.length a.mcap) rfl
 have cx := rG.cellv (i := 6) (v := .int .i64 a.sc.alive) rfl
 have cy := rG.cellv (i := 7) (v := .int .i64 a.sc.killed) rfl
 have cz := rG.cellv (i := 8) (v := .int .i64 a.sc.timeout) rfl
 have dt := rJ.cellv (i := 3) (v := .slice b.tA b.tests.length b.tcap) rfl
 have df := rJ.cellv (i := 4) (v := .int .i64 b.fuel) rfl
 have dm := rJ.cellv (i := 5) (v := .slice b.mA b.mts.length b.mcap) rfl
 have dx := rJ.cellv (i := 6) (v := .int .i64 b.sc.alive) rfl
 have dy := rJ.cellv (i := 7) (v := .int .i64 b.sc.killed) rfl
 have dz := rJ.cellv (i := 8) (v := .int .i64 b.sc.timeout) rfl
 have Ht := Lib.hid (tsSame_any a.tA b.tA a.tcap b.tcap a.tests b.tests w1 (Ha.out.go b2).trd (Hb.out.go b2).trd (Ha.out.go b2).tok (Hb.out.go b2).tok (by have := Ha.out.tlen; omega) (fun x hx => by have := Ha.out.tl x hx; omega))
 go_wp2_with fail
 clear ct cf cm cx cy cz dt df dm dx dy dz
 refine Ht.out.mono ?_
 rintro e w2 ⟨rfl, b3⟩
 have b4 := b2.trans (b3.mono b2.size)
 replace rG := rG.below b3 rG.lt
 replace rJ := rJ.below b3 rJ.lt
 clear b3 b2 Ht
 have b2 := b4
 clear b4
 generalize ht : decide (a.tests.map IntsV.l = b.tests.map IntsV.l) = t
 have Ht := Lib.hid ht
 clear ht
 have ct := rG.cellv (i := 3) (v := .slice a.tA a.tests.length a.tcap) rfl
 have cf := rG.cellv (i := 4) (v := .int .i64 a.fuel) rfl
 have cm := rG.cellv (i := 5) (v := .slice a.mA a.mts.length a.mcap) rfl
 have cx := rG.cellv (i := 6) (v := .int .i64 a.sc.alive) rfl
 have cy := rG.cellv (i := 7) (v := .int .i64 a.sc.killed) rfl
 have cz := rG.cellv (i := 8) (v := .int .i64 a.sc.timeout) rfl
 have dt := rJ.cellv (i := 3) (v := .slice b.tA b.tests.length b.tcap) rfl
 have df := rJ.cellv (i := 4) (v := .int .i64 b.fuel) rfl
 have dm := rJ.cellv (i := 5) (v := .slice b.mA b.mts.length b.mcap) rfl
 have dx := rJ.cellv (i := 6) (v := .int .i64 b.sc.alive) rfl
 have dy := rJ.cellv (i := 7) (v := .int .i64 b.sc.killed) rfl
 have dz := rJ.cellv (i := 8) (v := .int .i64 b.sc.timeout) rfl
 cases t
 · go_wp2_with fail
   go_ret
   exact ⟨ret_b (by unfold sameC CpV.testsL; rw [Hs.out, Ht.out]; rfl), b2⟩
 generalize hf : (a.fuel == b.fuel) = f
 have Hf := Lib.hid hf
 cases f
 · go_wp2_with fail
   go_ret
   exact ⟨ret_b (by unfold sameC CpV.testsL; rw [Hs.out, Ht.out, Hf.out]; rfl), b2⟩
 generalize h1 : (a.sc.alive == b.sc.alive) = u1
 have H1 := Lib.hid h1
 cases u1
 · go_wp2_with fail
   go_ret
   exact ⟨ret_b (by unfold sameC CpV.testsL; rw [Hs.out, Ht.out, Hf.out, H1.out]; rfl), b2⟩
 generalize h2 : (a.sc.killed == b.sc.killed) = u2
 have H2 := Lib.hid h2
 cases u2
 · go_wp2_with fail
   go_ret
   exact ⟨ret_b (by unfold sameC CpV.testsL; rw [Hs.out, Ht.out, Hf.out, H1.out, H2.out]; rfl), b2⟩
 generalize h3 : (a.sc.timeout == b.sc.timeout) = u3
 have H3 := Lib.hid h3
 cases u3
 · go_wp2_with fail
   go_ret
   exact ⟨ret_b (by unfold sameC CpV.testsL; rw [Hs.out, Ht.out, Hf.out, H1.out, H2.out, H3.out]; rfl), b2⟩
 have Hm := Lib.hid (eqMuts_any a.mA b.mA a.mcap b.mcap _ _ a.mts b.mts w2 rfl rfl (Ha.out.go b2).mrd (Hb.out.go b2).mrd (Ha.out.go b2).mok (Hb.out.go b2).mok (by have := Ha.out.mlen; omega))
 go_wp2_with fail
 clear ct cf cm cx cy cz dt df dm dx dy dz
 refine Hm.out.mono ?_
 rintro e w3 ⟨rfl, b3⟩
 have b4 := b2.trans (b3.mono b2.size)
 replace rG := rG.below b3 rG.lt
 replace rJ := rJ.below b3 rJ.lt
 clear b3 b2 Hm
 have b2 := b4
 clear b4
 generalize ht : decide (a.mts.map MtV.m = b.mts.map MtV.m) = t
 have Hm := Lib.hid ht
 clear ht hf h1 h2 h3
 go_wp2_with fail
 go_ret
 exact ⟨ret_b (by unfold sameC CpV.testsL CpV.muts; rw [Hs.out, Ht.out, Hf.out, H1.out, H2.out, H3.out, Hm.out]; rfl), b2⟩
end Go.Proofs.YtcgglolckkeeiaaGreat
namespace Go.Proofs.YtcgglolckkeeiaaGreat
open Go.RowKit Go.Deep
def okM (x : MtV) : Prop := x.m.d.path.length ≤ 60 ∧ x.m.digest.length ≤ 100
instance (x : MtV) : Decidable (okM x) := by unfold okM; infer_instance
def fewM (l : List MtV) : Bool := decide (l.length ≤ 250 ∧ ∀ x ∈ l, okM x)
theorem take_all_step {α : Type} {p : α → Prop} {l : List α} {k : Nat} {x : α} (h : ∀ y ∈ l.take k, p y) (hx : l[k]? = some x) (hp : p x) : ∀ y ∈ l.take (k + 1), p y := by
 rw [List.take_add_one, hx]
 intro y hy
 rcases List.mem_append.1 hy with hy | hy
 · exact h y hy
 · simp at hy; subst hy; exact hp
theorem add_zero' (a : Addr) : a.add 0 = a := by unfold Addr.add; rw [if_pos rfl]
set_option maxRecDepth 100000 in
set_option maxHeartbeats 2000000 in
theorem fewM_any (A : Option Addr) (cap : Nat) (l : List MtV) (w : World) (hr : Rd w A (mtsC l)) :
 Calls Tryz.prog 32 #[.slice A l.length cap] w fun e w' => e = .returned (.bool (fewM l)) ∧ w = w' := by
 have Hr := Lib.hid hr
 clear hr
 by_cases h40 : l.length ≤ 250
 rotate_left
 · have hz : fewM l = false := by unfold fewM; rw [decide_eq_false_iff_not]; exact fun h => h40 h.1
   have Hz := Lib.hid hz
   have h41 : (250 : Int) < (l.length : Int) := by omega
   clear hz h40
   go_enter Tryz.func32, Tryz.ntmps32
   go_wp2
   go_ret
   exact ⟨ret_b Hz.out, rfl⟩
 have h41 : (l.length : Int) ≤ 250 := by omega
 have H40 := Lib.hid h40
 clear h40
 go_enter Tryz.func32, Tryz.ntmps32
 go_wp2
 go_loop [3] (fun i => ∃ k : Nat, i = .int .i64 (k : Int) ∧ k ≤ l.length ∧ Hid (∀ x ∈ l.take k, okM x)) (fun i => l.length - (intOf i).toNat)
 case atStart => exact ⟨0, rfl, Nat.zero_le _, Lib.hid (fun x hx => by simp at hx)⟩
 case round =>
  obtain ⟨k, rfl, hk, Hall⟩ := hrel
  by_cases hlt : k < l.length
  · obtain ⟨x, hx⟩ : ∃ x, l[k]? = some x := ⟨_, List.getElem?_eq_getElem hlt⟩
    obtain ⟨ad, had, hc0⟩ := mt_at Hr.out hx
    have hc1 : w.cell? (ad.add (k * 8)) = some (.slice x.A x.m.d.path.length x.cap) := by have := hc0 0 _ rfl; rwa [add_zero'] at this
    have hc2 : w.cell? ((ad.add (k * 8)).add 7) = some (.string ⟨x.m.digest.toArray⟩) := hc0 7 _ rfl
    have hc3 : w.cell? ⟨(ad.add (k * 8)).block, (ad.add (k * 8)).off + 7, none⟩ = some (.string ⟨x.m.digest.toArray⟩) := hc2
    clear hc2
    have Hx := Lib.hid hx
    have hltI : (k : Int) < (l.length : Int) := by omega
    clear hx hlt hc0
    subst had
    by_cases hs : x.m.d.path.length ≤ 60
    · have hs1 : (x.m.d.path.length : Int) ≤ 60 := by omega
      by_cases ht : x.m.digest.length ≤ 100
      · have ht1 : (x.m.digest.length : Int) ≤ 100 := by omega
        have Hn := Lib.hid (take_all_step (p := okM) Hall.out Hx.out ⟨hs, ht⟩)
        clear hs ht
        go_wp2
        go_round
        case rel => exact ⟨k + 1, by go_num, by omega, Hn⟩
        case measure => simp [intOf]; omega
      · have ht1 : (100 : Int) < (x.m.digest.length : Int) := by omega
        have hz : fewM l = false := by unfold fewM; rw [decide_eq_false_iff_not]; exact fun h => ht (h.2 x (List.mem_of_getElem? Hx.out)).2
        have Hz := Lib.hid hz
        clear hz hs ht
        go_wp2
        go_ret
        exact ⟨ret_b Hz.out, rfl⟩
    · have hs1 : (60 : Int) < (x.m.d.path.length : Int) := by omega
      have hz : fewM l = false := by unfold fewM; rw [decide_eq_false_iff_not]; exact fun h => hs (h.2 x (List.mem_of_getElem? Hx.out)).1
      have Hz := Lib.hid hz
      clear hz hs
      go_wp2
      go_ret
      exact ⟨ret_b Hz.out, rfl⟩
  · obtain rfl : k = l.length := by omega
    have hz : fewM l = true := by unfold fewM; rw [decide_eq_true_eq]; exact ⟨H40.out, by have := Hall.out; rwa [List.take_length] at this⟩
    have Hz := Lib.hid hz
    clear hz hlt hk
    go_wp2
    go_ret
    exact ⟨ret_b Hz.out, rfl⟩
end Go.Proofs.YtcgglolckkeeiaaGreat
namespace Go.Proofs.YtcgglolckkeeiaaGreat
open Go.ChangeShapes Go.WideShapes Go.RowKit Go.Deep
theorem cells_string : Tryz.prog.cellsOf 9 = 1 := by kernel_rfl
theorem cells_delta : Tryz.prog.cellsOf 42 = 3 := by kernel_rfl
theorem cells_out2 : Tryz.prog.cellsOf 45 = 2 := by kernel_rfl
theorem cells_mutant : Tryz.prog.cellsOf 47 = 8 := by kernel_rfl
theorem cells_score : Tryz.prog.cellsOf 29 = 3 := by kernel_rfl
structure DlRaw (W : World) (x : DlV) : Prop where
 rd : Rd W x.A (ints x.d.path)
 len : x.d.path.length ≤ x.cap
 cap : x.cap ≤ maxLen
 nil : x.A = none → x.cap = 0
 all : ∀ n ∈ x.d.path, InI n
 op : InI x.d.op
 n : InI x.d.n
theorem DlRaw.go {W W' : World} {x : DlV} (h : DlRaw W x) (b : Below W.heap.size W W') : DlRaw W' x := ⟨h.rd.go b, h.len, h.cap, h.nil, h.all, h.op, h.n⟩
instance St.dlraw {x : DlV} : St (fun W => DlRaw W x) := ⟨fun h b => h.go b⟩
theorem DlRaw.none {W : World} {x : DlV} (h : DlRaw W x) (e : x.A = none) : x.d.path = [] := List.eq_nil_of_length_eq_zero (by have := h.nil e; have := h.len; omega)
theorem DlRaw.ok {W : World} {x : DlV} (h : DlRaw W x) (hl : x.d.path.length ≤ 1000000) : DlOk W x := ⟨h.rd, hl⟩
structure MtIn (x : MtV) : Prop where
 len : x.m.d.path.length ≤ x.cap
 cap : x.cap ≤ maxLen
 nil : x.A = none → x.cap = 0
 all : ∀ n ∈ x.m.d.path, InI n
 op : InI x.m.d.op
 n : InI x.m.d.n
 verdict : InI x.m.verdict
 test : InI x.m.test
 kind : InI x.m.kind
 value : InI x.m.value
 dig : x.m.digest.length ≤ maxLen
def MtRaw (W : World) (x : MtV) : Prop := Rd W x.A (ints x.m.d.path) ∧ MtIn x
theorem MtRaw.none {W : World} {x : MtV} (h : MtRaw W x) (e : x.A = Option.none) : x.m.d.path = [] := List.eq_nil_of_length_eq_zero (by have := h.2.nil e; have := h.2.len; omega)
section
variable {H : Type} {enc : TypeId × Value → H} {w : World} {base : Nat} {spare : Nat → Bool} {held : Bool}
set_option maxRecDepth 100000 in
theorem open_deltaC {fuel : Nat} {cs : List Value} {x : DataW H × List MemPlace} (h : DataW.trod enc Tryz.prog w base spare held fuel 42 cs = some x) : ∃ x : DlV, DlRaw w x ∧ cs = x.cells.toList := by
 obtain ⟨hl, n, hf⟩ := trod_field Tryz.underlying42 h
 have hl3 : cs.length = 3 := hl.trans cells_delta
 match cs, hl3 with
 | [a, b, c], _ =>
  obtain ⟨_, h0⟩ := hf 0 _ rfl
  obtain ⟨_, h1⟩ := hf 1 _ rfl
  obtain ⟨_, h2⟩ := hf 2 _ rfl
  obtain ⟨r, hr, e0⟩ := open_intsC h0
  obtain ⟨n1, e1, w1⟩ := trod_i64 Tryz.underlying3 h1
  obtain ⟨n2, e2, w2⟩ := trod_i64 Tryz.underlying3 h2
  simp [cells_int, cells_ints] at e0 e1 e2
  exact ⟨⟨r.addr, r.cap, ⟨r.l, n1, n2⟩⟩, ⟨hr.reads, hr.len, hr.cap, hr.nil, hr.all, w1, w2⟩, by rw [e0, e1, e2]; rfl⟩
set_option maxRecDepth 100000 in
theorem open_outC {fuel : Nat} {cs : List Value} {x : DataW H × List MemPlace} (h : DataW.trod enc Tryz.prog w base spare held fuel 45 cs = some x) : ∃ k v : Int, cs = [.int .i64 k, .int .i64 v] ∧ InI k ∧ InI v := by
 obtain ⟨hl, n, hf⟩ := trod_field Tryz.underlying45 h
 have hl2 : cs.length = 2 := hl.trans cells_out2
 match cs, hl2 with
 | [a, b], _ =>
  obtain ⟨_, h0⟩ := hf 0 _ rfl
  obtain ⟨_, h1⟩ := hf 1 _ rfl
  obtain ⟨n0, e0, w0⟩ := trod_i64 Tryz.underlying3 h0
  obtain ⟨n1, e1, w1⟩ := trod_i64 Tryz.underlying3 h1
  simp [cells_int] at e0 e1
  exact ⟨n0, n1, by rw [e0, e1], w0, w1⟩
set_option maxRecDepth 100000 in
theorem open_scoreC {fuel : Nat} {cs : List Value} {x : DataW H × List MemPlace} (h : DataW.trod enc Tryz.prog w base spare held fuel 29 cs = some x) : ∃ s : Sc, cs = s.cells.toList ∧ InI s.alive ∧ InI s.killed ∧ InI s.timeout := by
 obtain ⟨hl, n, hf⟩ := trod_field Tryz.underlying29 h
 have hl3 : cs.length = 3 := hl.trans cells_score
 match cs, hl3 with
 | [a, b, c], _ =>
  obtain ⟨_, h0⟩ := hf 0 _ rfl
  obtain ⟨_, h1⟩ := hf 1 _ rfl
  obtain ⟨_, h2⟩ := hf 2 _ rfl
  obtain ⟨n0, e0, w0⟩ := trod_i64 Tryz.underlying3 h0
  obtain ⟨n1, e1, w1⟩ := trod_i64 Tryz.underlying3 h1
  obtain ⟨n2, e2, w2⟩ := trod_i64 Tryz.underlying3 h2
  simp [cells_int] at e0 e1 e2
  exact ⟨⟨n0, n1, n2⟩, by rw [e0, e1, e2]; rfl, w0, w1, w2⟩
set_option maxRecDepth 100000 in
theorem open_mutC {fuel : Nat} {cs : List Value} {x : DataW H × List MemPlace} (h : DataW.trod enc Tryz.prog w base spare held fuel 47 cs = some x) : ∃ x : MtV, cs = x.cells ∧ MtRaw w x := by
 obtain ⟨hl, n, hf⟩ := trod_field Tryz.underlying47 h
 have hl8 : cs.length = 8 := hl.trans cells_mutant
 match cs, hl8 with
 | [a0, a1, a2, a3, a4, a5, a6, a7], _ =>
  obtain ⟨_, h0⟩ := hf 0 _ rfl
  obtain ⟨_, h1⟩ := hf 1 _ rfl
  obtain ⟨_, h2⟩ := hf 2 _ rfl
  obtain ⟨_, h3⟩ := hf 3 _ rfl
  obtain ⟨_, h4⟩ := hf 4 _ rfl
  obtain ⟨x, hx, e0⟩ := open_deltaC h0
  obtain ⟨n1, e1, w1⟩ := trod_i64 Tryz.underlying3 h1
  obtain ⟨n2, e2, w2⟩ := trod_i64 Tryz.underlying3 h2
  obtain ⟨k, v, e3, w3, w3'⟩ := open_outC h3
  obtain ⟨s, e4, _, w4⟩ := DataW.trod_string Tryz.underlying9 h4
  simp [cells_int, cells_string, cells_delta, cells_out2, DlV.cells] at e0 e1 e2 e3 e4
  refine ⟨⟨x.A, x.cap, ⟨x.d, n1, n2, k, v, s.data.toList⟩⟩, ?_, hx.rd, hx.len, hx.cap, hx.nil, hx.all, hx.op, hx.n, w1, w2, w3, w3', ?_⟩
  · rw [e0.1, e0.2.1, e0.2.2, e1, e2, e3.1, e3.2, e4]; rfl
  · show s.data.toList.length ≤ maxLen
    rw [Array.length_toList]; exact w4
set_option maxRecDepth 100000 in
theorem open_mutsC {fuel : Nat} {cs : List Value} {x : DataW H × List MemPlace} (h : DataW.trod enc Tryz.prog w base spare held fuel 27 cs = some x) :
 ∃ (A : Option Addr) (cap : Nat) (l : List MtV), cs = [.slice A l.length cap] ∧ l.length ≤ cap ∧ cap ≤ maxLen ∧ (A = none → cap = 0) ∧ Rd w A (mtsC l) ∧ ∀ e ∈ l, MtRaw w e := by
 obtain ⟨A, cap, xss, rfl, h1, h2, hA, h3, h4, h5⟩ := open_rows Tryz.underlying27 h
 obtain ⟨l, rfl, hok⟩ := rows_map MtV.cells (MtRaw w) xss (fun xs hxs => by obtain ⟨n, y, hy⟩ := h5 xs hxs; exact open_mutC hy)
 rw [List.length_map] at h1
 exact ⟨A, cap, l, by rw [List.length_map], h1, h2, hA, by rw [mtsC, List.flatMap_def]; exact h4, hok⟩
set_option maxRecDepth 100000 in
theorem open_muts {r : Go.Reach} {b0 : Nat} {v : Value} {d : DataW H} {p : List MemPlace} (hv : Value.okWide Tryz.prog w r b0 27 v) (h : DataW.Trod enc Tryz.prog w base spare held 27 v d p) :
 ∃ (A : Option Addr) (cap : Nat) (l : List MtV), v = .slice A l.length cap ∧ l.length ≤ cap ∧ cap ≤ maxLen ∧ (A = none → cap = 0) ∧ Rd w A (mtsC l) ∧ ∀ e ∈ l, MtRaw w e := by
 obtain ⟨a, len, cap, rfl⟩ := okWide_slice Tryz.underlying27 hv
 obtain ⟨fuel, hx⟩ := h
 obtain ⟨A, c, l, e, h1, h2, h3, h4, h5⟩ := open_mutsC hx
 have e2 : [Value.slice a len cap] = [.slice A l.length c] := e
 injection e2 with e2
 injection e2 with e3 e4 e5
 subst e3 e4 e5
 exact ⟨_, _, l, rfl, h1, h2, h3, h4, h5⟩
end
end Go.Proofs.YtcgglolckkeeiaaGreat
namespace Go.Proofs.YtcgglolckkeeiaaGreat
open Go.RowKit Go.Deep
theorem info_nd : (Tryz.prog.info? 74).map (fun i => (i.zero, i.size, i.bytes)) = some (some (.agg #[.int .i64 0, .int .i64 0]), 2, 16) := by kernel_rfl
theorem at_stopC {ops : Array Oper} {rest : List Oper} {o : Oper} {a : Act} {w : World} {Q : Exit → Act → World → Prop} (h : Stop (wpList Tryz.prog ops Q (o :: rest) a w) id) : wpList Tryz.prog ops Q (o :: rest) a w := h.out
theorem wpList_res {P : Program} {ops : Array Oper} {rest : List Oper} {o : Oper} {a : Act} {w w1 : World} {Q : Exit → Act → World → Prop} (hgd : o.guard = none) (v : Value) (hv : (execOp a.eval o).run P w = .ok (.value v) w1) (h : wpList P ops Q rest (a.put o.dst v) w1) : wpList P ops Q (o :: rest) a w :=
 wpList_plain hgd fun _ hK => by unfold Oper.wp; rw [hv]; exact hK _ _ h
theorem run_exec_append2 {P : Program} {o : Oper} {w w1 : World} {ρ : Operand → Value} {s x : Operand} {t u : TypeId} (ho : o.op = .call { callee := .builtin .append, args := #[s, x], argTypes := #[t, u] }) {v : Value} (hv : (Builtin.append_ #[t, u] o.type #[ρ s, ρ x]).run P w = .ok v w1) : (execOp ρ o).run P w = .ok (.value v) w1 := by
 unfold execOp
 simp only [ho, resolve, invoke, builtin, Sem.run_bind, Sem.run_pure, Result.andThen_ok, List.map_toArray, List.map_cons, List.map_nil, hv]
set_option maxRecDepth 100000 in
set_option maxHeartbeats 2000000 in
theorem growN_any (n : Nat) (hn : n ≤ 1000000) (w : World) : Calls Tryz.prog 245 #[.slice none 0 0, .int .i64 (n : Int)] w fun e w' => ∃ A cap, e = .returned (.slice A 0 cap) ∧ w'.ownsRow w.heap.size 74 2 (.slice A 0 cap) 0 [] ∧ Below w.heap.size w w' := by
 have h1 : ¬ ((n : Int) < 0) := by omega
 have h2 : wrap64 ((0 : Int) - 0) = 0 := by unfold wrap64; omega
 have h3 : wrap64 ((n : Int) - 0) = (n : Int) := by unfold wrap64; omega
 have h4 : IntKind.i64.wrap (n : Int) = (n : Int) := IntWalk.i64_in _ (by omega)
 by_cases h0 : n = 0
 · subst h0
   go_enter Tryz.func245, Tryz.ntmps245
   go_wp2
   go_ret
   exact ⟨_, _, rfl, World.ownsRow_nil _ _ _ _, Below.refl _ _⟩
 · have hp : (0 : Int) < (n : Int) := by omega
   obtain ⟨i0, hi0, hz0, hz1, hz2⟩ := info_parts info_nd
   have hold : (Builtin.firstCells i0.size 0 (.slice none 0 0)).run Tryz.prog w.drew = .ok ([] : List Value).toArray w.drew := run_firstCells_none w.drew i0.size 0 0 0
   have hrz := fun ty => Lib.run_append_grow_zeros (P := Tryz.prog) w 23 3 ty 74 i0 _ .i64 .i64 Tryz.underlying23 Tryz.underlying3 hi0 hz0 none 0 0 [] hold n (by omega) (by rw [hz1]; omega) (by omega) (by omega) (by rw [hz2]; omega) (growslice_fits (by omega) (by rw [hz2]; omega))
   simp only [Nat.zero_add] at hrz
   have hG1 := grownCap_ge w n 0 74
   have hG2 := grownCap_le_maxLen w n 0 74 (by unfold maxLen; omega)
   generalize grownCap w n 0 74 = G at hrz hG1 hG2
   have hcs : ((([] : List Value).toArray ++ Builtin.zeroCells (Value.agg #[.int .i64 0, .int .i64 0]).cells n ++ Builtin.zeroCells (Value.agg #[.int .i64 0, .int .i64 0]).cells (G - n)) : Array Value).size = G * 2 := by
    simp only [Array.size_append, size_zeroCells]
    show 0 + n * 2 + (G - n) * 2 = G * 2
    omega
   generalize (([] : List Value).toArray ++ Builtin.zeroCells (Value.agg #[.int .i64 0, .int .i64 0]).cells n ++ Builtin.zeroCells (Value.agg #[.int .i64 0, .int .i64 0]).cells (G - n)) = cs at hrz hcs
   have Hrz := Lib.hid hrz
   have hG3 : G ≤ 9223372036854775807 := by unfold maxLen at hG2; omega
   clear hrz hi0 hz0 hz1 hz2 hold h0
   go_enter Tryz.func245, Tryz.ntmps245
   go_wp2_with (at_builtin; refine at_stopC ?_)
   refine Stop.to ?_
   refine wpList_res rfl _ (run_exec_append2 rfl (Hrz.out _)) ?_
   have rn : Row (w.drew.alloc (.cells cs 74)) w.heap.size 74 cs := Row.new w.drew _ _
   have bn : Below w.heap.size w (w.drew.alloc (.cells cs 74)) := (⟨rfl, rfl, rfl, Nat.le_refl _, fun _ _ => rfl⟩ : Below w.heap.size w w.drew).trans ((Below.refl _ w.drew).alloc (Nat.le_refl _) _)
   generalize w.drew.alloc (.cells cs 74) = w1 at rn bn ⊢
   clear Hrz
   go_wp2
   go_ret
   exact ⟨_, _, rfl, ⟨by simp, .inr ⟨w.heap.size, G, cs, rfl, Nat.le_refl _, rn, Nat.zero_le _, hG2, hcs, by simp⟩⟩, bn⟩
structure PtV where
 addr : Option Addr
 cap : Nat
 body : List Nd
def PtV.val (q : PtV) : Value := .slice q.addr q.body.length q.cap
def PtV.rd (q : PtV) (w : World) : Prop := Rd w q.addr (q.body.flatMap Nd.cells) ∧ (q.addr = none → q.body = [])
def partsL (ps : List PtV) : List Nd := ps.flatMap PtV.body
theorem PtV.rd.go {q : PtV} {w w' : World} (h : q.rd w) (b : Below w.heap.size w w') : q.rd w' := ⟨h.1.go b, h.2⟩
theorem ndc_len (l : List Nd) : (l.flatMap Nd.cells).length = l.length * 2 := by
 induction l with
 | nil => rfl
 | cons a l ih => simp only [List.flatMap_cons, List.length_append, ih, List.length_cons]; simp [Nd.cells]; omega
theorem ndc_one (l : List Nd) : ∀ u ∈ l.flatMap Nd.cells, u.oneCell' = true := by
 intro u hu
 simp only [List.mem_flatMap, Nd.cells, List.mem_cons, List.not_mem_nil, or_false] at hu
 obtain ⟨a, _, rfl | rfl⟩ := hu <;> rfl
theorem append_nds {W : World} {B n m cap : Nat} {v : Value} {xs : List Value} {A : Option Addr} {l : List Nd} (hown : W.ownsRow B 74 2 v n xs) (hB : B ≤ W.heap.size) (hr : Rd W A (l.flatMap Nd.cells)) (hm : m = l.length) (hA : A = none → m = 0) (hb : n + m ≤ 1000000) :
 ∃ v' W', (Builtin.append_ #[23, 23] 23 #[v, .slice A m cap]).run Tryz.prog W = .ok v' W' ∧ W'.ownsRow B 74 2 v' (n + m) (xs ++ l.flatMap Nd.cells) ∧ W.grownBy W' v.ownBlock ∧ (v'.ownBlock = v.ownBlock ∨ v'.ownBlock = some W.heap.size) :=
 append_rd 23 74 _ 2 16 Tryz.underlying23 info_nd rfl (by decide) (by decide) hown hB hr (by rw [ndc_len, hm]) (ndc_one l) hA hb
theorem own_sl {w : World} {base n size : Nat} {e : TypeId} {v : Value} {xs : List Value} (h : w.ownsRow base e size v n xs) : ∃ A cap, v = .slice A n cap := by
 rcases h.2 with ⟨rfl, h0⟩ | ⟨g, cap, cur, rfl, _⟩
 · subst h0; exact ⟨_, _, rfl⟩
 · exact ⟨_, _, rfl⟩
theorem partsL_succ {ps : List PtV} {k : Nat} {q : PtV} (h : ps[k]? = some q) : partsL (ps.take (k + 1)) = partsL (ps.take k) ++ q.body := by
 unfold partsL
 rw [List.take_add_one, h]
 simp
theorem partsL_le (ps : List PtV) (k : Nat) : (partsL (ps.take k)).length ≤ (partsL ps).length := by
 have : partsL ps = partsL (ps.take k) ++ partsL (ps.drop k) := by
  unfold partsL
  rw [← List.flatMap_append, List.take_append_drop]
 rw [this]; simp
set_option maxRecDepth 100000 in
set_option maxHeartbeats 4000000 in
theorem concat_any (A : Option Addr) (m cp : Nat) (ps : List PtV) (w : World) (hm : m = ps.length) (hr : Rd w A (ps.map PtV.val)) (hps : ∀ q ∈ ps, q.rd w) (hl : (partsL ps).length ≤ 1000000) (hml : m ≤ 1000) :
 Calls Tryz.prog 240 #[.slice A m cp] w fun e w' => ∃ v, e = .returned v ∧ w'.ownsRow w.heap.size 74 2 v (partsL ps).length ((partsL ps).flatMap Nd.cells) ∧ Below w.heap.size w w' := by
 have Hr := Lib.hid hr
 have Hps := Lib.hid hps
 have Hm := Lib.hid hm
 have hl' := hl
 clear hr hps hm
 go_enter Tryz.func240, Tryz.ntmps240
 go_wp2
 go_loopw [3, 11] (fun s i wr => ∃ k : Nat, i = .int .i64 (k : Int) ∧ s = .int .i64 ((partsL (ps.take k)).length : Int) ∧ k ≤ m ∧ w = wr) (fun _ i _ => m - (intOf i).toNat)
 case atStart => exact ⟨0, rfl, by simp [partsL], Nat.zero_le _, rfl⟩
 case round =>
  obtain ⟨k, rfl, rfl, hk, rfl⟩ := hrel
  by_cases hlt : k < m
  · obtain ⟨q, hq⟩ : ∃ q, ps[k]? = some q := ⟨_, List.getElem?_eq_getElem (by have := Hm.out; omega)⟩
    obtain ⟨ad, rfl, hc⟩ := Hr.out k q.val (by simp [hq])
    have hkI : (k : Int) < (m : Int) := by omega
    have hs := partsL_succ hq
    have hle := partsL_le ps (k + 1)
    rw [hs, List.length_append] at hle
    have e1 : IntKind.i64.wrap (((partsL (ps.take k)).length : Int) + (q.body.length : Int)) = ((partsL (ps.take k)).length : Int) + (q.body.length : Int) := IntWalk.i64_in _ (by omega)
    have e2 : ¬ (((partsL (ps.take k)).length : Int) + (q.body.length : Int) < 0) := by omega
    have ewk : IntKind.i64.wrap ((k : Int) + 1) = (k : Int) + 1 := IntWalk.i64_in _ (by omega)
    have Hs : Hid ((((partsL (ps.take k)).length : Int) + (q.body.length : Int)) = ((partsL (ps.take (k + 1))).length : Int)) := by show _ = _; rw [hs, List.length_append]; omega
    unfold PtV.val at hc
    clear hs hle hq
    generalize (partsL (ps.take k)).length = sk at *
    go_wp2
    go_roundw
    case rel => exact ⟨k + 1, by go_num, by rw [← Hs.out], by omega, by trivial⟩
    case measure => simp [intOf]; omega
  · obtain rfl : k = m := by omega
    have ht : ps.take k = ps := by rw [Hm.out]; exact List.take_length
    rw [ht]
    obtain ⟨n, hn⟩ : ∃ n, n = (partsL ps).length := ⟨_, rfl⟩
    have Hn := Lib.hid hn
    rw [← hn] at hl ⊢
    clear hlt hk ht hn hl'
    go_wp2_with fail
    refine (growN_any n hl w).mono ?_
    rintro e w1 ⟨A1, c1, rfl, hown, b1⟩
    have Hown := Lib.hid hown
    have Hb1 := Lib.hid b1
    clear hown b1
    go_wp2
    go_loopw [6, 27] (fun s i W => ∃ (k' : Nat) (v : Value), s = v ∧ i = .int .i64 (k' : Int) ∧ k' ≤ k ∧ Hid (W.ownsRow w.heap.size 74 2 v (partsL (ps.take k')).length ((partsL (ps.take k')).flatMap Nd.cells)) ∧ Hid (Below w.heap.size w W)) (fun _ i _ => k - (intOf i).toNat)
    case atStart => exact ⟨0, _, rfl, rfl, Nat.zero_le _, by simpa [partsL] using Hown, Hb1⟩
    case round =>
     clear Hown Hb1
     obtain ⟨j, v, rfl, rfl, hj, Hown, Hb⟩ := hrel
     by_cases hlt : j < k
     · obtain ⟨q, hq⟩ : ∃ q, ps[j]? = some q := ⟨_, List.getElem?_eq_getElem (by have := Hm.out; omega)⟩
       obtain ⟨ad, rfl, hc⟩ := (Hr.out.go Hb.out) j q.val (by simp [hq])
       have hqr := (Hps.out q (List.mem_of_getElem? hq)).go Hb.out
       have hjI : (j : Int) < (k : Int) := by omega
       have hs := partsL_succ hq
       have hle := partsL_le ps (j + 1)
       rw [hs, List.length_append, ← Hn.out] at hle
       have ewj : IntKind.i64.wrap ((j : Int) + 1) = (j : Int) + 1 := IntWalk.i64_in _ (by omega)
       obtain ⟨v2, W2, hrun, hown2, hgr, _⟩ := append_nds (cap := q.cap) Hown.out Hb.out.size hqr.1 (rfl : q.body.length = q.body.length) (fun h => by rw [hqr.2 h]; rfl) (by omega)
       have b2 := below_grown_own (Below.refl w.heap.size _) Hown.out hgr Hb.out.size (Nat.le_refl _)
       have Hown2 : Hid (W2.ownsRow w.heap.size 74 2 v2 (partsL (ps.take (j + 1))).length ((partsL (ps.take (j + 1))).flatMap Nd.cells)) := by
        show W2.ownsRow _ _ _ _ _ _
        rw [hs, List.length_append, List.flatMap_append]; exact hown2
       have Hb2 := Lib.hid (Hb.out.trans b2)
       have Hrun := Lib.hid hrun
       obtain ⟨A2, c2, rfl⟩ := own_sl hown2
       obtain ⟨A3, c3, rfl⟩ := own_sl Hown.out
       unfold PtV.val at hc
       clear hs hle hq hrun hown2 hgr b2 hqr Hown Hb
       go_wp2_with (at_builtin; refine at_stopC ?_)
       refine Stop.to ?_
       refine wpList_res rfl _ (run_exec_append rfl Hrun.out) ?_
       clear Hrun hc
       go_wp2
       go_roundw
       case rel => exact ⟨j + 1, _, rfl, by go_num, by omega, Hown2, Hb2⟩
       case measure => simp [intOf]; omega
     · obtain rfl : j = k := by omega
       have ht : ps.take j = ps := by rw [Hm.out]; exact List.take_length
       rw [ht] at Hown
       obtain ⟨A3, c3, rfl⟩ := own_sl Hown.out
       clear hlt hj ht
       go_wp2
       go_ret
       exact ⟨_, rfl, Hown.out, Hb.out⟩
end Go.Proofs.YtcgglolckkeeiaaGreat
namespace Go.Proofs.YtcgglolckkeeiaaGreat
open Go.RowKit Go.Deep
theorem rd_rowP {W : World} {g : Nat} {t : TypeId} {cs : List Value} (h : Row W g t cs.toArray) : Rd W (some ⟨g, 0, none⟩) cs := fun j u hj => ⟨_, rfl, by
 have := h.cellv (i := j) (v := u) (by simpa using hj)
 unfold Addr.add
 by_cases h0 : j = 0
 · subst h0; exact this
 · rw [if_neg h0]; simpa using this⟩
theorem info_nds : (Tryz.prog.info? 23).map (fun i => (i.zero, i.size)) = some (some (.slice none 0 0), 1) := by kernel_rfl
structure NdsR (l : List Nd) (w w' : World) (e : Ending) : Prop where
 ex : ∃ v, e = .returned v ∧ w'.ownsRow w.heap.size 74 2 v l.length (l.flatMap Nd.cells) ∧ Below w.heap.size w w'
set_option maxRecDepth 100000 in
set_option maxHeartbeats 2000000 in
theorem joined_any (A : Option Addr) (m cp : Nat) (ps : List PtV) (w : World) (hm : m = ps.length) (hr : Rd w A (ps.map PtV.val)) (hps : ∀ q ∈ ps, q.rd w) (hl : (partsL ps).length ≤ 1000000) (hml : m ≤ 1000) :
 Calls Tryz.prog 225 #[.slice A m cp] w (fun e w' => NdsR (partsL ps) w w' e) := by
 have Hc := Lib.hid (concat_any A m cp ps w hm hr hps hl hml)
 clear hm hr hps hl hml
 go_enter Tryz.func225, Tryz.ntmps225
 go_wp2_with fail
 refine Hc.out.mono ?_
 rintro e w1 ⟨v, rfl, hown, b1⟩
 obtain ⟨A3, c3, rfl⟩ := own_sl hown
 go_wp2
 go_ret
 exact ⟨_, rfl, hown, b1⟩
set_option maxRecDepth 100000 in
set_option maxHeartbeats 2000000 in
theorem part_any (A : Option Addr) (cap : Nat) (l : List Nd) (q : Nat) (t : Tr) (w : World) (hat : At l q t) (hr : Rd w A (l.flatMap Nd.cells)) (hl : l.length ≤ 1000) (hlc : l.length ≤ cap) (hcm : cap ≤ maxLen) :
 Calls Tryz.prog 212 #[.slice A l.length cap, .int .i64 (q : Int)] w (fun e w' => NdsR t.flat w w' e) := by
 have he := end_any A cap l (q : Int) w hr hl
 rw [hat.endZ] at he
 have hle := hat.le
 have hts := t.size_eq
 obtain ⟨ad, rfl, _⟩ := nd_at hr hat.root
 obtain ⟨rest, hrest⟩ := hat.here
 have hpart : ∀ W, Rd W (some ad) (l.flatMap Nd.cells) → Rd W (some (ad.add (q * 2))) (t.flat.flatMap Nd.cells) := by
  intro W h j u hj
  obtain ⟨ad', e, hc⟩ := h.part (q * 2) (t.flat.flatMap Nd.cells) (fun j u hj => by
   have h1 : l = l.take q ++ (t.flat ++ rest) := by rw [← hrest, List.take_append_drop]
   have h2 : (l.take q).length = q := by rw [List.length_take]; omega
   rw [h1, List.flatMap_append, List.getElem?_append_right (by rw [ndc_len, h2]; omega), ndc_len, h2, Nat.add_sub_cancel_left, List.flatMap_append, List.getElem?_append_left (List.getElem?_eq_some_iff.1 hj).1]
   exact hj) (by rw [t.flat_eq]; simp [Nd.cells])
  injection e with e
  subst e
  exact ⟨_, rfl, hc j u hj⟩
 have Hpart := Lib.hid hpart
 have He := Lib.hid he
 have Hr := Lib.hid hr
 have Hlen : Hid (t.flat.length = t.size) := rfl
 generalize hsz : t.size = sz at *
 have hcm' : (cap : Int) ≤ 9223372036854775807 := by unfold maxLen at hcm; omega
 have hq1 : (q : Int) ≤ ((q + sz : Nat) : Int) := by omega
 have hq2 : ((q + sz : Nat) : Int) ≤ (cap : Int) := by omega
 have hq3 : ¬ (((q + sz : Nat) : Int) < 0) := by omega
 have hs1 : (1 : Int) ≤ (sz : Int) := by omega
 clear he hr hpart hrest hat hts hsz
 go_enter Tryz.func212, Tryz.ntmps212
 go_wp2_with fail
 refine He.out.mono ?_
 rintro e w1 ⟨rfl, b1⟩
 have Hr1 := Lib.hid (Hr.out.go b1)
 have Hb1 := Lib.hid b1
 clear He Hr b1
 go_wp2_with (refine at_slice _ _ _ rfl ?_)
 refine Stop.to ?_
 have hv : PtV.val ⟨some (ad.add (q * 2)), cap - q, t.flat⟩ = .slice (some (ad.add (q * 2))) (q + sz - q) (cap - q) := by unfold PtV.val; rw [Hlen.out, Nat.add_sub_cancel_left]
 refine wpList_slice_gen rfl 292 1 _ rfl 23 #[PtV.val ⟨some (ad.add (q * 2)), cap - q, t.flat⟩] ?_ ?_
 · rw [hv]
   exact bs_run Tryz.underlying292 info_nds (by decide) (by decide) (by kernel_rfl)
 intro G w2 hG rG bG
 have b2 := Hb1.out.trans ((bG.mono hG).mono Hb1.out.size)
 have hj := joined_any (some ⟨G, 0, none⟩) 1 1 [⟨some (ad.add (q * 2)), cap - q, t.flat⟩] w2 rfl (rd_rowP (cs := [PtV.val ⟨some (ad.add (q * 2)), cap - q, t.flat⟩]) rG) (fun x hx => by
  rw [List.mem_singleton.1 hx]
  exact ⟨Hpart.out _ (Hr1.out.go (bG.mono hG)), fun e => by cases e⟩) (by simp [partsL]; have := Hlen.out; omega) (by omega)
 have Hj := Lib.hid hj
 have Hb2 := Lib.hid b2
 clear hj b2 rG bG hG Hr1 Hb1 Hpart hv
 go_wp2_with fail
 refine Hj.out.mono ?_
 rintro e w3 ⟨v, rfl, hown, b3⟩
 rw [show partsL [⟨some (ad.add (q * 2)), cap - q, t.flat⟩] = t.flat by simp [partsL]] at hown
 obtain ⟨A3, c3, rfl⟩ := own_sl hown
 go_wp2
 go_ret
 exact ⟨_, rfl, own_base hown Hb2.out.size, Hb2.out.trans (b3.mono Hb2.out.size)⟩
end Go.Proofs.YtcgglolckkeeiaaGreat
namespace Go.Proofs.YtcgglolckkeeiaaGreat
open Go.RowKit Go.Deep
theorem bs_int0 (W : World) : (Instr.buildSlice 22 0 #[]).run Tryz.prog W = .ok (.slice (some ⟨W.heap.size, 0, none⟩) 0 0) (W.alloc (.cells #[] 3)) := by kernel_rfl
theorem own_rdB {w : World} {base n : Nat} {e : TypeId} {v : Value} {xs : List Value} (h : w.ownsRow base e 1 v n xs) : ∃ A cap, v = .slice A n cap ∧ Rd w A xs ∧ n ≤ cap ∧ (A = none → cap = 0) ∧ ∀ ad, A = some ad → base ≤ ad.block := by
 obtain ⟨A, cap, rfl, h1, h2, h3⟩ := own_rd h
 refine ⟨A, cap, rfl, h1, h2, h3, fun ad e => ?_⟩
 rcases h.2 with ⟨e2, _⟩ | ⟨g, c, cur, e2, hb, _⟩
 · injection e2 with e3; rw [e] at e3; cases e3
 · injection e2 with e3; rw [e] at e3; injection e3 with e3; rw [e3]; exact hb
set_option maxRecDepth 100000 in
set_option maxHeartbeats 2000000 in
theorem clone_any (A : Option Addr) (cap : Nat) (l : List Int) (w : World) (hr : Rd w A (ints l)) (hnil : A = none → l = []) (hl : l.length ≤ 100000) :
 Calls Tryz.prog 224 #[.slice A l.length cap] w fun e w' => IntsR l w w' e := by
 rcases A with _ | ad
 · have h0 := hnil rfl
   subst h0
   have hq := fun W : World => Lib.run_eql_slice_nil (P := Tryz.prog) W 22 3 none 0 cap 0 0 Tryz.underlying22
   simp only [Option.isNone_none] at hq
   rw [show ([] : List Int).length = 0 from rfl]
   go_enter Tryz.func224, Tryz.ntmps224
   go_wp2_with fail
   go_ret
   exact ⟨_, rfl, World.ownsRow_nil _ _ _ _, Below.refl _ _⟩
 · have Hr := Lib.hid hr
   have Hl := Lib.hid hl
   clear hr hl hnil
   have hq := fun W : World => Lib.run_eql_slice_nil (P := Tryz.prog) W 22 3 (some ad) l.length cap 0 0 Tryz.underlying22
   simp only [Option.isNone_some] at hq
   go_enter Tryz.func224, Tryz.ntmps224
   go_wp2_with (refine at_slice _ _ _ rfl ?_)
   refine Stop.to ?_
   refine wpList_res rfl _ (run_exec_bslice [] rfl (bs_int0 w)) ?_
   have rG := Row.new w 3 #[]
   have b1 := (Below.refl w.heap.size w).alloc (Nat.le_refl _) (.cells #[] 3)
   generalize w.alloc (.cells #[] 3) = w1 at rG b1 ⊢
   obtain ⟨v', w2, hrun, hown, hgr, _⟩ := append_rd (P := Tryz.prog) 22 3 (.int .i64 0) 1 8 Tryz.underlying22 info_int rfl (by decide) (by decide) (own_emptyS (B := w.heap.size) (size := 1) (Nat.le_refl _) rG) b1.size (Hr.out.go b1) (m := l.length) (cap := cap) (by simp [ints]) (ints_one l) (by simp) (by have := Hl.out; omega)
   rw [Nat.zero_add, List.nil_append] at hown
   have b2 := below_grown_own b1 (own_emptyS (B := w.heap.size) (size := 1) (Nat.le_refl _) rG) hgr b1.size (Nat.le_refl _)
   have Hrun := Lib.hid hrun
   clear hrun hgr rG
   go_wp2_with (refine at_stopC ?_)
   refine Stop.to ?_
   refine wpList_res rfl _ (run_exec_append rfl Hrun.out) ?_
   obtain ⟨A3, c3, rfl⟩ := own_sl hown
   go_wp2
   go_ret
   exact ⟨_, rfl, hown, b2⟩
end Go.Proofs.YtcgglolckkeeiaaGreat
