/- Lemmas for JnCll. -/
import Derived.Test.YtcgglolckkeeiaaGreatZl13
import Derived.Test.YtcgglolckkeeiaaGreatZl10
import Derived.Test.YtcgglolckkeeiaaGreatZl2
import Derived.Lib.SlicesCompact
import Derived.Shelf.Small.Bits
import Derived.Shelf.Strconv.Itoa0
import Derived.Shelf.Sort.Plain
import Derived.Shelf.Bits.Mul64
import Derived.Shelf.Slices.Clone
import Derived.Shelf.Slices.CompactI
import Derived.Shelf.Slices.SearchI
import Derived.Shelf.Slices.Cells
import Derived.Shelf.Slices.In.SortNone
import Derived.Shelf.SlicesE.Clone
import Derived.Test.YtcgglolckkeeiaaGreatRows
import Derived.WalkKit
namespace Go.Proofs.YtcgglolckkeeiaaGreat
set_option linter.unusedVariables false
open Go.RowKit Go.Deep
def sameC (a b : CpV) : Bool := sameP a.p b.p && (decide (a.testsL = b.testsL) && (a.fuel == b.fuel && ((a.sc.alive == b.sc.alive && (a.sc.killed == b.sc.killed && a.sc.timeout == b.sc.timeout)) && decide (a.muts = b.muts))))
theorem cp_head {W : World} {G : Nat} {t : TypeId} {c : CpV} (h : Row W G t c.cells) : ∀ j v, c.p.cells.toList[j]? = some v → W.cell? ((⟨G, 0, none⟩ : Addr).add j) = some v :=
 Row.from_ (cur := c.cells) h 0 (fun j v hj => by
  match j, hj with
  | 0, hj | 1, hj | 2, hj => exact hj
  | j + 3, hj => simp [PgV.cells] at hj)
set_option maxRecDepth 100000 in
set_option maxHeartbeats 4000000 in
theorem cpSame_any (a b : CpV) (w : World) (ha : CpOk w a) (hb : CpOk w b) :
 Calls Tryz.prog 27 #[.agg a.cells, .agg b.cells] w fun e w' => e = .returned (.bool (sameC a b)) ∧ Below w.heap.size w w' := by
 have Ha := Lib.hid ha
 have Hb := Lib.hid hb
 clear ha hb
 go_enter Tryz.func27, Tryz.ntmps27
 go_wp2_with (refine at_box _ _ rfl ?_)
 refine Stop.to ?_
 refine wpList_box_gen rfl 31 _ rfl a.cells rfl ?_
 intro G Gw Gh Gr Gb
 go_wp2_with (refine at_box _ _ rfl ?_)
 refine Stop.to ?_
 refine wpList_box_gen rfl 31 _ rfl b.cells rfl ?_
 intro J Jw Jh Jr Jb
 have rG := Gr.below Jb (Nat.lt_of_lt_of_le Gr.lt Jh)
 have rJ := Jr
 have b1 := (Below.refl w.heap.size w).trans (Gb.mono Gh)
 have b2 := b1.trans ((Jb.mono Jh).mono b1.size)
 clear Gr Gb Gh Jb Jh Jr b1
 have Hs := Lib.hid (pgSame_any a.p b.p Jw (Ha.out.go b2).pok (Hb.out.go b2).pok Ha.out.bl Ha.out.vl)
 go_wp2_with (first | (refine wpList_load_at rfl 25 _ rfl ⟨G, 0, none⟩ rfl a.p.cells.toList _ (cp_head rG) Tryz.underlying25 rfl (by kernel_rfl) ?_) | (refine wpList_load_at rfl 25 _ rfl ⟨J, 0, none⟩ rfl b.p.cells.toList _ (cp_head rJ) Tryz.underlying25 rfl (by kernel_rfl) ?_))
 refine Hs.out.mono ?_
 rintro e w1 ⟨rfl, b3⟩
 have b4 := b2.trans (b3.mono b2.size)
 replace rG := rG.below b3 rG.lt
 replace rJ := rJ.below b3 rJ.lt
 clear b3 b2 Hs
 have b2 := b4
 clear b4
 generalize hs : sameP a.p b.p = s
 have Hs := Lib.hid hs
 clear hs
 cases s
 · go_wp2_with fail
   go_ret
   exact ⟨ret_b (by unfold sameC; rw [Hs.out]; rfl), b2⟩
 have ct := rG.cellv (i := 3) (v := .slice a.tA a.tests.length a.tcap) rfl
 have cf := rG.cellv (i := 4) (v := .int .i64 a.fuel) rfl
 have cm := rG.cellv (i := 5) (v := .slice a.mA a.mts.length a.mcap) rfl
 have cx := rG.cellv (i := 6) (v := .int .i64 a.sc.alive) rfl
 have cy := rG.cellv (i := 7) (v := .int .i64 a.sc.killed) rfl
 have cz := rG.cellv (i := 8) (v := .int .i64 a.sc.timeout) rfl
 have dt := rJ.cellv (i := 3) (v := .slice b.tA b.tests.length b.tcap) rfl
 have df := rJ.cellv (i := 4) (v := .int .i64 b.fuel) rfl
 have dm := rJ.cellv (i := 5) (v := .slice b.mA b.mts.length b.mcap) rfl
 have dx := rJ.cellv (i := 6) (v := .int .i64 b.sc.alive) rfl
 have dy := rJ.cellv (i := 7) (v := .int .i64 b.sc.killed) rfl
 have dz := rJ.cellv (i := 8) (v := .int .i64 b.sc.timeout) rfl
 have Ht := Lib.hid (tsSame_any a.tA b.tA a.tcap b.tcap a.tests b.tests w1 (Ha.out.go b2).trd (Hb.out.go b2).trd (Ha.out.go b2).tok (Hb.out.go b2).tok (by have := Ha.out.tlen; omega) (fun x hx => by have := Ha.out.tl x hx; omega))
 go_wp2_with fail
 clear ct cf cm cx cy cz dt df dm dx dy dz
 refine Ht.out.mono ?_
 rintro e w2 ⟨rfl, b3⟩
 have b4 := b2.trans (b3.mono b2.size)
 replace rG := rG.below b3 rG.lt
 replace rJ := rJ.below b3 rJ.lt
 clear b3 b2 Ht
 have b2 := b4
 clear b4
 generalize ht : decide (a.tests.map IntsV.l = b.tests.map IntsV.l) = t
 have Ht := Lib.hid ht
 clear ht
 have ct := rG.cellv (i := 3) (v := .slice a.tA a.tests.length a.tcap) rfl
 have cf := rG.cellv (i := 4) (v := .int .i64 a.fuel) rfl
 have cm := rG.cellv (i := 5) (v := .slice a.mA a.mts.length a.mcap) rfl
 have cx := rG.cellv (i := 6) (v := .int .i64 a.sc.alive) rfl
 have cy := rG.cellv (i := 7) (v := .int .i64 a.sc.killed) rfl
 have cz := rG.cellv (i := 8) (v := .int .i64 a.sc.timeout) rfl
 have dt := rJ.cellv (i := 3) (v := .slice b.tA b.tests.length b.tcap) rfl
 have df := rJ.cellv (i := 4) (v := .int .i64 b.fuel) rfl
 have dm := rJ.cellv (i := 5) (v := .slice b.mA b.mts.length b.mcap) rfl
 have dx := rJ.cellv (i := 6) (v := .int .i64 b.sc.alive) rfl
 have dy := rJ.cellv (i := 7) (v := .int .i64 b.sc.killed) rfl
 have dz := rJ.cellv (i := 8) (v := .int .i64 b.sc.timeout) rfl
 cases t
 · go_wp2_with fail
   go_ret
   exact ⟨ret_b (by unfold sameC CpV.testsL; rw [Hs.out, Ht.out]; rfl), b2⟩
 generalize hf : (a.fuel == b.fuel) = f
 have Hf := Lib.hid hf
 cases f
 · go_wp2_with fail
   go_ret
   exact ⟨ret_b (by unfold sameC CpV.testsL; rw [Hs.out, Ht.out, Hf.out]; rfl), b2⟩
 generalize h1 : (a.sc.alive == b.sc.alive) = u1
 have H1 := Lib.hid h1
 cases u1
 · go_wp2_with fail
   go_ret
   exact ⟨ret_b (by unfold sameC CpV.testsL; rw [Hs.out, Ht.out, Hf.out, H1.out]; rfl), b2⟩
 generalize h2 : (a.sc.killed == b.sc.killed) = u2
 have H2 := Lib.hid h2
 cases u2
 · go_wp2_with fail
   go_ret
   exact ⟨ret_b (by unfold sameC CpV.testsL; rw [Hs.out, Ht.out, Hf.out, H1.out, H2.out]; rfl), b2⟩
 generalize h3 : (a.sc.timeout == b.sc.timeout) = u3
 have H3 := Lib.hid h3
 cases u3
 · go_wp2_with fail
   go_ret
   exact ⟨ret_b (by unfold sameC CpV.testsL; rw [Hs.out, Ht.out, Hf.out, H1.out, H2.out, H3.out]; rfl), b2⟩
 have Hm := Lib.hid (eqMuts_any a.mA b.mA a.mcap b.mcap _ _ a.mts b.mts w2 rfl rfl (Ha.out.go b2).mrd (Hb.out.go b2).mrd (Ha.out.go b2).mok (Hb.out.go b2).mok (by have := Ha.out.mlen; omega))
 go_wp2_with fail
 clear ct cf cm cx cy cz dt df dm dx dy dz
 refine Hm.out.mono ?_
 rintro e w3 ⟨rfl, b3⟩
 have b4 := b2.trans (b3.mono b2.size)
 replace rG := rG.below b3 rG.lt
 replace rJ := rJ.below b3 rJ.lt
 clear b3 b2 Hm
 have b2 := b4
 clear b4
 generalize ht : decide (a.mts.map MtV.m = b.mts.map MtV.m) = t
 have Hm := Lib.hid ht
 clear ht hf h1 h2 h3
 go_wp2_with fail
 go_ret
 exact ⟨ret_b (by unfold sameC CpV.testsL CpV.muts; rw [Hs.out, Ht.out, Hf.out, H1.out, H2.out, H3.out, Hm.out]; rfl), b2⟩
set_option maxRecDepth 100000 in
set_option maxHeartbeats 4000000 in
theorem refCpSame_any (a b : CpV) (w : World) (ha : CpOk w a) (hb : CpOk w b) :
 Calls Tryz.prog 19 #[.agg a.cells, .agg b.cells] w fun e w' => e = .returned (.bool (sameC a b)) ∧ Below w.heap.size w w' := by
 have Ha := Lib.hid ha
 have Hb := Lib.hid hb
 clear ha hb
 go_enter Tryz.func19, Tryz.ntmps19
 go_wp2_with (refine at_box _ _ rfl ?_)
 refine Stop.to ?_
 refine wpList_box_gen rfl 31 _ rfl a.cells rfl ?_
 intro G Gw Gh Gr Gb
 go_wp2_with (refine at_box _ _ rfl ?_)
 refine Stop.to ?_
 refine wpList_box_gen rfl 31 _ rfl b.cells rfl ?_
 intro J Jw Jh Jr Jb
 have rG := Gr.below Jb (Nat.lt_of_lt_of_le Gr.lt Jh)
 have rJ := Jr
 have b1 := (Below.refl w.heap.size w).trans (Gb.mono Gh)
 have b2 := b1.trans ((Jb.mono Jh).mono b1.size)
 clear Gr Gb Gh Jb Jh Jr b1
 have Hs := Lib.hid (refPgSame_any a.p b.p Jw (Ha.out.go b2).pok (Hb.out.go b2).pok Ha.out.bl Ha.out.vl)
 go_wp2_with (first | (refine wpList_load_at rfl 25 _ rfl ⟨G, 0, none⟩ rfl a.p.cells.toList _ (cp_head rG) Tryz.underlying25 rfl (by kernel_rfl) ?_) | (refine wpList_load_at rfl 25 _ rfl ⟨J, 0, none⟩ rfl b.p.cells.toList _ (cp_head rJ) Tryz.underlying25 rfl (by kernel_rfl) ?_))
 refine Hs.out.mono ?_
 rintro e w1 ⟨rfl, b3⟩
 have b4 := b2.trans (b3.mono b2.size)
 replace rG := rG.below b3 rG.lt
 replace rJ := rJ.below b3 rJ.lt
 clear b3 b2 Hs
 have b2 := b4
 clear b4
 generalize hs : sameP a.p b.p = s
 have Hs := Lib.hid hs
 clear hs
 have ct := rG.cellv (i := 3) (v := .slice a.tA a.tests.length a.tcap) rfl
 have cf := rG.cellv (i := 4) (v := .int .i64 a.fuel) rfl
 have cm := rG.cellv (i := 5) (v := .slice a.mA a.mts.length a.mcap) rfl
 have cx := rG.cellv (i := 6) (v := .int .i64 a.sc.alive) rfl
 have cy := rG.cellv (i := 7) (v := .int .i64 a.sc.killed) rfl
 have cz := rG.cellv (i := 8) (v := .int .i64 a.sc.timeout) rfl
 have dt := rJ.cellv (i := 3) (v := .slice b.tA b.tests.length b.tcap) rfl
 have df := rJ.cellv (i := 4) (v := .int .i64 b.fuel) rfl
 have dm := rJ.cellv (i := 5) (v := .slice b.mA b.mts.length b.mcap) rfl
 have dx := rJ.cellv (i := 6) (v := .int .i64 b.sc.alive) rfl
 have dy := rJ.cellv (i := 7) (v := .int .i64 b.sc.killed) rfl
 have dz := rJ.cellv (i := 8) (v := .int .i64 b.sc.timeout) rfl
 have Ht := Lib.hid (refEqTests_any a.tA b.tA a.tcap b.tcap _ _ a.tests b.tests w1 rfl rfl (Ha.out.go b2).trd (Hb.out.go b2).trd (Ha.out.go b2).tok (Hb.out.go b2).tok (by have := Ha.out.tlen; omega) (fun x hx => by have := Ha.out.tl x hx; omega))
 go_wp2_with fail
 clear ct cf cm cx cy cz dt df dm dx dy dz
 refine Ht.out.mono ?_
 rintro e w2 ⟨rfl, b3⟩
 have b4 := b2.trans (b3.mono b2.size)
 replace rG := rG.below b3 rG.lt
 replace rJ := rJ.below b3 rJ.lt
 clear b3 b2 Ht
 have b2 := b4
 clear b4
 generalize ht : decide (a.tests.map IntsV.l = b.tests.map IntsV.l) = t
 have Ht := Lib.hid ht
 clear ht
 have ct := rG.cellv (i := 3) (v := .slice a.tA a.tests.length a.tcap) rfl
 have cf := rG.cellv (i := 4) (v := .int .i64 a.fuel) rfl
 have cm := rG.cellv (i := 5) (v := .slice a.mA a.mts.length a.mcap) rfl
 have cx := rG.cellv (i := 6) (v := .int .i64 a.sc.alive) rfl
 have cy := rG.cellv (i := 7) (v := .int .i64 a.sc.killed) rfl
 have cz := rG.cellv (i := 8) (v := .int .i64 a.sc.timeout) rfl
 have dt := rJ.cellv (i := 3) (v := .slice b.tA b.tests.length b.tcap) rfl
 have df := rJ.cellv (i := 4) (v := .int .i64 b.fuel) rfl
 have dm := rJ.cellv (i := 5) (v := .slice b.mA b.mts.length b.mcap) rfl
 have dx := rJ.cellv (i := 6) (v := .int .i64 b.sc.alive) rfl
 have dy := rJ.cellv (i := 7) (v := .int .i64 b.sc.killed) rfl
 have dz := rJ.cellv (i := 8) (v := .int .i64 b.sc.timeout) rfl
 have Hm := Lib.hid (refAllMuts_any a.mA b.mA a.mcap b.mcap _ _ a.mts b.mts w2 rfl rfl (Ha.out.go b2).mrd (Hb.out.go b2).mrd (Ha.out.go b2).mok (Hb.out.go b2).mok (by have := Ha.out.mlen; omega))
 go_wp2_with fail
 clear ct cf cm cx cy cz dt df dm dx dy dz
 refine Hm.out.mono ?_
 rintro e w3 ⟨rfl, b3⟩
 have b4 := b2.trans (b3.mono b2.size)
 replace rG := rG.below b3 rG.lt
 replace rJ := rJ.below b3 rJ.lt
 clear b3 b2 Hm
 have b2 := b4
 clear b4
 generalize hm : decide (a.mts.map MtV.m = b.mts.map MtV.m) = m
 have Hm := Lib.hid hm
 clear hm
 have ct := rG.cellv (i := 3) (v := .slice a.tA a.tests.length a.tcap) rfl
 have cf := rG.cellv (i := 4) (v := .int .i64 a.fuel) rfl
 have cm := rG.cellv (i := 5) (v := .slice a.mA a.mts.length a.mcap) rfl
 have cx := rG.cellv (i := 6) (v := .int .i64 a.sc.alive) rfl
 have cy := rG.cellv (i := 7) (v := .int .i64 a.sc.killed) rfl
 have cz := rG.cellv (i := 8) (v := .int .i64 a.sc.timeout) rfl
 have dt := rJ.cellv (i := 3) (v := .slice b.tA b.tests.length b.tcap) rfl
 have df := rJ.cellv (i := 4) (v := .int .i64 b.fuel) rfl
 have dm := rJ.cellv (i := 5) (v := .slice b.mA b.mts.length b.mcap) rfl
 have dx := rJ.cellv (i := 6) (v := .int .i64 b.sc.alive) rfl
 have dy := rJ.cellv (i := 7) (v := .int .i64 b.sc.killed) rfl
 have dz := rJ.cellv (i := 8) (v := .int .i64 b.sc.timeout) rfl
 cases s
 · go_wp2_with fail
   go_ret
   exact ⟨ret_b (by unfold sameC; rw [Hs.out]; rfl), b2⟩
 cases t
 · go_wp2_with fail
   go_ret
   exact ⟨ret_b (by unfold sameC CpV.testsL; rw [Hs.out, Ht.out]; rfl), b2⟩
 cases m
 · go_wp2_with fail
   go_ret
   exact ⟨ret_b (by unfold sameC CpV.testsL CpV.muts; rw [Hs.out, Ht.out, Hm.out]; simp), b2⟩
 generalize hf : (a.fuel == b.fuel) = f
 have Hf := Lib.hid hf
 cases f
 · go_wp2_with fail
   go_ret
   exact ⟨ret_b (by unfold sameC CpV.testsL; rw [Hs.out, Ht.out, Hf.out]; rfl), b2⟩
 generalize h1 : (a.sc.alive == b.sc.alive) = u1
 have H1 := Lib.hid h1
 cases u1
 · go_wp2_with fail
   go_ret
   exact ⟨ret_b (by unfold sameC CpV.testsL; rw [Hs.out, Ht.out, Hf.out, H1.out]; rfl), b2⟩
 generalize h2 : (a.sc.killed == b.sc.killed) = u2
 have H2 := Lib.hid h2
 cases u2
 · go_wp2_with fail
   go_ret
   exact ⟨ret_b (by unfold sameC CpV.testsL; rw [Hs.out, Ht.out, Hf.out, H1.out, H2.out]; rfl), b2⟩
 generalize h3 : (a.sc.timeout == b.sc.timeout) = u3
 have H3 := Lib.hid h3
 cases u3
 · go_wp2_with fail
   go_ret
   exact ⟨ret_b (by unfold sameC CpV.testsL; rw [Hs.out, Ht.out, Hf.out, H1.out, H2.out, H3.out]; rfl), b2⟩
 · go_wp2_with fail
   go_ret
   exact ⟨ret_b (by unfold sameC CpV.testsL CpV.muts; rw [Hs.out, Ht.out, Hf.out, H1.out, H2.out, H3.out, Hm.out]; rfl), b2⟩
end Go.Proofs.YtcgglolckkeeiaaGreat
namespace Go.Proofs.YtcgglolckkeeiaaGreat
set_option linter.unusedVariables false
open Go.RowKit Go.Deep
def fewT (l : List IntsV) : Bool := decide (l.length ≤ 40 ∧ ∀ x ∈ l, x.l.length ≤ 40)
def okM (x : MtV) : Prop := x.m.d.path.length ≤ 60 ∧ x.m.digest.length ≤ 100
instance (x : MtV) : Decidable (okM x) := by unfold okM; infer_instance
def fewM (l : List MtV) : Bool := decide (l.length ≤ 250 ∧ ∀ x ∈ l, okM x)
theorem take_all_step {α : Type} {p : α → Prop} {l : List α} {k : Nat} {x : α} (h : ∀ y ∈ l.take k, p y) (hx : l[k]? = some x) (hp : p x) : ∀ y ∈ l.take (k + 1), p y := by
 rw [List.take_add_one, hx]
 intro y hy
 rcases List.mem_append.1 hy with hy | hy
 · exact h y hy
 · simp at hy; subst hy; exact hp
set_option maxRecDepth 100000 in
set_option maxHeartbeats 2000000 in
theorem fewT_any (A : Option Addr) (cap : Nat) (l : List IntsV) (w : World) (hr : Rd w A (tstC l)) :
 Calls Tryz.prog 82 #[.slice A l.length cap] w fun e w' => e = .returned (.bool (fewT l)) ∧ w = w' := by
 have Hr := Lib.hid hr
 clear hr
 by_cases h40 : l.length ≤ 40
 rotate_left
 · have hz : fewT l = false := by unfold fewT; rw [decide_eq_false_iff_not]; exact fun h => h40 h.1
   have Hz := Lib.hid hz
   have h41 : (40 : Int) < (l.length : Int) := by omega
   clear hz h40
   go_enter Tryz.func82, Tryz.ntmps82
   go_wp2
   go_ret
   exact ⟨ret_b Hz.out, rfl⟩
 have h41 : (l.length : Int) ≤ 40 := by omega
 have H40 := Lib.hid h40
 clear h40
 go_enter Tryz.func82, Tryz.ntmps82
 go_wp2
 go_loop [3] (fun i => ∃ k : Nat, i = .int .i64 (k : Int) ∧ k ≤ l.length ∧ Hid (∀ x ∈ l.take k, x.l.length ≤ 40)) (fun i => l.length - (intOf i).toNat)
 case atStart => exact ⟨0, rfl, Nat.zero_le _, Lib.hid (fun x hx => by simp at hx)⟩
 case round =>
  obtain ⟨k, rfl, hk, Hall⟩ := hrel
  by_cases hlt : k < l.length
  · obtain ⟨x, hx⟩ : ∃ x, l[k]? = some x := ⟨_, List.getElem?_eq_getElem hlt⟩
    obtain ⟨ad, had, hc0⟩ := rd_map_at Hr.out hx
    have hc : w.cell? (ad.add k) = some (.slice x.addr x.l.length x.cap) := hc0
    have Hx := Lib.hid hx
    have hltI : (k : Int) < (l.length : Int) := by omega
    clear hx hlt hc0
    subst had
    by_cases hs : x.l.length ≤ 40
    · have hs1 : (x.l.length : Int) ≤ 40 := by omega
      have Hn := Lib.hid (take_all_step (p := fun x : IntsV => x.l.length ≤ 40) Hall.out Hx.out hs)
      clear hs
      go_wp2
      go_round
      case rel => exact ⟨k + 1, by go_num, by omega, Hn⟩
      case measure => simp [intOf]; omega
    · have hs1 : (40 : Int) < (x.l.length : Int) := by omega
      have hz : fewT l = false := by unfold fewT; rw [decide_eq_false_iff_not]; exact fun h => hs (h.2 x (List.mem_of_getElem? Hx.out))
      have Hz := Lib.hid hz
      clear hz hs
      go_wp2
      go_ret
      exact ⟨ret_b Hz.out, rfl⟩
  · obtain rfl : k = l.length := by omega
    have hz : fewT l = true := by unfold fewT; rw [decide_eq_true_eq]; exact ⟨H40.out, by have := Hall.out; rwa [List.take_length] at this⟩
    have Hz := Lib.hid hz
    clear hz hlt hk
    go_wp2
    go_ret
    exact ⟨ret_b Hz.out, rfl⟩
theorem add_zero' (a : Addr) : a.add 0 = a := by unfold Addr.add; rw [if_pos rfl]
set_option maxRecDepth 100000 in
set_option maxHeartbeats 2000000 in
theorem fewM_any (A : Option Addr) (cap : Nat) (l : List MtV) (w : World) (hr : Rd w A (mtsC l)) :
 Calls Tryz.prog 32 #[.slice A l.length cap] w fun e w' => e = .returned (.bool (fewM l)) ∧ w = w' := by
 have Hr := Lib.hid hr
 clear hr
 by_cases h40 : l.length ≤ 250
 rotate_left
 · have hz : fewM l = false := by unfold fewM; rw [decide_eq_false_iff_not]; exact fun h => h40 h.1
   have Hz := Lib.hid hz
   have h41 : (250 : Int) < (l.length : Int) := by omega
   clear hz h40
   go_enter Tryz.func32, Tryz.ntmps32
   go_wp2
   go_ret
   exact ⟨ret_b Hz.out, rfl⟩
 have h41 : (l.length : Int) ≤ 250 := by omega
 have H40 := Lib.hid h40
 clear h40
 go_enter Tryz.func32, Tryz.ntmps32
 go_wp2
 go_loop [3] (fun i => ∃ k : Nat, i = .int .i64 (k : Int) ∧ k ≤ l.length ∧ Hid (∀ x ∈ l.take k, okM x)) (fun i => l.length - (intOf i).toNat)
 case atStart => exact ⟨0, rfl, Nat.zero_le _, Lib.hid (fun x hx => by simp at hx)⟩
 case round =>
  obtain ⟨k, rfl, hk, Hall⟩ := hrel
  by_cases hlt : k < l.length
  · obtain ⟨x, hx⟩ : ∃ x, l[k]? = some x := ⟨_, List.getElem?_eq_getElem hlt⟩
    obtain ⟨ad, had, hc0⟩ := mt_at Hr.out hx
    have hc1 : w.cell? (ad.add (k * 8)) = some (.slice x.A x.m.d.path.length x.cap) := by have := hc0 0 _ rfl; rwa [add_zero'] at this
    have hc2 : w.cell? ((ad.add (k * 8)).add 7) = some (.string ⟨x.m.digest.toArray⟩) := hc0 7 _ rfl
    have hc3 : w.cell? ⟨(ad.add (k * 8)).block, (ad.add (k * 8)).off + 7, none⟩ = some (.string ⟨x.m.digest.toArray⟩) := hc2
    clear hc2
    have Hx := Lib.hid hx
    have hltI : (k : Int) < (l.length : Int) := by omega
    clear hx hlt hc0
    subst had
    by_cases hs : x.m.d.path.length ≤ 60
    · have hs1 : (x.m.d.path.length : Int) ≤ 60 := by omega
      by_cases ht : x.m.digest.length ≤ 100
      · have ht1 : (x.m.digest.length : Int) ≤ 100 := by omega
        have Hn := Lib.hid (take_all_step (p := okM) Hall.out Hx.out ⟨hs, ht⟩)
        clear hs ht
        go_wp2
        go_round
        case rel => exact ⟨k + 1, by go_num, by omega, Hn⟩
        case measure => simp [intOf]; omega
      · have ht1 : (100 : Int) < (x.m.digest.length : Int) := by omega
        have hz : fewM l = false := by unfold fewM; rw [decide_eq_false_iff_not]; exact fun h => ht (h.2 x (List.mem_of_getElem? Hx.out)).2
        have Hz := Lib.hid hz
        clear hz hs ht
        go_wp2
        go_ret
        exact ⟨ret_b Hz.out, rfl⟩
    · have hs1 : (60 : Int) < (x.m.d.path.length : Int) := by omega
      have hz : fewM l = false := by unfold fewM; rw [decide_eq_false_iff_not]; exact fun h => hs (h.2 x (List.mem_of_getElem? Hx.out)).1
      have Hz := Lib.hid hz
      clear hz hs
      go_wp2
      go_ret
      exact ⟨ret_b Hz.out, rfl⟩
  · obtain rfl : k = l.length := by omega
    have hz : fewM l = true := by unfold fewM; rw [decide_eq_true_eq]; exact ⟨H40.out, by have := Hall.out; rwa [List.take_length] at this⟩
    have Hz := Lib.hid hz
    clear hz hlt hk
    go_wp2
    go_ret
    exact ⟨ret_b Hz.out, rfl⟩
structure CpRaw (W : World) (c : CpV) : Prop where
 pok : c.p.ok W
 trd : Rd W c.tA (tstC c.tests)
 tok : ∀ x ∈ c.tests, x.ok W
 tnil : c.tA = none → c.tests = []
 mrd : Rd W c.mA (mtsC c.mts)
 mok : ∀ x ∈ c.mts, Rd W x.A (ints x.m.d.path) ∧ (x.A = none → x.m.d.path = [])
 mnil : c.mA = none → c.mts = []
theorem CpRaw.go {W W' : World} {c : CpV} (h : CpRaw W c) (b : Below W.heap.size W W') : CpRaw W' c :=
 ⟨h.pok.go b, h.trd.go b, fun x hx => (h.tok x hx).go b, h.tnil, h.mrd.go b, fun x hx => ⟨(h.mok x hx).1.go b, (h.mok x hx).2⟩, h.mnil⟩
instance St.cpraw {c : CpV} : St (fun W => CpRaw W c) := ⟨fun h b => h.go b⟩
def fewC (c : CpV) : Bool := fewP c.p && (fewT c.tests && fewM c.mts)
set_option maxRecDepth 100000 in
set_option maxHeartbeats 2000000 in
theorem fewC_any (c : CpV) (w : World) (hc : CpRaw w c) :
 Calls Tryz.prog 30 #[.agg c.cells] w fun e w' => e = .returned (.bool (fewC c)) ∧ Below w.heap.size w w' := by
 have Hc := Lib.hid hc
 clear hc
 go_enter Tryz.func30, Tryz.ntmps30
 go_wp2_with (refine at_box _ _ rfl ?_)
 refine Stop.to ?_
 refine wpList_box_gen rfl 31 _ rfl c.cells rfl ?_
 intro G Gw Gh Gr Gb
 have b1 := (Below.refl w.heap.size w).trans (Gb.mono Gh)
 have Hp := Lib.hid (few_any c.p Gw)
 have hG : Hid (Gw.heap.size ≤ Gw.heap.size) := Nat.le_refl _
 go_wp2_with (first | (refine wpList_load_at rfl 25 _ rfl ⟨G, 0, none⟩ rfl c.p.cells.toList _ (cp_head Gr) Tryz.underlying25 rfl (by kernel_rfl) ?_))
 refine Hp.out.mono ?_
 rintro e w1 ⟨rfl, b2⟩
 have b3 := b1.trans (b2.mono b1.size)
 have rG := Gr.below b2 Gr.lt
 clear Gr Gb Gh Hp b1 b2 hG
 have c3 := rG.cellv (i := 3) (v := .slice c.tA c.tests.length c.tcap) rfl
 have c5 := rG.cellv (i := 5) (v := .slice c.mA c.mts.length c.mcap) rfl
 have Ht := Lib.hid (fewT_any c.tA c.tcap c.tests w1 (Hc.out.go b3).trd)
 have Hm := Lib.hid (fewM_any c.mA c.mcap c.mts w1 (Hc.out.go b3).mrd)
 clear rG
 generalize hp : fewP c.p = p
 have Hp := Lib.hid hp
 clear hp
 cases p
 · go_wp2_with fail
   refine Hm.out.mono ?_
   rintro e w2 ⟨rfl, rfl⟩
   go_wp2_with fail
   go_ret
   exact ⟨ret_b (by unfold fewC; rw [Hp.out]; rfl), b3⟩
 · go_wp2_with fail
   refine Ht.out.mono ?_
   rintro e w2 ⟨rfl, rfl⟩
   generalize ht : fewT c.tests = t
   have Ht' := Lib.hid ht
   clear ht Ht
   go_wp2_with fail
   refine Hm.out.mono ?_
   rintro e w2 ⟨rfl, rfl⟩
   generalize hm : fewM c.mts = m
   have Hm' := Lib.hid hm
   clear hm Hm
   cases t
   · go_wp2_with fail
     go_ret
     exact ⟨ret_b (by unfold fewC; rw [Hp.out, Ht'.out]; rfl), b3⟩
   · go_wp2_with fail
     go_ret
     exact ⟨ret_b (by unfold fewC; rw [Hp.out, Ht'.out, Hm'.out]; rfl), b3⟩
theorem fewC_of {c : CpV} (h : fewC c = true) : c.p.body.length ≤ 60 ∧ c.p.V.length ≤ 20 ∧ c.tests.length ≤ 40 ∧ (∀ x ∈ c.tests, x.l.length ≤ 40) ∧ c.mts.length ≤ 250 ∧ ∀ x ∈ c.mts, okM x := by
 unfold fewC fewP fewT fewM at h
 simp only [Bool.and_eq_true, decide_eq_true_eq] at h
 exact ⟨by omega, by omega, h.2.1.1, h.2.1.2, h.2.2.1, h.2.2.2⟩
theorem CpRaw.ok {W : World} {c : CpV} (h : CpRaw W c) (hf : fewC c = true) : CpOk W c := by
 obtain ⟨h1, h2, h3, h4, h5, h6⟩ := fewC_of hf
 exact ⟨h.pok, by omega, by omega, h.trd, h.tok, by omega, fun x hx => by have := h4 x hx; omega, h.tnil, h.mrd, fun x hx => ⟨(h.mok x hx).1, by have := (h6 x hx).1; omega, (h.mok x hx).2, by have := (h6 x hx).2; omega⟩, by omega, h.mnil⟩
set_option maxRecDepth 100000 in
set_option maxHeartbeats 2000000 in
theorem few25_any (a b : CpV) (w : World) (ha : CpRaw w a) (hb : CpRaw w b) :
 Calls Tryz.prog 16 #[.agg a.cells, .agg b.cells] w fun e w' => e = .returned (.bool (fewC a && fewC b)) ∧ Below w.heap.size w w' := by
 have Ha := Lib.hid ha
 have Hb := Lib.hid hb
 clear ha hb
 go_enter Tryz.func16, Tryz.ntmps16
 go_wp2_with (refine at_box _ _ rfl ?_)
 refine Stop.to ?_
 refine wpList_box_gen rfl 31 _ rfl a.cells rfl ?_
 intro G Gw Gh Gr Gb
 go_wp2_with (refine at_box _ _ rfl ?_)
 refine Stop.to ?_
 refine wpList_box_gen rfl 31 _ rfl b.cells rfl ?_
 intro J Jw Jh Jr Jb
 have rG := Gr.below Jb (Nat.lt_of_lt_of_le Gr.lt Jh)
 have rJ := Jr
 have b1 := (Below.refl w.heap.size w).trans (Gb.mono Gh)
 have b2 := b1.trans ((Jb.mono Jh).mono b1.size)
 clear Gr Gb Gh Jb Jh Jr b1
 have H1 := Lib.hid (fewC_any a Jw (Ha.out.go b2))
 go_wp2_with (refine wpList_load_row rfl 31 _ rfl G rfl 31 a.cells (0, 0) _ rG Tryz.underlying31 rfl (by kernel_rfl) ?_)
 refine H1.out.mono ?_
 rintro e w1 ⟨rfl, b3⟩
 have b4 := b2.trans (b3.mono b2.size)
 replace rJ := rJ.below b3 rJ.lt
 clear b2 b3 H1 rG
 generalize hp : fewC a = p
 have Hp := Lib.hid hp
 clear hp
 cases p
 · go_wp2_with fail
   go_ret
   exact ⟨ret_b (by rw [Hp.out]; rfl), b4⟩
 have H2 := Lib.hid (fewC_any b w1 (Hb.out.go b4))
 go_wp2_with (refine wpList_load_rowG rfl 31 _ rfl J rfl 31 b.cells (0, 0) _ rJ Tryz.underlying31 rfl (by kernel_rfl) ?_)
 refine H2.out.mono ?_
 rintro e w2 ⟨rfl, b5⟩
 have b6 := b4.trans (b5.mono b4.size)
 clear H2 b5 b4 rJ
 go_wp2_with fail
 go_ret
 exact ⟨ret_b (by rw [Hp.out]; rfl), b6⟩
end Go.Proofs.YtcgglolckkeeiaaGreat
namespace Go.Proofs.YtcgglolckkeeiaaGreat
set_option linter.unusedVariables false
open Go.RowKit Go.Deep
set_option maxRecDepth 100000 in
set_option maxHeartbeats 4000000 in
theorem aCheck_any (A : Option Addr) (cap : Nat) (l : List Nd) (w : World) (hr : Rd w A (l.flatMap Nd.cells)) (hl : l.length ≤ 1000) :
 Calls Tryz.prog 113 #[.slice A l.length cap] w fun e w' => e = .returned (.int .i64 (checkA l)) ∧ Below w.heap.size w w' := by
 by_cases h0 : l.length = 0
 · have Hz := Lib.hid (checkA_0 h0)
   rw [h0]
   clear hr hl h0
   go_enter Tryz.func113, Tryz.ntmps113
   go_wp2_with fail
   go_ret
   exact ⟨ret_i' Hz.out.symm, Below.refl _ _⟩
 have e0 : ((l.length : Int) == 0) = false := by rw [beq_eq_false_iff_ne]; omega
 by_cases h1 : 200 < l.length
 · have Hz := Lib.hid (checkA_1 h1)
   have e1 : 200 < (l.length : Int) := by omega
   clear hr hl h0 h1
   go_enter Tryz.func113, Tryz.ntmps113
   go_wp2_with fail
   go_ret
   exact ⟨ret_i' Hz.out.symm, Below.refl _ _⟩
 have e1 : ¬ (200 < (l.length : Int)) := by omega
 have Hc := Lib.hid (contNd_any A cap l (fun x => decide (arityZ x < 0)) w (fun W => Rd W A (l.flatMap Nd.cells) ∧ Below w.heap.size w W) ⟨hr, Below.refl _ _⟩ (fun W h => h.1) (fun W h => h.2) (fun x _ W _ => check1_any x W) (by omega))
 have He := Lib.hid (fun W h => end_any A cap l (0 : Int) W h hl)
 have Hr := Lib.hid hr
 have H0 := Lib.hid h0
 have H1 := Lib.hid h1
 have Hl := Lib.hid hl
 clear hr hl h0 h1
 obtain ⟨b, hb⟩ : ∃ b, b = l.any fun x => decide (arityZ x < 0) := ⟨_, rfl⟩
 rw [← hb] at Hc
 go_enter Tryz.func113, Tryz.ntmps113
 go_wp2_with fail
 refine Hc.out.mono ?_
 rintro e w1 ⟨rfl, b1⟩
 clear Hc
 cases b
 rotate_left
 · obtain ⟨x, hx, hn⟩ := List.any_eq_true.1 hb.symm
   have Hz := Lib.hid (checkA_2 H0.out H1.out hx (by simpa using hn))
   clear hb hx hn
   go_wp2_with fail
   go_ret
   exact ⟨ret_i' Hz.out.symm, b1⟩
 have h2 : ∀ x ∈ l, ¬ arityZ x < 0 := fun x hx hn => by
  have := List.any_eq_false.1 hb.symm x hx
  simp at this; omega
 have H2 := Lib.hid h2
 clear hb h2
 go_wp2_with fail
 refine (He.out w1 (Hr.out.go b1)).mono ?_
 rintro e w2 ⟨rfl, b2⟩
 replace b1 := b1.trans (b2.mono b1.size)
 clear b2 He
 by_cases h3 : endZ l 0 = (l.length : Int)
 rotate_left
 · have Hz := Lib.hid (checkA_3 H0.out H1.out (fun x hx hn => by have := H2.out x hx; omega) h3)
   have e3 : (endZ l 0 != (l.length : Int)) = true := by simpa using h3
   clear h3
   go_wp2_with fail
   go_ret
   exact ⟨ret_i' Hz.out.symm, b1⟩
 obtain ⟨t, ht⟩ := Whole.of h3
 have e3 : ((l.length : Int) != (l.length : Int)) = false := by simp
 have Hz := Lib.hid (checkA_4 H1.out (fun x hx hn => by have := H2.out x hx; omega) ht)
 have Hd : Hid (Calls Tryz.prog 154 #[.slice A l.length cap, .int .i64 0] w2 fun e w' => e = .returned (.int .i64 (depT t)) ∧ Below w2.heap.size w2 w') := depth_any A cap l Hl.out t.size t 0 (Nat.le_refl _) ht.hat w2 (Hr.out.go b1)
 rw [h3]
 clear h3 ht
 obtain ⟨d, hd⟩ : ∃ d, d = depT t := ⟨_, rfl⟩
 rw [← hd] at Hd Hz
 clear hd
 go_wp2_with fail
 refine Hd.out.mono ?_
 rintro e w3 ⟨rfl, b3⟩
 replace b1 := b1.trans (b3.mono b1.size)
 clear b3 Hd
 by_cases h4 : 30 < d
 · have Hz2 : Hid (checkA l = 13) := by have := Hz.out; rw [if_pos h4] at this; exact this
   clear Hz
   go_wp2_with fail
   go_ret
   exact ⟨ret_i' Hz2.out.symm, b1⟩
 · have Hz2 : Hid (checkA l = 0) := by have := Hz.out; rw [if_neg h4] at this; exact this
   clear Hz
   go_wp2_with fail
   go_ret
   exact ⟨ret_i' Hz2.out.symm, b1⟩
set_option maxRecDepth 100000 in
set_option maxHeartbeats 4000000 in
theorem kCheck_any (p : PgV) (hbl : p.body.length ≤ 1000) (w : World) (hok : p.ok w) :
 Calls Tryz.prog 69 #[.agg p.cells] w fun e w' => e = .returned (.int .i64 (checkP p)) ∧ Below w.heap.size w w' := by
 have Hbl := Lib.hid hbl
 have Hok := Lib.hid hok
 clear hbl hok
 go_enter Tryz.func69, Tryz.ntmps69
 go_wp2_with (refine at_box _ _ rfl ?_)
 refine Stop.to ?_
 refine wpList_box_gen rfl 25 _ rfl p.cells rfl ?_
 intro G Gw Gh Gr Gb
 have b1 := (Below.refl w.heap.size w).trans (Gb.mono Gh)
 have Hok1 := Lib.hid (Hok.out.go b1)
 have c2 := Gr.cellv (i := 2) (v := .slice p.ba p.body.length p.bcap) rfl
 have Hs := Lib.hid (aCheck_any p.ba p.bcap p.body Gw Hok1.out.brd Hbl.out)
 clear Gb Gh Hok
 go_wp2_with fail
 refine Hs.out.mono ?_
 rintro e w1 ⟨rfl, b2⟩
 replace Gr := Gr.below b2 Gr.lt
 replace b1 := b1.trans (b2.mono b1.size)
 replace Hok1 := Lib.hid (Hok1.out.go b2)
 clear b2 Hs c2
 obtain ⟨a, ha⟩ : ∃ a, a = checkA p.body := ⟨_, rfl⟩
 rw [← ha]
 by_cases h0 : a = 0
 rotate_left
 · have Hz : Hid (checkP p = a) := by show _ = _; rw [checkP_0 (by rw [← ha]; exact h0), ← ha]
   have e0 : (a != 0) = true := by simpa using h0
   clear ha h0
   go_wp2_with fail
   go_ret
   exact ⟨ret_i' Hz.out.symm, b1⟩
 subst h0
 have Ha := Lib.hid ha.symm
 have Hs := Lib.hid (vars_any p w1 Hok1.out)
 clear ha
 go_wp2_with (refine wpList_load_row rfl 25 _ rfl G rfl 25 p.cells (0, 0) _ Gr Tryz.underlying25 rfl (by kernel_rfl) ?_)
 refine Hs.out.mono ?_
 rintro e w2 ⟨rfl, b2⟩
 replace Gr := Gr.below b2 Gr.lt
 replace b1 := b1.trans (b2.mono b1.size)
 replace Hok1 := Lib.hid (Hok1.out.go b2)
 clear b2 Hs
 obtain ⟨v, hv⟩ : ∃ v, v = varsE p.params p.V := ⟨_, rfl⟩
 rw [← hv]
 by_cases h0 : v = 0
 rotate_left
 · have h14 : v = 14 := by rcases varsE_cases p.params p.V with h | h <;> omega
   have Hz : Hid (checkP p = 14) := checkP_1 Ha.out (by rw [← hv]; exact h0)
   subst h14
   clear hv h0
   go_wp2_with fail
   go_ret
   exact ⟨ret_i' Hz.out.symm, b1⟩
 subst h0
 have Hv := Lib.hid hv.symm
 obtain ⟨hl2, har, t, ht, hdp⟩ := checkA_ok Ha.out
 have Ht := Lib.hid ht
 have Hs : Hid (∀ W, p.ok W → Calls Tryz.prog 115 #[.agg p.cells, .int .i64 0] W fun e w' => e = .returned (.int .i64 (ofT p.V t)) ∧ Below W.heap.size W w') := fun W h => kOf_tree p Hbl.out t 0 Ht.out.hat W h
 obtain ⟨ad, had, hc⟩ := nd_at Hok1.out.brd ht.hat.root
 have c2 := Gr.cellv (i := 2) (v := .slice p.ba p.body.length p.bcap) rfl
 have c0 := hc 0 _ rfl
 have hpos : (0 : Int) < (p.body.length : Int) := by have := ht.pos; omega
 simp only [Nat.zero_mul, add_zero'] at c0
 rw [had] at c2
 have Hvo : Hid (varsOk p.params p.V) := by rcases varsE_cases p.params p.V with h | h; exact h.2; have := Hv.out; omega
 clear hv hl2 har hdp ht hc
 by_cases h20 : t.root.tag = 20
 rotate_left
 · have Hz : Hid (checkP p = 15) := checkP_2 Ha.out Hv.out (not_good_tree Ht.out.hat (fun h => h20 h.1))
   have e20 : (t.root.tag != 20) = true := by simpa using h20
   clear h20
   go_wp2_with fail
   go_ret
   exact ⟨ret_i' Hz.out.symm, b1⟩
 have e20 : (t.root.tag != 20) = false := by simp [h20]
 have H20 := Lib.hid h20
 clear h20
 go_wp2_with (refine wpList_load_rowG rfl 25 _ rfl G rfl 25 p.cells (0, 0) _ Gr Tryz.underlying25 rfl (by kernel_rfl) ?_)
 refine (Hs.out w2 Hok1.out).mono ?_
 rintro e w3 ⟨rfl, b2⟩
 replace b1 := b1.trans (b2.mono b1.size)
 clear b2 Hs c0 c2
 obtain ⟨k, hk⟩ : ∃ k, k = ofT p.V t := ⟨_, rfl⟩
 rw [← hk]
 by_cases h2 : k = 2
 · subst h2
   have Hz : Hid (checkP p = 0) := checkP_3 Ha.out Hv.out ⟨Ht.out.hat, Ht.out.size, Hvo.out, H20.out, hk.symm⟩
   clear hk
   go_wp2_with fail
   go_ret
   exact ⟨ret_i' Hz.out.symm, b1⟩
 · have Hz : Hid (checkP p = 15) := checkP_2 Ha.out Hv.out (not_good_tree Ht.out.hat (fun h => h2 (by rw [hk]; exact h.2)))
   have e2 : (k != 2) = true := by simpa using h2
   clear hk h2
   go_wp2_with fail
   go_ret
   exact ⟨ret_i' Hz.out.symm, b1⟩
end Go.Proofs.YtcgglolckkeeiaaGreat
namespace Go.Proofs.YtcgglolckkeeiaaGreat
set_option linter.unusedVariables false
open Go.RowKit
theorem insU_le (a : Int) : ∀ l : List Int, (insU a l).length ≤ l.length + 1
 | [] => by simp [insU]
 | b :: l => by
  rw [insU]
  split
  · simp
  · split
    · simp
    · have := insU_le a l; simp; omega
theorem sortU_le : ∀ l : List Int, (sortU l).length ≤ l.length
 | [] => by simp [sortU]
 | a :: l => by have := insU_le a (sortU l); have := sortU_le l; rw [sortU]; simp; omega
theorem riseI_of : ∀ {l : List Int}, l.Pairwise (· < ·) → riseI l
 | [], _ => trivial
 | [_], _ => trivial
 | a :: b :: l, h => by
  rw [List.pairwise_cons] at h
  exact ⟨h.1 b (by simp), riseI_of h.2⟩
theorem compact_rise {s : List Int} (hs : s.Pairwise (· ≤ ·)) : riseI (Lib.compact s) ∧ ∀ x, x ∈ Lib.compact s ↔ x ∈ s := by
 have hget : ∀ j, j < s.length → ∃ x, s[j]? = some x ∧ s.toArray[j]! = x := fun j hj => ⟨s[j], List.getElem?_eq_getElem hj, by simp [hj]⟩
 have hmono : ∀ i j x y, i ≤ j → s[i]? = some x → s[j]? = some y → x ≤ y := fun i j x y hij hx hy => by
  rcases Nat.lt_or_eq_of_le hij with h | h
  · obtain ⟨h1, rfl⟩ := List.getElem?_eq_some_iff.1 hx
    obtain ⟨h2, rfl⟩ := List.getElem?_eq_some_iff.1 hy
    exact List.pairwise_iff_getElem.1 hs i j h1 h2 h
  · subst h; rw [hx] at hy; injection hy with hy; omega
 constructor
 · refine riseI_of ?_
   unfold Lib.compact Lib.compactUpTo
   rw [List.pairwise_map, List.pairwise_filter]
   rw [List.pairwise_iff_getElem]
   intro i j hi hj hij hki hkj
   simp only [List.getElem_range] at *
   rw [List.length_range] at hi hj
   unfold Lib.keeps at hkj
   rw [decide_eq_true_eq] at hkj
   obtain ⟨x, hx, hx'⟩ := hget i hi
   obtain ⟨y, hy, hy'⟩ := hget j hj
   obtain ⟨z, hz, hz'⟩ := hget (j - 1) (by omega)
   rw [hx', hy']
   rw [hy', hz'] at hkj
   have h1 := hmono i (j - 1) x z (by omega) hx hz
   have h2 := hmono (j - 1) j z y (by omega) hz hy
   rcases hkj with h | h <;> omega
 · intro x
   unfold Lib.compact Lib.compactUpTo
   rw [List.mem_map]
   constructor
   · rintro ⟨j, hj, rfl⟩
     have hj2 := List.mem_range.1 (List.mem_filter.1 hj).1
     obtain ⟨y, hy, hy'⟩ := hget j hj2
     rw [hy']; exact List.mem_of_getElem? hy
   · intro hx
     obtain ⟨j, hj, hjx⟩ := List.getElem_of_mem hx
     have : ∀ (n j : Nat), j ≤ n → s[j]? = some x → ∃ a : Nat, a ∈ (List.range s.length).filter (Lib.keeps s.toArray) ∧ s.toArray[a]! = x := by
      intro n
      induction n with
      | zero =>
       intro j hj0 hjx
       obtain rfl : j = 0 := by omega
       have hlt := (List.getElem?_eq_some_iff.1 hjx).1
       obtain ⟨y, hy, hy'⟩ := hget 0 hlt
       rw [hy] at hjx; injection hjx with hjx
       exact ⟨0, List.mem_filter.2 ⟨List.mem_range.2 hlt, by simp [Lib.keeps]⟩, by rw [hy', hjx]⟩
      | succ n ih =>
       intro j hjn hjx
       have hlt := (List.getElem?_eq_some_iff.1 hjx).1
       obtain ⟨y, hy, hy'⟩ := hget j hlt
       rw [hy] at hjx; injection hjx with hjx
       subst hjx
       by_cases hk : Lib.keeps s.toArray j = true
       · exact ⟨j, List.mem_filter.2 ⟨List.mem_range.2 hlt, hk⟩, hy'⟩
       · unfold Lib.keeps at hk
         rw [decide_eq_true_eq] at hk
         have hj0 : j ≠ 0 := fun e => hk (.inl e)
         obtain ⟨z, hz, hz'⟩ := hget (j - 1) (by omega)
         have hzy : z = y := by
          rcases Decidable.em (s.toArray[j]! = s.toArray[j - 1]!) with e | e
          · rw [hy', hz'] at e; exact e.symm
          · exact absurd (.inr e) hk
         exact ih (j - 1) (by omega) (by rw [hz, hzy])
     exact this j j (Nat.le_refl _) (by rw [List.getElem?_eq_getElem hj, hjx])
theorem sort_once (l : List Int) : Lib.compact (l.mergeSort fun x y => decide (x ≤ y)) = sortU l := by
 have hs : (l.mergeSort fun x y => decide (x ≤ y)).Pairwise (· ≤ ·) := by
  have := List.pairwise_mergeSort (le := fun x y : Int => decide (x ≤ y)) (fun a b c => by simp; omega) (fun a b => by simp; omega) l
  exact this.imp (by simp)
 obtain ⟨h1, h2⟩ := compact_rise hs
 refine riseI_ext h1 (sortU_rise l) fun x => ?_
 rw [h2, sortU_mem]
 exact (List.mergeSort_perm l _).mem_iff
end Go.Proofs.YtcgglolckkeeiaaGreat
namespace Go.Proofs.YtcgglolckkeeiaaGreat
set_option linter.unusedVariables false
open Go.Shelf
def lays189_ren : Go.Shelf.Ren := ⟨fun | 189 => 241 | 125 => 247 | 257 => 246 | 128 => 257 | 129 => 258 | 294 => 248 | 295 => 249 | 296 => 250 | 297 => 251 | 298 => 252 | 299 => 253 | 216 => 254 | 300 => 255 | 301 => 256 | 328 => 259 | 329 => 260 | 330 => 261 | 331 => 262 | 332 => 263 | 215 => 111 | 343 => 264 | n => n, fun | 28 => 22 | 3 => 3 | 46 => 247 | 0 => 0 | 51 => 150 | 53 => 55 | 4 => 4 | 183 => 299 | 182 => 298 | 131 => 304 | 5 => 5 | 9 => 9 | 218 => 307 | 222 => 136 | 228 => 312 | 229 => 231 | n => n, fun | n => n⟩
theorem lays189 : Go.Proofs.Lays.n189 Tryz.prog lays189_ren := {
 mixed := by kernel_rfl
 f125 := Tryz.func247.trans (congrArg some (by kernel_rfl))
 f128 := Tryz.func257.trans (congrArg some (by kernel_rfl))
 f129 := Tryz.func258.trans (congrArg some (by kernel_rfl))
 f189 := Tryz.func241.trans (congrArg some (by kernel_rfl))
 f215 := Tryz.func111.trans (congrArg some (by kernel_rfl))
 f216 := Tryz.func254.trans (congrArg some (by kernel_rfl))
 f257 := Tryz.func246.trans (congrArg some (by kernel_rfl))
 f294 := Tryz.func248.trans (congrArg some (by kernel_rfl))
 f295 := Tryz.func249.trans (congrArg some (by kernel_rfl))
 f296 := Tryz.func250.trans (congrArg some (by kernel_rfl))
 f297 := Tryz.func251.trans (congrArg some (by kernel_rfl))
 f298 := Tryz.func252.trans (congrArg some (by kernel_rfl))
 f299 := Tryz.func253.trans (congrArg some (by kernel_rfl))
 f300 := Tryz.func255.trans (congrArg some (by kernel_rfl))
 f301 := Tryz.func256.trans (congrArg some (by kernel_rfl))
 f328 := Tryz.func259.trans (congrArg some (by kernel_rfl))
 f329 := Tryz.func260.trans (congrArg some (by kernel_rfl))
 f330 := Tryz.func261.trans (congrArg some (by kernel_rfl))
 f331 := Tryz.func262.trans (congrArg some (by kernel_rfl))
 f332 := Tryz.func263.trans (congrArg some (by kernel_rfl))
 f343 := Tryz.func264.trans (congrArg some (by kernel_rfl))
 t0 := Tryz.underlying0
 a0 := Tryz.isAgg0
 z0 := Tryz.sizeOf0
 v0 := Tryz.zeroValue0
 t3 := Tryz.underlying3
 a3 := Tryz.isAgg3
 z3 := Tryz.sizeOf3
 v3 := Tryz.zeroValue3
 t4 := Tryz.underlying4
 a4 := Tryz.isAgg4
 z4 := Tryz.sizeOf4
 v4 := Tryz.zeroValue4
 t5 := Tryz.underlying5
 a5 := Tryz.isAgg5
 z5 := Tryz.sizeOf5
 v5 := Tryz.zeroValue5
 t9 := Tryz.underlying9
 a9 := Tryz.isAgg9
 z9 := Tryz.sizeOf9
 v9 := Tryz.zeroValue9
 t28 := Tryz.underlying22
 a28 := Tryz.isAgg22
 z28 := Tryz.sizeOf22
 v28 := Tryz.zeroValue22
 t46 := Tryz.underlying247
 a46 := Tryz.isAgg247
 z46 := Tryz.sizeOf247
 v46 := Tryz.zeroValue247
 t51 := Tryz.underlying150
 a51 := Tryz.isAgg150
 z51 := Tryz.sizeOf150
 v51 := Tryz.zeroValue150
 t53 := Tryz.underlying55
 a53 := Tryz.isAgg55
 z53 := Tryz.sizeOf55
 v53 := Tryz.zeroValue55
 t131 := Tryz.underlying304
 a131 := Tryz.isAgg304
 z131 := Tryz.sizeOf304
 v131 := Tryz.zeroValue304
 t182 := Tryz.underlying298
 a182 := Tryz.isAgg298
 z182 := Tryz.sizeOf298
 v182 := Tryz.zeroValue298
 t183 := Tryz.underlying299
 a183 := Tryz.isAgg299
 z183 := Tryz.sizeOf299
 v183 := Tryz.zeroValue299
 t218 := Tryz.underlying307
 a218 := Tryz.isAgg307
 z218 := Tryz.sizeOf307
 v218 := Tryz.zeroValue307
 t222 := Tryz.underlying136
 a222 := Tryz.isAgg136
 z222 := Tryz.sizeOf136
 v222 := Tryz.zeroValue136
 t228 := Tryz.underlying312
 a228 := Tryz.isAgg312
 z228 := Tryz.sizeOf312
 v228 := Tryz.zeroValue312
 t229 := Tryz.underlying231
 a229 := Tryz.isAgg231
 z229 := Tryz.sizeOf231
 v229 := Tryz.zeroValue231 }
open Go.Sort Go.RowKit in
theorem slices_Sort_int (blk off cap : Nat) (zs : List Int) (w : World) (hH : Holds (Value.int .i64) w blk off zs.toArray) (hblk : blk < w.heap.size) (hsz : zs.length < 4611686018427387904) :
 Calls Tryz.prog 241 #[.slice (some ⟨blk, off, none⟩) zs.length cap] w fun e w' =>
  e = .returned (.tuple #[]) ∧ ∃ n os, w' = grow (putRow (Value.int .i64) (Sort.ahead w n) blk off (zs.mergeSort fun x y => decide (x ≤ y)).toArray) os := Any.slices_Sort_int lays189 blk off cap zs w hH hblk hsz
def laysNm220_ren : Go.Shelf.Ren := ⟨fun | 20 => 242 | n => n, fun | 22 => 22 | 3 => 3 | 4 => 4 | 0 => 0 | n => n, fun | n => n⟩
theorem laysNm220 : Go.Proofs.Lays2.n20 Tryz.prog laysNm220_ren := {
 mixed := by kernel_rfl
 f20 := Tryz.func242.trans (congrArg some (by kernel_rfl))
 t0 := Tryz.underlying0
 a0 := Tryz.isAgg0
 z0 := Tryz.sizeOf0
 v0 := Tryz.zeroValue0
 t3 := Tryz.underlying3
 a3 := Tryz.isAgg3
 z3 := Tryz.sizeOf3
 v3 := Tryz.zeroValue3
 t4 := Tryz.underlying4
 a4 := Tryz.isAgg4
 z4 := Tryz.sizeOf4
 v4 := Tryz.zeroValue4
 t22 := Tryz.underlying22
 a22 := Tryz.isAgg22
 z22 := Tryz.sizeOf22
 v22 := Tryz.zeroValue22
 i3 := by kernel_rfl }
open Go.RowKit Go.Lib Go.Sort in
theorem slices_Compact_int (blk off cap : Nat) (zs : List Int) (w : World) (hH : Holds (Value.int .i64) w blk off zs.toArray) (hsz : zs.length ≤ 9223372036854775807) (hcap : zs.length ≤ cap) :
 Calls Tryz.prog 242 #[.slice (some ⟨blk, off, none⟩) zs.length cap] w fun e w' => e = .returned (.slice (some ⟨blk, off, none⟩) (Lib.compact zs).length cap) ∧ ∃ q, w' = putRow (Value.int .i64) (Sort.ahead w q) blk off (Lib.compact zs ++ List.replicate (zs.length - (Lib.compact zs).length) 0).toArray := Any.slices_Compact_int laysNm220 blk off cap zs w hH hsz hcap
end Go.Proofs.YtcgglolckkeeiaaGreat
