/- Lemmas for JnAll. -/
import Derived.Test.YtcgglolckkeeiaaGreatZj15
namespace Go.Proofs.YtcgglolckkeeiaaGreat
set_option linter.unusedVariables false
open Go.RowKit Go.Deep
def sameC (a b : CpV) : Bool := sameP a.p b.p && (decide (a.testsL = b.testsL) && (a.fuel == b.fuel && ((a.sc.alive == b.sc.alive && (a.sc.killed == b.sc.killed && a.sc.timeout == b.sc.timeout)) && decide (a.muts = b.muts))))
theorem cp_head {W : World} {G : Nat} {t : TypeId} {c : CpV} (h : Row W G t c.cells) : ∀ j v, c.p.cells.toList[j]? = some v → W.cell? ((⟨G, 0, none⟩ : Addr).add j) = some v :=
 Row.from_ (cur := c.cells) h 0 (fun j v hj => by
  match j, hj with
  | 0, hj | 1, hj | 2, hj => exact hj
  | j + 3, hj => simp [PgV.cells] at hj)
set_option maxRecDepth 100000 in
set_option maxHeartbeats 4000000 in
theorem cpSame_any (a b : CpV) (w : World) (ha : CpOk w a) (hb : CpOk w b) :
 Calls Tryz.prog 27 #[.agg a.cells, .agg b.cells] w fun e w' => e = .returned (.bool (sameC a b)) ∧ Below w.heap.size w w' := by
 have Ha := Lib.hid ha
 have Hb := Lib.hid hb
 clear ha hb
 go_enter Tryz.func27, Tryz.ntmps27
 go_wp2_with (refine at_box _ _ rfl ?_)
 refine Stop.to ?_
 refine wpList_box_gen rfl 31 _ rfl a.cells rfl ?_
 intro G Gw Gh Gr Gb
 go_wp2_with (refine at_box _ _ rfl ?_)
 refine Stop.to ?_
 refine wpList_box_gen rfl 31 _ rfl b.cells rfl ?_
 intro J Jw Jh Jr Jb
 have rG := Gr.below Jb (Nat.lt_of_lt_of_le Gr.lt Jh)
 have rJ := Jr
 have b1 := (Below.refl w.heap.size w).trans (Gb.mono Gh)
 have b2 := b1.trans ((Jb.mono Jh).mono b1.size)
 clear Gr Gb Gh Jb Jh Jr b1
 have Hs := Lib.hid (pgSame_any a.p b.p Jw (Ha.out.go b2).pok (Hb.out.go b2).pok Ha.out.bl Ha.out.vl)
 go_wp2_with (first | (refine wpList_load_at rfl 25 _ rfl ⟨G, 0, none⟩ rfl a.p.cells.toList _ (cp_head rG) Tryz.underlying25 rfl (by kernel_rfl) ?_) | (refine wpList_load_at rfl 25 _ rfl ⟨J, 0, none⟩ rfl b.p.cells.toList _ (cp_head rJ) Tryz.underlying25 rfl (by kernel_rfl) ?_))
 refine Hs.out.mono ?_
 rintro e w1 ⟨rfl, b3⟩
 have b4 := b2.trans (b3.mono b2.size)
 replace rG := rG.below b3 rG.lt
 replace rJ := rJ.below b3 rJ.lt
 clear b3 b2 Hs
 have b2 := b4
 clear b4
 generalize hs : sameP a.p b.p = s
 have Hs := Lib.hid hs
 clear hs
 cases s
 · go_wp2_with fail
   go_ret
   exact ⟨ret_b (by unfold sameC; rw [Hs.out]; rfl), b2⟩
 have ct := rG.cellv (i := 3) (v := .slice a.tA a.tests.length a.tcap) rfl
 have cf := rG.cellv (i := 4) (v := .int .i64 a.fuel) rfl
 have cm := rG.cellv (i := 5) (v := .slice a.mA a.mts.length a.mcap) rfl
 have cx := rG.cellv (i := 6) (v := .int .i64 a.sc.alive) rfl
 have cy := rG.cellv (i := 7) (v := .int .i64 a.sc.killed) rfl
 have cz := rG.cellv (i := 8) (v := .int .i64 a.sc.timeout) rfl
 have dt := rJ.cellv (i := 3) (v := .slice b.tA b.tests.length b.tcap) rfl
 have df := rJ.cellv (i := 4) (v := .int .i64 b.fuel) rfl
 have dm := rJ.cellv (i := 5) (v := .slice b.mA b.mts.length b.mcap) rfl
 have dx := rJ.cellv (i := 6) (v := .int .i64 b.sc.alive) rfl
 have dy := rJ.cellv (i := 7) (v := .int .i64 b.sc.killed) rfl
 have dz := rJ.cellv (i := 8) (v := .int .i64 b.sc.timeout) rfl
 have Ht := Lib.hid (tsSame_any a.tA b.tA a.tcap b.tcap a.tests b.tests w1 (Ha.out.go b2).trd (Hb.out.go b2).trd (Ha.out.go b2).tok (Hb.out.go b2).tok (by have := Ha.out.tlen; omega) (fun x hx => by have := Ha.out.tl x hx; omega))
 go_wp2_with fail
 clear ct cf cm cx cy cz dt df dm dx dy dz
 refine Ht.out.mono ?_
 rintro e w2 ⟨rfl, b3⟩
 have b4 := b2.trans (b3.mono b2.size)
 replace rG := rG.below b3 rG.lt
 replace rJ := rJ.below b3 rJ.lt
 clear b3 b2 Ht
 have b2 := b4
 clear b4
 generalize ht : decide (a.tests.map IntsV.l = b.tests.map IntsV.l) = t
 have Ht := Lib.hid ht
 clear ht
 have ct := rG.cellv (i := 3) (v := .slice a.tA a.tests.length a.tcap) rfl
 have cf := rG.cellv (i := 4) (v := .int .i64 a.fuel) rfl
 have cm := rG.cellv (i := 5) (v := .slice a.mA a.mts.length a.mcap) rfl
 have cx := rG.cellv (i := 6) (v := .int .i64 a.sc.alive) rfl
 have cy := rG.cellv (i := 7) (v := .int .i64 a.sc.killed) rfl
 have cz := rG.cellv (i := 8) (v := .int .i64 a.sc.timeout) rfl
 have dt := rJ.cellv (i := 3) (v := .slice b.tA b.tests.length b.tcap) rfl
 have df := rJ.cellv (i := 4) (v := .int .i64 b.fuel) rfl
 have dm := rJ.cellv (i := 5) (v := .slice b.mA b.mts.length b.mcap) rfl
 have dx := rJ.cellv (i := 6) (v := .int .i64 b.sc.alive) rfl
 have dy := rJ.cellv (i := 7) (v := .int .i64 b.sc.killed) rfl
 have dz := rJ.cellv (i := 8) (v := .int .i64 b.sc.timeout) rfl
 cases t
 · go_wp2_with fail
   go_ret
   exact ⟨ret_b (by unfold sameC CpV.testsL; rw [Hs.out, Ht.out]; rfl), b2⟩
 generalize hf : (a.fuel == b.fuel) = f
 have Hf := Lib.hid hf
 cases f
 · go_wp2_with fail
   go_ret
   exact ⟨ret_b (by unfold sameC CpV.testsL; rw [Hs.out, Ht.out, Hf.out]; rfl), b2⟩
 generalize h1 : (a.sc.alive == b.sc.alive) = u1
 have H1 := Lib.hid h1
 cases u1
 · go_wp2_with fail
   go_ret
   exact ⟨ret_b (by unfold sameC CpV.testsL; rw [Hs.out, Ht.out, Hf.out, H1.out]; rfl), b2⟩
 generalize h2 : (a.sc.killed == b.sc.killed) = u2
 have H2 := Lib.hid h2
 cases u2
 · go_wp2_with fail
   go_ret
   exact ⟨ret_b (by unfold sameC CpV.testsL; rw [Hs.out, Ht.out, Hf.out, H1.out, H2.out]; rfl), b2⟩
 generalize h3 : (a.sc.timeout == b.sc.timeout) = u3
 have H3 := Lib.hid h3
 cases u3
 · go_wp2_with fail
   go_ret
   exact ⟨ret_b (by unfold sameC CpV.testsL; rw [Hs.out, Ht.out, Hf.out, H1.out, H2.out, H3.out]; rfl), b2⟩
 have Hm := Lib.hid (eqMuts_any a.mA b.mA a.mcap b.mcap _ _ a.mts b.mts w2 rfl rfl (Ha.out.go b2).mrd (Hb.out.go b2).mrd (Ha.out.go b2).mok (Hb.out.go b2).mok (by have := Ha.out.mlen; omega))
 go_wp2_with fail
 clear ct cf cm cx cy cz dt df dm dx dy dz
 refine Hm.out.mono ?_
 rintro e w3 ⟨rfl, b3⟩
 have b4 := b2.trans (b3.mono b2.size)
 replace rG := rG.below b3 rG.lt
 replace rJ := rJ.below b3 rJ.lt
 clear b3 b2 Hm
 have b2 := b4
 clear b4
 generalize ht : decide (a.mts.map MtV.m = b.mts.map MtV.m) = t
 have Hm := Lib.hid ht
 clear ht hf h1 h2 h3
 go_wp2_with fail
 go_ret
 exact ⟨ret_b (by unfold sameC CpV.testsL CpV.muts; rw [Hs.out, Ht.out, Hf.out, H1.out, H2.out, H3.out, Hm.out]; rfl), b2⟩
set_option maxRecDepth 100000 in
set_option maxHeartbeats 4000000 in
theorem refCpSame_any (a b : CpV) (w : World) (ha : CpOk w a) (hb : CpOk w b) :
 Calls Tryz.prog 19 #[.agg a.cells, .agg b.cells] w fun e w' => e = .returned (.bool (sameC a b)) ∧ Below w.heap.size w w' := by
 have Ha := Lib.hid ha
 have Hb := Lib.hid hb
 clear ha hb
 go_enter Tryz.func19, Tryz.ntmps19
 go_wp2_with (refine at_box _ _ rfl ?_)
 refine Stop.to ?_
 refine wpList_box_gen rfl 31 _ rfl a.cells rfl ?_
 intro G Gw Gh Gr Gb
 go_wp2_with (refine at_box _ _ rfl ?_)
 refine Stop.to ?_
 refine wpList_box_gen rfl 31 _ rfl b.cells rfl ?_
 intro J Jw Jh Jr Jb
 have rG := Gr.below Jb (Nat.lt_of_lt_of_le Gr.lt Jh)
 have rJ := Jr
 have b1 := (Below.refl w.heap.size w).trans (Gb.mono Gh)
 have b2 := b1.trans ((Jb.mono Jh).mono b1.size)
 clear Gr Gb Gh Jb Jh Jr b1
 have Hs := Lib.hid (refPgSame_any a.p b.p Jw (Ha.out.go b2).pok (Hb.out.go b2).pok Ha.out.bl Ha.out.vl)
 go_wp2_with (first | (refine wpList_load_at rfl 25 _ rfl ⟨G, 0, none⟩ rfl a.p.cells.toList _ (cp_head rG) Tryz.underlying25 rfl (by kernel_rfl) ?_) | (refine wpList_load_at rfl 25 _ rfl ⟨J, 0, none⟩ rfl b.p.cells.toList _ (cp_head rJ) Tryz.underlying25 rfl (by kernel_rfl) ?_))
 refine Hs.out.mono ?_
 rintro e w1 ⟨rfl, b3⟩
 have b4 := b2.trans (b3.mono b2.size)
 replace rG := rG.below b3 rG.lt
 replace rJ := rJ.below b3 rJ.lt
 clear b3 b2 Hs
 have b2 := b4
 clear b4
 generalize hs : sameP a.p b.p = s
 have Hs := Lib.hid hs
 clear hs
 have ct := rG.cellv (i := 3) (v := .slice a.tA a.tests.length a.tcap) rfl
 have cf := rG.cellv (i := 4) (v := .int .i64 a.fuel) rfl
 have cm := rG.cellv (i := 5) (v := .slice a.mA a.mts.length a.mcap) rfl
 have cx := rG.cellv (i := 6) (v := .int .i64 a.sc.alive) rfl
 have cy := rG.cellv (i := 7) (v := .int .i64 a.sc.killed) rfl
 have cz := rG.cellv (i := 8) (v := .int .i64 a.sc.timeout) rfl
 have dt := rJ.cellv (i := 3) (v := .slice b.tA b.tests.length b.tcap) rfl
 have df := rJ.cellv (i := 4) (v := .int .i64 b.fuel) rfl
 have dm := rJ.cellv (i := 5) (v := .slice b.mA b.mts.length b.mcap) rfl
 have dx := rJ.cellv (i := 6) (v := .int .i64 b.sc.alive) rfl
 have dy := rJ.cellv (i := 7) (v := .int .i64 b.sc.killed) rfl
 have dz := rJ.cellv (i := 8) (v := .int .i64 b.sc.timeout) rfl
 have Ht := Lib.hid (refEqTests_any a.tA b.tA a.tcap b.tcap _ _ a.tests b.tests w1 rfl rfl (Ha.out.go b2).trd (Hb.out.go b2).trd (Ha.out.go b2).tok (Hb.out.go b2).tok (by have := Ha.out.tlen; omega) (fun x hx => by have := Ha.out.tl x hx; omega))
 go_wp2_with fail
 clear ct cf cm cx cy cz dt df dm dx dy dz
 refine Ht.out.mono ?_
 rintro e w2 ⟨rfl, b3⟩
 have b4 := b2.trans (b3.mono b2.size)
 replace rG := rG.below b3 rG.lt
 replace rJ := rJ.below b3 rJ.lt
 clear b3 b2 Ht
 have b2 := b4
 clear b4
 generalize ht : decide (a.tests.map IntsV.l = b.tests.map IntsV.l) = t
 have Ht := Lib.hid ht
 clear ht
 have ct := rG.cellv (i := 3) (v := .slice a.tA a.tests.length a.tcap) rfl
 have cf := rG.cellv (i := 4) (v := .int .i64 a.fuel) rfl
 have cm := rG.cellv (i := 5) (v := .slice a.mA a.mts.length a.mcap) rfl
 have cx := rG.cellv (i := 6) (v := .int .i64 a.sc.alive) rfl
 have cy := rG.cellv (i := 7) (v := .int .i64 a.sc.killed) rfl
 have cz := rG.cellv (i := 8) (v := .int .i64 a.sc.timeout) rfl
 have dt := rJ.cellv (i := 3) (v := .slice b.tA b.tests.length b.tcap) rfl
 have df := rJ.cellv (i := 4) (v := .int .i64 b.fuel) rfl
 have dm := rJ.cellv (i := 5) (v := .slice b.mA b.mts.length b.mcap) rfl
 have dx := rJ.cellv (i := 6) (v := .int .i64 b.sc.alive) rfl
 have dy := rJ.cellv (i := 7) (v := .int .i64 b.sc.killed) rfl
 have dz := rJ.cellv (i := 8) (v := .int .i64 b.sc.timeout) rfl
 have Hm := Lib.hid (refAllMuts_any a.mA b.mA a.mcap b.mcap _ _ a.mts b.mts w2 rfl rfl (Ha.out.go b2).mrd (Hb.out.go b2).mrd (Ha.out.go b2).mok (Hb.out.go b2).mok (by have := Ha.out.mlen; omega))
 go_wp2_with fail
 clear ct cf cm cx cy cz dt df dm dx dy dz
 refine Hm.out.mono ?_
 rintro e w3 ⟨rfl, b3⟩
 have b4 := b2.trans (b3.mono b2.size)
 replace rG := rG.below b3 rG.lt
 replace rJ := rJ.below b3 rJ.lt
 clear b3 b2 Hm
 have b2 := b4
 clear b4
 generalize hm : decide (a.mts.map MtV.m = b.mts.map MtV.m) = m
 have Hm := Lib.hid hm
 clear hm
 have ct := rG.cellv (i := 3) (v := .slice a.tA a.tests.length a.tcap) rfl
 have cf := rG.cellv (i := 4) (v := .int .i64 a.fuel) rfl
 have cm := rG.cellv (i := 5) (v := .slice a.mA a.mts.length a.mcap) rfl
 have cx := rG.cellv (i := 6) (v := .int .i64 a.sc.alive) rfl
 have cy := rG.cellv (i := 7) (v := .int .i64 a.sc.killed) rfl
 have cz := rG.cellv (i := 8) (v := .int .i64 a.sc.timeout) rfl
 have dt := rJ.cellv (i := 3) (v := .slice b.tA b.tests.length b.tcap) rfl
 have df := rJ.cellv (i := 4) (v := .int .i64 b.fuel) rfl
 have dm := rJ.cellv (i := 5) (v := .slice b.mA b.mts.length b.mcap) rfl
 have dx := rJ.cellv (i := 6) (v := .int .i64 b.sc.alive) rfl
 have dy := rJ.cellv (i := 7) (v := .int .i64 b.sc.killed) rfl
 have dz := rJ.cellv (i := 8) (v := .int .i64 b.sc.timeout) rfl
 cases s
 · go_wp2_with fail
   go_ret
   exact ⟨ret_b (by unfold sameC; rw [Hs.out]; rfl), b2⟩
 cases t
 · go_wp2_with fail
   go_ret
   exact ⟨ret_b (by unfold sameC CpV.testsL; rw [Hs.out, Ht.out]; rfl), b2⟩
 cases m
 · go_wp2_with fail
   go_ret
   exact ⟨ret_b (by unfold sameC CpV.testsL CpV.muts; rw [Hs.out, Ht.out, Hm.out]; simp), b2⟩
 generalize hf : (a.fuel == b.fuel) = f
 have Hf := Lib.hid hf
 cases f
 · go_wp2_with fail
   go_ret
   exact ⟨ret_b (by unfold sameC CpV.testsL; rw [Hs.out, Ht.out, Hf.out]; rfl), b2⟩
 generalize h1 : (a.sc.alive == b.sc.alive) = u1
 have H1 := Lib.hid h1
 cases u1
 · go_wp2_with fail
   go_ret
   exact ⟨ret_b (by unfold sameC CpV.testsL; rw [Hs.out, Ht.out, Hf.out, H1.out]; rfl), b2⟩
 generalize h2 : (a.sc.killed == b.sc.killed) = u2
 have H2 := Lib.hid h2
 cases u2
 · go_wp2_with fail
   go_ret
   exact ⟨ret_b (by unfold sameC CpV.testsL; rw [Hs.out, Ht.out, Hf.out, H1.out, H2.out]; rfl), b2⟩
 generalize h3 : (a.sc.timeout == b.sc.timeout) = u3
 have H3 := Lib.hid h3
 cases u3
 · go_wp2_with fail
   go_ret
   exact ⟨ret_b (by unfold sameC CpV.testsL; rw [Hs.out, Ht.out, Hf.out, H1.out, H2.out, H3.out]; rfl), b2⟩
 · go_wp2_with fail
   go_ret
   exact ⟨ret_b (by unfold sameC CpV.testsL CpV.muts; rw [Hs.out, Ht.out, Hf.out, H1.out, H2.out, H3.out, Hm.out]; rfl), b2⟩
end Go.Proofs.YtcgglolckkeeiaaGreat
namespace Go.Proofs.YtcgglolckkeeiaaGreat
set_option linter.unusedVariables false
open Go.RowKit Go.Deep
def fewT (l : List IntsV) : Bool := decide (l.length ≤ 40 ∧ ∀ x ∈ l, x.l.length ≤ 40)
def okM (x : MtV) : Prop := x.m.d.path.length ≤ 60 ∧ x.m.digest.length ≤ 100
instance (x : MtV) : Decidable (okM x) := by unfold okM; infer_instance
def fewM (l : List MtV) : Bool := decide (l.length ≤ 250 ∧ ∀ x ∈ l, okM x)
theorem take_all_step {α : Type} {p : α → Prop} {l : List α} {k : Nat} {x : α} (h : ∀ y ∈ l.take k, p y) (hx : l[k]? = some x) (hp : p x) : ∀ y ∈ l.take (k + 1), p y := by
 rw [List.take_add_one, hx]
 intro y hy
 rcases List.mem_append.1 hy with hy | hy
 · exact h y hy
 · simp at hy; subst hy; exact hp
set_option maxRecDepth 100000 in
set_option maxHeartbeats 2000000 in
theorem fewT_any (A : Option Addr) (cap : Nat) (l : List IntsV) (w : World) (hr : Rd w A (tstC l)) :
 Calls Tryz.prog 82 #[.slice A l.length cap] w fun e w' => e = .returned (.bool (fewT l)) ∧ w = w' := by
 have Hr := Lib.hid hr
 clear hr
 by_cases h40 : l.length ≤ 40
 rotate_left
 · have hz : fewT l = false := by unfold fewT; rw [decide_eq_false_iff_not]; exact fun h => h40 h.1
   have Hz := Lib.hid hz
   have h41 : (40 : Int) < (l.length : Int) := by omega
   clear hz h40
   go_enter Tryz.func82, Tryz.ntmps82
   go_wp2
   go_ret
   exact ⟨ret_b Hz.out, rfl⟩
 have h41 : (l.length : Int) ≤ 40 := by omega
 have H40 := Lib.hid h40
 clear h40
 go_enter Tryz.func82, Tryz.ntmps82
 go_wp2
 go_loop [3] (fun i => ∃ k : Nat, i = .int .i64 (k : Int) ∧ k ≤ l.length ∧ Hid (∀ x ∈ l.take k, x.l.length ≤ 40)) (fun i => l.length - (intOf i).toNat)
 case atStart => exact ⟨0, rfl, Nat.zero_le _, Lib.hid (fun x hx => by simp at hx)⟩
 case round =>
  obtain ⟨k, rfl, hk, Hall⟩ := hrel
  by_cases hlt : k < l.length
  · obtain ⟨x, hx⟩ : ∃ x, l[k]? = some x := ⟨_, List.getElem?_eq_getElem hlt⟩
    obtain ⟨ad, had, hc0⟩ := rd_map_at Hr.out hx
    have hc : w.cell? (ad.add k) = some (.slice x.addr x.l.length x.cap) := hc0
    have Hx := Lib.hid hx
    have hltI : (k : Int) < (l.length : Int) := by omega
    clear hx hlt hc0
    subst had
    by_cases hs : x.l.length ≤ 40
    · have hs1 : (x.l.length : Int) ≤ 40 := by omega
      have Hn := Lib.hid (take_all_step (p := fun x : IntsV => x.l.length ≤ 40) Hall.out Hx.out hs)
      clear hs
      go_wp2
      go_round
      case rel => exact ⟨k + 1, by go_num, by omega, Hn⟩
      case measure => simp [intOf]; omega
    · have hs1 : (40 : Int) < (x.l.length : Int) := by omega
      have hz : fewT l = false := by unfold fewT; rw [decide_eq_false_iff_not]; exact fun h => hs (h.2 x (List.mem_of_getElem? Hx.out))
      have Hz := Lib.hid hz
      clear hz hs
      go_wp2
      go_ret
      exact ⟨ret_b Hz.out, rfl⟩
  · obtain rfl : k = l.length := by omega
    have hz : fewT l = true := by unfold fewT; rw [decide_eq_true_eq]; exact ⟨H40.out, by have := Hall.out; rwa [List.take_length] at this⟩
    have Hz := Lib.hid hz
    clear hz hlt hk
    go_wp2
    go_ret
    exact ⟨ret_b Hz.out, rfl⟩
theorem add_zero' (a : Addr) : a.add 0 = a := by unfold Addr.add; rw [if_pos rfl]
set_option maxRecDepth 100000 in
set_option maxHeartbeats 2000000 in
theorem fewM_any (A : Option Addr) (cap : Nat) (l : List MtV) (w : World) (hr : Rd w A (mtsC l)) :
 Calls Tryz.prog 32 #[.slice A l.length cap] w fun e w' => e = .returned (.bool (fewM l)) ∧ w = w' := by
 have Hr := Lib.hid hr
 clear hr
 by_cases h40 : l.length ≤ 250
 rotate_left
 · have hz : fewM l = false := by unfold fewM; rw [decide_eq_false_iff_not]; exact fun h => h40 h.1
   have Hz := Lib.hid hz
   have h41 : (250 : Int) < (l.length : Int) := by omega
   clear hz h40
   go_enter Tryz.func32, Tryz.ntmps32
   go_wp2
   go_ret
   exact ⟨ret_b Hz.out, rfl⟩
 have h41 : (l.length : Int) ≤ 250 := by omega
 have H40 := Lib.hid h40
 clear h40
 go_enter Tryz.func32, Tryz.ntmps32
 go_wp2
 go_loop [3] (fun i => ∃ k : Nat, i = .int .i64 (k : Int) ∧ k ≤ l.length ∧ Hid (∀ x ∈ l.take k, okM x)) (fun i => l.length - (intOf i).toNat)
 case atStart => exact ⟨0, rfl, Nat.zero_le _, Lib.hid (fun x hx => by simp at hx)⟩
 case round =>
  obtain ⟨k, rfl, hk, Hall⟩ := hrel
  by_cases hlt : k < l.length
  · obtain ⟨x, hx⟩ : ∃ x, l[k]? = some x := ⟨_, List.getElem?_eq_getElem hlt⟩
    obtain ⟨ad, had, hc0⟩ := mt_at Hr.out hx
    have hc1 : w.cell? (ad.add (k * 8)) = some (.slice x.A x.m.d.path.length x.cap) := by have := hc0 0 _ rfl; rwa [add_zero'] at this
    have hc2 : w.cell? ((ad.add (k * 8)).add 7) = some (.string ⟨x.m.digest.toArray⟩) := hc0 7 _ rfl
    have hc3 : w.cell? ⟨(ad.add (k * 8)).block, (ad.add (k * 8)).off + 7, none⟩ = some (.string ⟨x.m.digest.toArray⟩) := hc2
    clear hc2
    have Hx := Lib.hid hx
    have hltI : (k : Int) < (l.length : Int) := by omega
    clear hx hlt hc0
    subst had
    by_cases hs : x.m.d.path.length ≤ 60
    · have hs1 : (x.m.d.path.length : Int) ≤ 60 := by omega
      by_cases ht : x.m.digest.length ≤ 100
      · have ht1 : (x.m.digest.length : Int) ≤ 100 := by omega
        have Hn := Lib.hid (take_all_step (p := okM) Hall.out Hx.out ⟨hs, ht⟩)
        clear hs ht
        go_wp2
        go_round
        case rel => exact ⟨k + 1, by go_num, by omega, Hn⟩
        case measure => simp [intOf]; omega
      · have ht1 : (100 : Int) < (x.m.digest.length : Int) := by omega
        have hz : fewM l = false := by unfold fewM; rw [decide_eq_false_iff_not]; exact fun h => ht (h.2 x (List.mem_of_getElem? Hx.out)).2
        have Hz := Lib.hid hz
        clear hz hs ht
        go_wp2
        go_ret
        exact ⟨ret_b Hz.out, rfl⟩
    · have hs1 : (60 : Int) < (x.m.d.path.length : Int) := by omega
      have hz : fewM l = false := by unfold fewM; rw [decide_eq_false_iff_not]; exact fun h => hs (h.2 x (List.mem_of_getElem? Hx.out)).1
      have Hz := Lib.hid hz
      clear hz hs
      go_wp2
      go_ret
      exact ⟨ret_b Hz.out, rfl⟩
  · obtain rfl : k = l.length := by omega
    have hz : fewM l = true := by unfold fewM; rw [decide_eq_true_eq]; exact ⟨H40.out, by have := Hall.out; rwa [List.take_length] at this⟩
    have Hz := Lib.hid hz
    clear hz hlt hk
    go_wp2
    go_ret
    exact ⟨ret_b Hz.out, rfl⟩
structure CpRaw (W : World) (c : CpV) : Prop where
 pok : c.p.ok W
 trd : Rd W c.tA (tstC c.tests)
 tok : ∀ x ∈ c.tests, x.ok W
 tnil : c.tA = none → c.tests = []
 mrd : Rd W c.mA (mtsC c.mts)
 mok : ∀ x ∈ c.mts, Rd W x.A (ints x.m.d.path) ∧ (x.A = none → x.m.d.path = [])
 mnil : c.mA = none → c.mts = []
theorem CpRaw.go {W W' : World} {c : CpV} (h : CpRaw W c) (b : Below W.heap.size W W') : CpRaw W' c :=
 ⟨h.pok.go b, h.trd.go b, fun x hx => (h.tok x hx).go b, h.tnil, h.mrd.go b, fun x hx => ⟨(h.mok x hx).1.go b, (h.mok x hx).2⟩, h.mnil⟩
instance St.cpraw {c : CpV} : St (fun W => CpRaw W c) := ⟨fun h b => h.go b⟩
def fewC (c : CpV) : Bool := fewP c.p && (fewT c.tests && fewM c.mts)
set_option maxRecDepth 100000 in
set_option maxHeartbeats 2000000 in
theorem fewC_any (c : CpV) (w : World) (hc : CpRaw w c) :
 Calls Tryz.prog 30 #[.agg c.cells] w fun e w' => e = .returned (.bool (fewC c)) ∧ Below w.heap.size w w' := by
 have Hc := Lib.hid hc
 clear hc
 go_enter Tryz.func30, Tryz.ntmps30
 go_wp2_with (refine at_box _ _ rfl ?_)
 refine Stop.to ?_
 refine wpList_box_gen rfl 31 _ rfl c.cells rfl ?_
 intro G Gw Gh Gr Gb
 have b1 := (Below.refl w.heap.size w).trans (Gb.mono Gh)
 have Hp := Lib.hid (few_any c.p Gw)
 have hG : Hid (Gw.heap.size ≤ Gw.heap.size) := Nat.le_refl _
 go_wp2_with (first | (refine wpList_load_at rfl 25 _ rfl ⟨G, 0, none⟩ rfl c.p.cells.toList _ (cp_head Gr) Tryz.underlying25 rfl (by kernel_rfl) ?_))
 refine Hp.out.mono ?_
 rintro e w1 ⟨rfl, b2⟩
 have b3 := b1.trans (b2.mono b1.size)
 have rG := Gr.below b2 Gr.lt
 clear Gr Gb Gh Hp b1 b2 hG
 have c3 := rG.cellv (i := 3) (v := .slice c.tA c.tests.length c.tcap) rfl
 have c5 := rG.cellv (i := 5) (v := .slice c.mA c.mts.length c.mcap) rfl
 have Ht := Lib.hid (fewT_any c.tA c.tcap c.tests w1 (Hc.out.go b3).trd)
 have Hm := Lib.hid (fewM_any c.mA c.mcap c.mts w1 (Hc.out.go b3).mrd)
 clear rG
 generalize hp : fewP c.p = p
 have Hp := Lib.hid hp
 clear hp
 cases p
 · go_wp2_with fail
   refine Hm.out.mono ?_
   rintro e w2 ⟨rfl, rfl⟩
   go_wp2_with fail
   go_ret
   exact ⟨ret_b (by unfold fewC; rw [Hp.out]; rfl), b3⟩
 · go_wp2_with fail
   refine Ht.out.mono ?_
   rintro e w2 ⟨rfl, rfl⟩
   generalize ht : fewT c.tests = t
   have Ht' := Lib.hid ht
   clear ht Ht
   go_wp2_with fail
   refine Hm.out.mono ?_
   rintro e w2 ⟨rfl, rfl⟩
   generalize hm : fewM c.mts = m
   have Hm' := Lib.hid hm
   clear hm Hm
   cases t
   · go_wp2_with fail
     go_ret
     exact ⟨ret_b (by unfold fewC; rw [Hp.out, Ht'.out]; rfl), b3⟩
   · go_wp2_with fail
     go_ret
     exact ⟨ret_b (by unfold fewC; rw [Hp.out, Ht'.out, Hm'.out]; rfl), b3⟩
theorem fewC_of {c : CpV} (h : fewC c = true) : c.p.body.length ≤ 60 ∧ c.p.V.length ≤ 20 ∧ c.tests.length ≤ 40 ∧ (∀ x ∈ c.tests, x.l.length ≤ 40) ∧ c.mts.length ≤ 250 ∧ ∀ x ∈ c.mts, okM x := by
 unfold fewC fewP fewT fewM at h
 simp only [Bool.and_eq_true, decide_eq_true_eq] at h
 exact ⟨by omega, by omega, h.2.1.1, h.2.1.2, h.2.2.1, h.2.2.2⟩
theorem CpRaw.ok {W : World} {c : CpV} (h : CpRaw W c) (hf : fewC c = true) : CpOk W c := by
 obtain ⟨h1, h2, h3, h4, h5, h6⟩ := fewC_of hf
 exact ⟨h.pok, by omega, by omega, h.trd, h.tok, by omega, fun x hx => by have := h4 x hx; omega, h.tnil, h.mrd, fun x hx => ⟨(h.mok x hx).1, by have := (h6 x hx).1; omega, (h.mok x hx).2, by have := (h6 x hx).2; omega⟩, by omega, h.mnil⟩
set_option maxRecDepth 100000 in
set_option maxHeartbeats 2000000 in
theorem few25_any (a b : CpV) (w : World) (ha : CpRaw w a) (hb : CpRaw w b) :
 Calls Tryz.prog 16 #[.agg a.cells, .agg b.cells] w fun e w' => e = .returned (.bool (fewC a && fewC b)) ∧ Below w.heap.size w w' := by
 have Ha := Lib.hid ha
 have Hb := Lib.hid hb
 clear ha hb
 go_enter Tryz.func16, Tryz.ntmps16
 go_wp2_with (refine at_box _ _ rfl ?_)
 refine Stop.to ?_
 refine wpList_box_gen rfl 31 _ rfl a.cells rfl ?_
 intro G Gw Gh Gr Gb
 go_wp2_with (refine at_box _ _ rfl ?_)
 refine Stop.to ?_
 refine wpList_box_gen rfl 31 _ rfl b.cells rfl ?_
 intro J Jw Jh Jr Jb
 have rG := Gr.below Jb (Nat.lt_of_lt_of_le Gr.lt Jh)
 have rJ := Jr
 have b1 := (Below.refl w.heap.size w).trans (Gb.mono Gh)
 have b2 := b1.trans ((Jb.mono Jh).mono b1.size)
 clear Gr Gb Gh Jb Jh Jr b1
 have H1 := Lib.hid (fewC_any a Jw (Ha.out.go b2))
 go_wp2_with (refine wpList_load_row rfl 31 _ rfl G rfl 31 a.cells (0, 0) _ rG Tryz.underlying31 rfl (by kernel_rfl) ?_)
 refine H1.out.mono ?_
 rintro e w1 ⟨rfl, b3⟩
 have b4 := b2.trans (b3.mono b2.size)
 replace rJ := rJ.below b3 rJ.lt
 clear b2 b3 H1 rG
 generalize hp : fewC a = p
 have Hp := Lib.hid hp
 clear hp
 cases p
 · go_wp2_with fail
   go_ret
   exact ⟨ret_b (by rw [Hp.out]; rfl), b4⟩
 have H2 := Lib.hid (fewC_any b w1 (Hb.out.go b4))
 go_wp2_with (refine wpList_load_rowG rfl 31 _ rfl J rfl 31 b.cells (0, 0) _ rJ Tryz.underlying31 rfl (by kernel_rfl) ?_)
 refine H2.out.mono ?_
 rintro e w2 ⟨rfl, b5⟩
 have b6 := b4.trans (b5.mono b4.size)
 clear H2 b5 b4 rJ
 go_wp2_with fail
 go_ret
 exact ⟨ret_b (by rw [Hp.out]; rfl), b6⟩
end Go.Proofs.YtcgglolckkeeiaaGreat
