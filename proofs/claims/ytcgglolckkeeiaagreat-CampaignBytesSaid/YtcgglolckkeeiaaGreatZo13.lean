/- Lemmas for CoAll. -/
import Derived.Test.YtcgglolckkeeiaaGreatZo8
import Derived.Test.YtcgglolckkeeiaaGreatZo12
import Derived.Test.YtcgglolckkeeiaaGreatZo9
import Derived.Test.YtcgglolckkeeiaaGreatZo7
import Derived.Lib.SlicesCompact
import Derived.Shelf.Small.Bits
import Derived.Shelf.Strconv.Itoa0
import Derived.Shelf.Sort.Plain
import Derived.Shelf.Bits.Mul64
import Derived.Shelf.Slices.Clone
import Derived.Shelf.Slices.CompactI
import Derived.Shelf.Slices.SearchI
import Derived.Shelf.Slices.Cells
import Derived.Shelf.Slices.In.SortNone
import Derived.Shelf.SlicesE.Clone
import Derived.Test.YtcgglolckkeeiaaGreatRows
import Derived.WalkKit
set_option linter.unusedVariables false
set_option linter.unusedSimpArgs false
namespace Go.Proofs.YtcgglolckkeeiaaGreat
open Go.RowKit Go.Deep
def idxZ {α : Type} (p : α → Bool) (l : List α) : Int := match l.findIdx? p with | some i => (i : Int) | none => -1
theorem idxZ_yes {α : Type} {p : α → Bool} {l : List α} {k : Nat} {x : α} (h : ∀ y ∈ l.take k, p y = false) (hx : l[k]? = some x) (hp : p x = true) : idxZ p l = (k : Int) := by
 unfold idxZ
 have hl := (List.getElem?_eq_some_iff.1 hx).1
 have : l.findIdx? p = some k := by
  rw [List.findIdx?_eq_some_iff_getElem]
  refine ⟨hl, by rw [(List.getElem?_eq_some_iff.1 hx).2]; exact hp, fun j hj => ?_⟩
  rw [h _ (List.mem_take_iff_getElem.2 ⟨j, by omega, rfl⟩)]; simp
 rw [this]
theorem idxZ_no {α : Type} {p : α → Bool} {l : List α} (h : ∀ y ∈ l, p y = false) : idxZ p l = -1 := by
 unfold idxZ
 have : l.findIdx? p = none := by rw [List.findIdx?_eq_none_iff]; exact h
 rw [this]
theorem idxZ_any {α : Type} (p : α → Bool) (l : List α) : decide (0 ≤ idxZ p l) = l.any p := by
 unfold idxZ
 cases h : l.findIdx? p with
 | none =>
  rw [List.findIdx?_eq_none_iff] at h
  simp; intro x hx; simpa using h x hx
 | some i =>
  rw [List.findIdx?_eq_some_iff_getElem] at h
  obtain ⟨hl, hp, _⟩ := h
  simp; exact ⟨l[i], List.getElem_mem hl, hp⟩
theorem take_allB_step {α : Type} {p : α → Bool} {l : List α} {k : Nat} {x : α} (h : ∀ y ∈ l.take k, p y = false) (hx : l[k]? = some x) (hp : p x = false) : ∀ y ∈ l.take (k + 1), p y = false := by
 rw [List.take_add_one, hx]
 intro y hy
 rcases List.mem_append.1 hy with hy | hy
 · exact h y hy
 · simp at hy; subst hy; exact hp
set_option maxRecDepth 100000 in
set_option maxHeartbeats 4000000 in
theorem idxNd_any (A : Option Addr) (cap : Nat) (l : List Nd) (p : Nd → Bool) (w : World) (S : World → Prop) [stS : St S] (hS : S w) (hrd : ∀ W, S W → Rd W A (l.flatMap Nd.cells)) (hlo : ∀ W, S W → Below w.heap.size w W)
 (hp : ∀ x ∈ l, ∀ W, S W → Calls Tryz.prog 151 #[.agg x.cells.toArray] W fun e W' => e = .returned (.bool (p x)) ∧ Below W.heap.size W W') (hl : l.length ≤ 1000000) :
 Calls Tryz.prog 185 #[.slice A l.length cap, .func (.func 151) #[] #[]] w fun e w' => e = .returned (.int .i64 (idxZ p l)) ∧ Below w.heap.size w w' := by
 have Hp := Lib.hid hp
 have Hrd := Lib.hid hrd
 have Hlo := Lib.hid hlo
 have hl' : (l.length : Int) ≤ 1000000 := by omega
 clear hp hrd hlo hl
 go_enter Tryz.func185, Tryz.ntmps185
 go_wp2
 go_loopw [8] (fun i wr => ∃ k : Nat, i = .int .i64 (k : Int) ∧ k ≤ l.length ∧ Hid (∀ y ∈ l.take k, p y = false) ∧ S wr) (fun i _ => l.length - (intOf i).toNat)
 case atStart => exact ⟨0, rfl, Nat.zero_le _, Lib.hid (fun x hx => by simp at hx), hS⟩
 case round =>
  clear hS
  obtain ⟨k, rfl, hk, Hall, hS⟩ := hrel
  by_cases hlt : k < l.length
  · obtain ⟨x, hx⟩ : ∃ x, l[k]? = some x := ⟨_, List.getElem?_eq_getElem hlt⟩
    obtain ⟨ad, had, hcx⟩ := nd_at (Hrd.out _ hS) hx
    have Hcx : Hid (∀ j u, x.cells[j]? = some u → wr.cell? ((ad.add (k * 2)).add j) = some u) := hcx
    have Hx := Lib.hid hx
    have Hcall := Lib.hid (Hp.out x (List.mem_of_getElem? hx) wr hS)
    have hltI : (k : Int) < (l.length : Int) := by omega
    clear hx hlt hcx
    subst had
    go_wp2_with (refine wpList_load_at rfl 74 _ rfl (ad.add (k * 2)) rfl x.cells _ Hcx.out Tryz.underlying74 rfl (by kernel_rfl) ?_)
    refine Hcall.out.mono ?_
    rintro e w' ⟨rfl, b1⟩
    replace hS := stS.go hS b1
    clear b1 Hcall Hcx
    cases hs : p x
    · have Hn := Lib.hid (take_allB_step Hall.out Hx.out hs)
      clear hs Hx
      go_wp2_with fail
      go_roundw
      case rel => exact ⟨k + 1, by go_num, by omega, Hn, hS⟩
      case measure => simp [intOf]; omega
    · have Hn := Lib.hid (idxZ_yes Hall.out Hx.out hs)
      clear hs Hx
      go_wp2_with fail
      go_ret
      exact ⟨by rw [Hn.out]; rfl, Hlo.out _ hS⟩
  · obtain rfl : k = l.length := by omega
    have Hn := Lib.hid (idxZ_no (p := p) (l := l) (by have := Hall.out; rwa [List.take_length] at this))
    clear hlt hk
    go_wp2
    go_ret
    exact ⟨by rw [Hn.out]; rfl, Hlo.out _ hS⟩
set_option maxRecDepth 100000 in
set_option maxHeartbeats 4000000 in
theorem contNd_any (A : Option Addr) (cap : Nat) (l : List Nd) (p : Nd → Bool) (w : World) (S : World → Prop) [stS : St S] (hS : S w) (hrd : ∀ W, S W → Rd W A (l.flatMap Nd.cells)) (hlo : ∀ W, S W → Below w.heap.size w W)
 (hp : ∀ x ∈ l, ∀ W, S W → Calls Tryz.prog 151 #[.agg x.cells.toArray] W fun e W' => e = .returned (.bool (p x)) ∧ Below W.heap.size W W') (hl : l.length ≤ 1000000) :
 Calls Tryz.prog 150 #[.slice A l.length cap, .func (.func 151) #[] #[]] w fun e w' => e = .returned (.bool (l.any p)) ∧ Below w.heap.size w w' := by
 have Hc := Lib.hid (idxNd_any A cap l p w S hS hrd hlo hp hl)
 clear hp hrd hlo hl hS
 go_enter Tryz.func150, Tryz.ntmps150
 go_wp2_with fail
 refine Hc.out.mono ?_
 rintro e w' ⟨rfl, b1⟩
 have Ha := Lib.hid (idxZ_any p l)
 clear Hc
 go_wp2_with fail
 go_ret
 exact ⟨ret_b Ha.out.symm, b1⟩
set_option maxRecDepth 100000 in
set_option maxHeartbeats 4000000 in
theorem check1_any (x : Nd) (w : World) :
 Calls Tryz.prog 151 #[.agg x.cells.toArray] w fun e w' => e = .returned (.bool (decide (arityZ x < 0))) ∧ Below w.heap.size w w' := by
 go_enter Tryz.func151, Tryz.ntmps151
 go_wp2_with (refine at_box _ _ rfl ?_)
 refine Stop.to ?_
 refine wpList_box_gen rfl 74 _ rfl x.cells.toArray rfl ?_
 intro G Gw Gh Gr Gb
 have b1 := (Below.refl w.heap.size w).trans (Gb.mono Gh)
 have Ha := Lib.hid (arity_any x Gw)
 clear Gb Gh
 go_wp2_with (refine wpList_load_row rfl 74 _ rfl G rfl 74 x.cells.toArray (0, 0) _ Gr Tryz.underlying74 rfl (by kernel_rfl) ?_)
 refine Ha.out.mono ?_
 rintro e w1 ⟨rfl, b2⟩
 have b3 := b1.trans (b2.mono b1.size)
 clear Ha Gr b1 b2
 go_wp2_with fail
 go_ret
 exact ⟨rfl, b3⟩
end Go.Proofs.YtcgglolckkeeiaaGreat
namespace Go.Proofs.YtcgglolckkeeiaaGreat
open Go.RowKit Go.Deep
set_option maxRecDepth 100000 in
set_option maxHeartbeats 4000000 in
theorem aCheck_any (A : Option Addr) (cap : Nat) (l : List Nd) (w : World) (hr : Rd w A (l.flatMap Nd.cells)) (hl : l.length ≤ 1000) :
 Calls Tryz.prog 113 #[.slice A l.length cap] w fun e w' => e = .returned (.int .i64 (checkA l)) ∧ Below w.heap.size w w' := by
 by_cases h0 : l.length = 0
 · have Hz := Lib.hid (checkA_0 h0)
   rw [h0]
   clear hr hl h0
   go_enter Tryz.func113, Tryz.ntmps113
   go_wp2_with fail
   go_ret
   exact ⟨ret_i' Hz.out.symm, Below.refl _ _⟩
 have e0 : ((l.length : Int) == 0) = false := by rw [beq_eq_false_iff_ne]; omega
 by_cases h1 : 200 < l.length
 · have Hz := Lib.hid (checkA_1 h1)
   have e1 : 200 < (l.length : Int) := by omega
   clear hr hl h0 h1
   go_enter Tryz.func113, Tryz.ntmps113
   go_wp2_with fail
   go_ret
   exact ⟨ret_i' Hz.out.symm, Below.refl _ _⟩
 have e1 : ¬ (200 < (l.length : Int)) := by omega
 have Hc := Lib.hid (contNd_any A cap l (fun x => decide (arityZ x < 0)) w (fun W => Rd W A (l.flatMap Nd.cells) ∧ Below w.heap.size w W) ⟨hr, Below.refl _ _⟩ (fun W h => h.1) (fun W h => h.2) (fun x _ W _ => check1_any x W) (by omega))
 have He := Lib.hid (fun W h => end_any A cap l (0 : Int) W h hl)
 have Hr := Lib.hid hr
 have H0 := Lib.hid h0
 have H1 := Lib.hid h1
 have Hl := Lib.hid hl
 clear hr hl h0 h1
 obtain ⟨b, hb⟩ : ∃ b, b = l.any fun x => decide (arityZ x < 0) := ⟨_, rfl⟩
 rw [← hb] at Hc
 go_enter Tryz.func113, Tryz.ntmps113
 go_wp2_with fail
 refine Hc.out.mono ?_
 rintro e w1 ⟨rfl, b1⟩
 clear Hc
 cases b
 rotate_left
 · obtain ⟨x, hx, hn⟩ := List.any_eq_true.1 hb.symm
   have Hz := Lib.hid (checkA_2 H0.out H1.out hx (by simpa using hn))
   clear hb hx hn
   go_wp2_with fail
   go_ret
   exact ⟨ret_i' Hz.out.symm, b1⟩
 have h2 : ∀ x ∈ l, ¬ arityZ x < 0 := fun x hx hn => by
  have := List.any_eq_false.1 hb.symm x hx
  simp at this; omega
 have H2 := Lib.hid h2
 clear hb h2
 go_wp2_with fail
 refine (He.out w1 (Hr.out.go b1)).mono ?_
 rintro e w2 ⟨rfl, b2⟩
 replace b1 := b1.trans (b2.mono b1.size)
 clear b2 He
 by_cases h3 : endZ l 0 = (l.length : Int)
 rotate_left
 · have Hz := Lib.hid (checkA_3 H0.out H1.out (fun x hx hn => by have := H2.out x hx; omega) h3)
   have e3 : (endZ l 0 != (l.length : Int)) = true := by simpa using h3
   clear h3
   go_wp2_with fail
   go_ret
   exact ⟨ret_i' Hz.out.symm, b1⟩
 obtain ⟨t, ht⟩ := Whole.of h3
 have e3 : ((l.length : Int) != (l.length : Int)) = false := by simp
 have Hz := Lib.hid (checkA_4 H1.out (fun x hx hn => by have := H2.out x hx; omega) ht)
 have Hd : Hid (Calls Tryz.prog 154 #[.slice A l.length cap, .int .i64 0] w2 fun e w' => e = .returned (.int .i64 (depT t)) ∧ Below w2.heap.size w2 w') := depth_any A cap l Hl.out t.size t 0 (Nat.le_refl _) ht.hat w2 (Hr.out.go b1)
 rw [h3]
 clear h3 ht
 obtain ⟨d, hd⟩ : ∃ d, d = depT t := ⟨_, rfl⟩
 rw [← hd] at Hd Hz
 clear hd
 go_wp2_with fail
 refine Hd.out.mono ?_
 rintro e w3 ⟨rfl, b3⟩
 replace b1 := b1.trans (b3.mono b1.size)
 clear b3 Hd
 by_cases h4 : 30 < d
 · have Hz2 : Hid (checkA l = 13) := by have := Hz.out; rw [if_pos h4] at this; exact this
   clear Hz
   go_wp2_with fail
   go_ret
   exact ⟨ret_i' Hz2.out.symm, b1⟩
 · have Hz2 : Hid (checkA l = 0) := by have := Hz.out; rw [if_neg h4] at this; exact this
   clear Hz
   go_wp2_with fail
   go_ret
   exact ⟨ret_i' Hz2.out.symm, b1⟩
set_option maxRecDepth 100000 in
set_option maxHeartbeats 4000000 in
theorem kCheck_any (p : PgV) (hbl : p.body.length ≤ 1000) (w : World) (hok : p.ok w) :
 Calls Tryz.prog 69 #[.agg p.cells] w fun e w' => e = .returned (.int .i64 (checkP p)) ∧ Below w.heap.size w w' := by
 have Hbl := Lib.hid hbl
 have Hok := Lib.hid hok
 clear hbl hok
 go_enter Tryz.func69, Tryz.ntmps69
 go_wp2_with (refine at_box _ _ rfl ?_)
 refine Stop.to ?_
 refine wpList_box_gen rfl 25 _ rfl p.cells rfl ?_
 intro G Gw Gh Gr Gb
 have b1 := (Below.refl w.heap.size w).trans (Gb.mono Gh)
 have Hok1 := Lib.hid (Hok.out.go b1)
 have c2 := Gr.cellv (i := 2) (v := .slice p.ba p.body.length p.bcap) rfl
 have Hs := Lib.hid (aCheck_any p.ba p.bcap p.body Gw Hok1.out.brd Hbl.out)
 clear Gb Gh Hok
 go_wp2_with fail
 refine Hs.out.mono ?_
 rintro e w1 ⟨rfl, b2⟩
 replace Gr := Gr.below b2 Gr.lt
 replace b1 := b1.trans (b2.mono b1.size)
 replace Hok1 := Lib.hid (Hok1.out.go b2)
 clear b2 Hs c2
 obtain ⟨a, ha⟩ : ∃ a, a = checkA p.body := ⟨_, rfl⟩
 rw [← ha]
 by_cases h0 : a = 0
 rotate_left
 · have Hz : Hid (checkP p = a) := by show _ = _; rw [checkP_0 (by rw [← ha]; exact h0), ← ha]
   have e0 : (a != 0) = true := by simpa using h0
   clear ha h0
   go_wp2_with fail
   go_ret
   exact ⟨ret_i' Hz.out.symm, b1⟩
 subst h0
 have Ha := Lib.hid ha.symm
 have Hs := Lib.hid (vars_any p w1 Hok1.out)
 clear ha
 go_wp2_with (refine wpList_load_row rfl 25 _ rfl G rfl 25 p.cells (0, 0) _ Gr Tryz.underlying25 rfl (by kernel_rfl) ?_)
 refine Hs.out.mono ?_
 rintro e w2 ⟨rfl, b2⟩
 replace Gr := Gr.below b2 Gr.lt
 replace b1 := b1.trans (b2.mono b1.size)
 replace Hok1 := Lib.hid (Hok1.out.go b2)
 clear b2 Hs
 obtain ⟨v, hv⟩ : ∃ v, v = varsE p.params p.V := ⟨_, rfl⟩
 rw [← hv]
 by_cases h0 : v = 0
 rotate_left
 · have h14 : v = 14 := by rcases varsE_cases p.params p.V with h | h <;> omega
   have Hz : Hid (checkP p = 14) := checkP_1 Ha.out (by rw [← hv]; exact h0)
   subst h14
   clear hv h0
   go_wp2_with fail
   go_ret
   exact ⟨ret_i' Hz.out.symm, b1⟩
 subst h0
 have Hv := Lib.hid hv.symm
 obtain ⟨hl2, har, t, ht, hdp⟩ := checkA_ok Ha.out
 have Ht := Lib.hid ht
 have Hs : Hid (∀ W, p.ok W → Calls Tryz.prog 115 #[.agg p.cells, .int .i64 0] W fun e w' => e = .returned (.int .i64 (ofT p.V t)) ∧ Below W.heap.size W w') := fun W h => kOf_tree p Hbl.out t 0 Ht.out.hat W h
 obtain ⟨ad, had, hc⟩ := nd_at Hok1.out.brd ht.hat.root
 have c2 := Gr.cellv (i := 2) (v := .slice p.ba p.body.length p.bcap) rfl
 have c0 := hc 0 _ rfl
 have hpos : (0 : Int) < (p.body.length : Int) := by have := ht.pos; omega
 simp only [Nat.zero_mul, add_zero'] at c0
 rw [had] at c2
 have Hvo : Hid (varsOk p.params p.V) := by rcases varsE_cases p.params p.V with h | h; exact h.2; have := Hv.out; omega
 clear hv hl2 har hdp ht hc
 by_cases h20 : t.root.tag = 20
 rotate_left
 · have Hz : Hid (checkP p = 15) := checkP_2 Ha.out Hv.out (not_good_tree Ht.out.hat (fun h => h20 h.1))
   have e20 : (t.root.tag != 20) = true := by simpa using h20
   clear h20
   go_wp2_with fail
   go_ret
   exact ⟨ret_i' Hz.out.symm, b1⟩
 have e20 : (t.root.tag != 20) = false := by simp [h20]
 have H20 := Lib.hid h20
 clear h20
 go_wp2_with (refine wpList_load_rowG rfl 25 _ rfl G rfl 25 p.cells (0, 0) _ Gr Tryz.underlying25 rfl (by kernel_rfl) ?_)
 refine (Hs.out w2 Hok1.out).mono ?_
 rintro e w3 ⟨rfl, b2⟩
 replace b1 := b1.trans (b2.mono b1.size)
 clear b2 Hs c0 c2
 obtain ⟨k, hk⟩ : ∃ k, k = ofT p.V t := ⟨_, rfl⟩
 rw [← hk]
 by_cases h2 : k = 2
 · subst h2
   have Hz : Hid (checkP p = 0) := checkP_3 Ha.out Hv.out ⟨Ht.out.hat, Ht.out.size, Hvo.out, H20.out, hk.symm⟩
   clear hk
   go_wp2_with fail
   go_ret
   exact ⟨ret_i' Hz.out.symm, b1⟩
 · have Hz : Hid (checkP p = 15) := checkP_2 Ha.out Hv.out (not_good_tree Ht.out.hat (fun h => h2 (by rw [hk]; exact h.2)))
   have e2 : (k != 2) = true := by simpa using h2
   clear hk h2
   go_wp2_with fail
   go_ret
   exact ⟨ret_i' Hz.out.symm, b1⟩
end Go.Proofs.YtcgglolckkeeiaaGreat
namespace Go.Proofs.YtcgglolckkeeiaaGreat
open Go.RowKit
theorem insU_le (a : Int) : ∀ l : List Int, (insU a l).length ≤ l.length + 1
 | [] => by simp [insU]
 | b :: l => by
  rw [insU]
  split
  · simp
  · split
    · simp
    · have := insU_le a l; simp; omega
theorem sortU_le : ∀ l : List Int, (sortU l).length ≤ l.length
 | [] => by simp [sortU]
 | a :: l => by have := insU_le a (sortU l); have := sortU_le l; rw [sortU]; simp; omega
theorem riseI_of : ∀ {l : List Int}, l.Pairwise (· < ·) → riseI l
 | [], _ => trivial
 | [_], _ => trivial
 | a :: b :: l, h => by
  rw [List.pairwise_cons] at h
  exact ⟨h.1 b (by simp), riseI_of h.2⟩
theorem compact_rise {s : List Int} (hs : s.Pairwise (· ≤ ·)) : riseI (Lib.compact s) ∧ ∀ x, x ∈ Lib.compact s ↔ x ∈ s := by
 have hget : ∀ j, j < s.length → ∃ x, s[j]? = some x ∧ s.toArray[j]! = x := fun j hj => ⟨s[j], List.getElem?_eq_getElem hj, by simp [hj]⟩
 have hmono : ∀ i j x y, i ≤ j → s[i]? = some x → s[j]? = some y → x ≤ y := fun i j x y hij hx hy => by
  rcases Nat.lt_or_eq_of_le hij with h | h
  · obtain ⟨h1, rfl⟩ := List.getElem?_eq_some_iff.1 hx
    obtain ⟨h2, rfl⟩ := List.getElem?_eq_some_iff.1 hy
    exact List.pairwise_iff_getElem.1 hs i j h1 h2 h
  · subst h; rw [hx] at hy; injection hy with hy; omega
 constructor
 · refine riseI_of ?_
   unfold Lib.compact Lib.compactUpTo
   rw [List.pairwise_map, List.pairwise_filter]
   rw [List.pairwise_iff_getElem]
   intro i j hi hj hij hki hkj
   simp only [List.getElem_range] at *
   rw [List.length_range] at hi hj
   unfold Lib.keeps at hkj
   rw [decide_eq_true_eq] at hkj
   obtain ⟨x, hx, hx'⟩ := hget i hi
   obtain ⟨y, hy, hy'⟩ := hget j hj
   obtain ⟨z, hz, hz'⟩ := hget (j - 1) (by omega)
   rw [hx', hy']
   rw [hy', hz'] at hkj
   have h1 := hmono i (j - 1) x z (by omega) hx hz
   have h2 := hmono (j - 1) j z y (by omega) hz hy
   rcases hkj with h | h <;> omega
 · intro x
   unfold Lib.compact Lib.compactUpTo
   rw [List.mem_map]
   constructor
   · rintro ⟨j, hj, rfl⟩
     have hj2 := List.mem_range.1 (List.mem_filter.1 hj).1
     obtain ⟨y, hy, hy'⟩ := hget j hj2
     rw [hy']; exact List.mem_of_getElem? hy
   · intro hx
     obtain ⟨j, hj, hjx⟩ := List.getElem_of_mem hx
     have : ∀ (n j : Nat), j ≤ n → s[j]? = some x → ∃ a : Nat, a ∈ (List.range s.length).filter (Lib.keeps s.toArray) ∧ s.toArray[a]! = x := by
      intro n
      induction n with
      | zero =>
       intro j hj0 hjx
       obtain rfl : j = 0 := by omega
       have hlt := (List.getElem?_eq_some_iff.1 hjx).1
       obtain ⟨y, hy, hy'⟩ := hget 0 hlt
       rw [hy] at hjx; injection hjx with hjx
       exact ⟨0, List.mem_filter.2 ⟨List.mem_range.2 hlt, by simp [Lib.keeps]⟩, by rw [hy', hjx]⟩
      | succ n ih =>
       intro j hjn hjx
       have hlt := (List.getElem?_eq_some_iff.1 hjx).1
       obtain ⟨y, hy, hy'⟩ := hget j hlt
       rw [hy] at hjx; injection hjx with hjx
       subst hjx
       by_cases hk : Lib.keeps s.toArray j = true
       · exact ⟨j, List.mem_filter.2 ⟨List.mem_range.2 hlt, hk⟩, hy'⟩
       · unfold Lib.keeps at hk
         rw [decide_eq_true_eq] at hk
         have hj0 : j ≠ 0 := fun e => hk (.inl e)
         obtain ⟨z, hz, hz'⟩ := hget (j - 1) (by omega)
         have hzy : z = y := by
          rcases Decidable.em (s.toArray[j]! = s.toArray[j - 1]!) with e | e
          · rw [hy', hz'] at e; exact e.symm
          · exact absurd (.inr e) hk
         exact ih (j - 1) (by omega) (by rw [hz, hzy])
     exact this j j (Nat.le_refl _) (by rw [List.getElem?_eq_getElem hj, hjx])
theorem sort_once (l : List Int) : Lib.compact (l.mergeSort fun x y => decide (x ≤ y)) = sortU l := by
 have hs : (l.mergeSort fun x y => decide (x ≤ y)).Pairwise (· ≤ ·) := by
  have := List.pairwise_mergeSort (le := fun x y : Int => decide (x ≤ y)) (fun a b c => by simp; omega) (fun a b => by simp; omega) l
  exact this.imp (by simp)
 obtain ⟨h1, h2⟩ := compact_rise hs
 refine riseI_ext h1 (sortU_rise l) fun x => ?_
 rw [h2, sortU_mem]
 exact (List.mergeSort_perm l _).mem_iff
end Go.Proofs.YtcgglolckkeeiaaGreat
namespace Go.Proofs.YtcgglolckkeeiaaGreat
open Go.Shelf
def lays189_ren : Go.Shelf.Ren := ⟨fun | 189 => 241 | 125 => 247 | 257 => 246 | 128 => 257 | 129 => 258 | 294 => 248 | 295 => 249 | 296 => 250 | 297 => 251 | 298 => 252 | 299 => 253 | 216 => 254 | 300 => 255 | 301 => 256 | 328 => 259 | 329 => 260 | 330 => 261 | 331 => 262 | 332 => 263 | 215 => 111 | 343 => 264 | n => n, fun | 28 => 22 | 3 => 3 | 46 => 247 | 0 => 0 | 51 => 150 | 53 => 55 | 4 => 4 | 183 => 299 | 182 => 298 | 131 => 304 | 5 => 5 | 9 => 9 | 218 => 307 | 222 => 136 | 228 => 312 | 229 => 231 | n => n, fun | n => n⟩
theorem lays189 : Go.Proofs.Lays.n189 Tryz.prog lays189_ren := {
 mixed := by kernel_rfl
 f125 := Tryz.func247.trans (congrArg some (by kernel_rfl))
 f128 := Tryz.func257.trans (congrArg some (by kernel_rfl))
 f129 := Tryz.func258.trans (congrArg some (by kernel_rfl))
 f189 := Tryz.func241.trans (congrArg some (by kernel_rfl))
 f215 := Tryz.func111.trans (congrArg some (by kernel_rfl))
 f216 := Tryz.func254.trans (congrArg some (by kernel_rfl))
 f257 := Tryz.func246.trans (congrArg some (by kernel_rfl))
 f294 := Tryz.func248.trans (congrArg some (by kernel_rfl))
 f295 := Tryz.func249.trans (congrArg some (by kernel_rfl))
 f296 := Tryz.func250.trans (congrArg some (by kernel_rfl))
 f297 := Tryz.func251.trans (congrArg some (by kernel_rfl))
 f298 := Tryz.func252.trans (congrArg some (by kernel_rfl))
 f299 := Tryz.func253.trans (congrArg some (by kernel_rfl))
 f300 := Tryz.func255.trans (congrArg some (by kernel_rfl))
 f301 := Tryz.func256.trans (congrArg some (by kernel_rfl))
 f328 := Tryz.func259.trans (congrArg some (by kernel_rfl))
 f329 := Tryz.func260.trans (congrArg some (by kernel_rfl))
 f330 := Tryz.func261.trans (congrArg some (by kernel_rfl))
 f331 := Tryz.func262.trans (congrArg some (by kernel_rfl))
 f332 := Tryz.func263.trans (congrArg some (by kernel_rfl))
 f343 := Tryz.func264.trans (congrArg some (by kernel_rfl))
 t0 := Tryz.underlying0
 a0 := Tryz.isAgg0
 z0 := Tryz.sizeOf0
 v0 := Tryz.zeroValue0
 t3 := Tryz.underlying3
 a3 := Tryz.isAgg3
 z3 := Tryz.sizeOf3
 v3 := Tryz.zeroValue3
 t4 := Tryz.underlying4
 a4 := Tryz.isAgg4
 z4 := Tryz.sizeOf4
 v4 := Tryz.zeroValue4
 t5 := Tryz.underlying5
 a5 := Tryz.isAgg5
 z5 := Tryz.sizeOf5
 v5 := Tryz.zeroValue5
 t9 := Tryz.underlying9
 a9 := Tryz.isAgg9
 z9 := Tryz.sizeOf9
 v9 := Tryz.zeroValue9
 t28 := Tryz.underlying22
 a28 := Tryz.isAgg22
 z28 := Tryz.sizeOf22
 v28 := Tryz.zeroValue22
 t46 := Tryz.underlying247
 a46 := Tryz.isAgg247
 z46 := Tryz.sizeOf247
 v46 := Tryz.zeroValue247
 t51 := Tryz.underlying150
 a51 := Tryz.isAgg150
 z51 := Tryz.sizeOf150
 v51 := Tryz.zeroValue150
 t53 := Tryz.underlying55
 a53 := Tryz.isAgg55
 z53 := Tryz.sizeOf55
 v53 := Tryz.zeroValue55
 t131 := Tryz.underlying304
 a131 := Tryz.isAgg304
 z131 := Tryz.sizeOf304
 v131 := Tryz.zeroValue304
 t182 := Tryz.underlying298
 a182 := Tryz.isAgg298
 z182 := Tryz.sizeOf298
 v182 := Tryz.zeroValue298
 t183 := Tryz.underlying299
 a183 := Tryz.isAgg299
 z183 := Tryz.sizeOf299
 v183 := Tryz.zeroValue299
 t218 := Tryz.underlying307
 a218 := Tryz.isAgg307
 z218 := Tryz.sizeOf307
 v218 := Tryz.zeroValue307
 t222 := Tryz.underlying136
 a222 := Tryz.isAgg136
 z222 := Tryz.sizeOf136
 v222 := Tryz.zeroValue136
 t228 := Tryz.underlying312
 a228 := Tryz.isAgg312
 z228 := Tryz.sizeOf312
 v228 := Tryz.zeroValue312
 t229 := Tryz.underlying231
 a229 := Tryz.isAgg231
 z229 := Tryz.sizeOf231
 v229 := Tryz.zeroValue231 }
open Go.Sort Go.RowKit in
theorem slices_Sort_int (blk off cap : Nat) (zs : List Int) (w : World) (hH : Holds (Value.int .i64) w blk off zs.toArray) (hblk : blk < w.heap.size) (hsz : zs.length < 4611686018427387904) :
 Calls Tryz.prog 241 #[.slice (some ⟨blk, off, none⟩) zs.length cap] w fun e w' =>
  e = .returned (.tuple #[]) ∧ ∃ n os, w' = grow (putRow (Value.int .i64) (Sort.ahead w n) blk off (zs.mergeSort fun x y => decide (x ≤ y)).toArray) os := Any.slices_Sort_int lays189 blk off cap zs w hH hblk hsz
def laysNm220_ren : Go.Shelf.Ren := ⟨fun | 20 => 242 | n => n, fun | 22 => 22 | 3 => 3 | 4 => 4 | 0 => 0 | n => n, fun | n => n⟩
theorem laysNm220 : Go.Proofs.Lays2.n20 Tryz.prog laysNm220_ren := {
 mixed := by kernel_rfl
 f20 := Tryz.func242.trans (congrArg some (by kernel_rfl))
 t0 := Tryz.underlying0
 a0 := Tryz.isAgg0
 z0 := Tryz.sizeOf0
 v0 := Tryz.zeroValue0
 t3 := Tryz.underlying3
 a3 := Tryz.isAgg3
 z3 := Tryz.sizeOf3
 v3 := Tryz.zeroValue3
 t4 := Tryz.underlying4
 a4 := Tryz.isAgg4
 z4 := Tryz.sizeOf4
 v4 := Tryz.zeroValue4
 t22 := Tryz.underlying22
 a22 := Tryz.isAgg22
 z22 := Tryz.sizeOf22
 v22 := Tryz.zeroValue22
 i3 := by kernel_rfl }
open Go.RowKit Go.Lib Go.Sort in
theorem slices_Compact_int (blk off cap : Nat) (zs : List Int) (w : World) (hH : Holds (Value.int .i64) w blk off zs.toArray) (hsz : zs.length ≤ 9223372036854775807) (hcap : zs.length ≤ cap) :
 Calls Tryz.prog 242 #[.slice (some ⟨blk, off, none⟩) zs.length cap] w fun e w' => e = .returned (.slice (some ⟨blk, off, none⟩) (Lib.compact zs).length cap) ∧ ∃ q, w' = putRow (Value.int .i64) (Sort.ahead w q) blk off (Lib.compact zs ++ List.replicate (zs.length - (Lib.compact zs).length) 0).toArray := Any.slices_Compact_int laysNm220 blk off cap zs w hH hsz hcap
end Go.Proofs.YtcgglolckkeeiaaGreat
namespace Go.Proofs.YtcgglolckkeeiaaGreat
open Go.RowKit Go.Deep
theorem putCells_all (d : Array Int) (cs : Array Value) (h : cs.size = d.size) : Sort.putCells (Value.int .i64) 0 d cs = d.map (Value.int .i64) := by
 unfold Sort.putCells
 apply Array.ext
 · simp [h]
 · intro i h1 h2
   have hi : i < d.size := by simpa using h2
   simp [hi]
theorem only_putRow {w : World} {g : Nat} {t : TypeId} {cs : Array Value} (hr : Row w g t cs) (d : Array Int) (h : cs.size = d.size) : Row (Sort.putRow (Value.int .i64) w g 0 d) g t (d.map (Value.int .i64)) ∧ Only g w (Sort.putRow (Value.int .i64) w g 0 d) := by
 unfold Sort.putRow Sort.mapBlock
 refine ⟨?_, rfl, rfl, rfl, by simp, fun k hk => ?_⟩
 · show (w.heap.modify g _)[g]? = _
   rw [Array.getElem?_modify, if_pos rfl, show w.heap[g]? = some (.cells cs t (0, 0)) from hr]
   simp [Sort.onCells, putCells_all d cs h]
 · show (w.heap.modify g _)[k]? = _
   rw [Array.getElem?_modify, if_neg (Ne.symm hk)]
theorem holds_row {w : World} {g : Nat} {t : TypeId} {l : List Int} (hr : Row w g t (ints l).toArray) : Sort.Holds (Value.int .i64) w g 0 l.toArray := fun j hj => by
 have hj' : j < l.length := by simpa using hj
 refine ⟨?_, by have := hr.free (0 + j); exact this⟩
 have := hr.cellv (i := j) (v := .int .i64 l[j]) (by simp [ints, hj'])
 rw [Nat.zero_add, this]; simp [hj']
theorem ints_arr (l : List Int) : l.toArray.map (Value.int .i64) = (ints l).toArray := by simp [ints]
structure OnRow (g : Nat) (w w' : World) : Prop where
 gr : w.grownBy w' (some g)
theorem OnRow.trans {g : Nat} {a b c : World} (h : OnRow g a b) (k : OnRow g b c) : OnRow g a c := ⟨⟨k.gr.os.trans h.gr.os, k.gr.tape.trans h.gr.tape, k.gr.output.trans h.gr.output, Nat.le_trans h.gr.size k.gr.size, fun i hi hx => (k.gr.block i (Nat.lt_of_lt_of_le hi h.gr.size) hx).trans (h.gr.block i hi hx)⟩⟩
theorem OnRow.of_below {g : Nat} {a b : World} (h : Below a.heap.size a b) : OnRow g a b := ⟨⟨h.os, h.tape, h.output, h.size, fun i hi _ => h.block i hi⟩⟩
theorem OnRow.of_only {g : Nat} {a b : World} (h : Only g a b) : OnRow g a b := ⟨⟨h.os, h.tape, h.output, Nat.le_of_eq h.size.symm, fun i _ hx => h.block i (fun e => hx (by rw [e]))⟩⟩
theorem OnRow.below {g B : Nat} {a b : World} (h : OnRow g a b) (hg : B ≤ g) (hB : B ≤ a.heap.size) : Below B a b := ⟨h.gr.os, h.gr.tape, h.gr.output, h.gr.size, fun i hi => h.gr.block i (by omega) (fun e => by injection e; omega)⟩
theorem OnRow.row {g k : Nat} {a b : World} {t : TypeId} {cs : Array Value} (h : OnRow g a b) (hr : Row a k t cs) (hk : k ≠ g) : Row b k t cs := (h.gr.block k hr.lt (fun e => hk (by injection e))).trans hr
theorem sortI_any (g cap : Nat) (l : List Int) (w : World) (hr : Row w g 3 (ints l).toArray) (hl : l.length ≤ 1000) :
 Calls Tryz.prog 241 #[.slice (some ⟨g, 0, none⟩) l.length cap] w fun e w' => e = .returned (.tuple #[]) ∧ Row w' g 3 (ints (l.mergeSort fun x y => decide (x ≤ y))).toArray ∧ OnRow g w w' := by
 refine (slices_Sort_int g 0 cap l w (holds_row hr) hr.lt (by omega)).mono ?_
 rintro e w' ⟨rfl, n, os, rfl⟩
 have h1 : Row (Sort.ahead w n) g 3 (ints l).toArray := hr.drewN n
 obtain ⟨h2, h3⟩ := only_putRow h1 (l.mergeSort fun x y => decide (x ≤ y)).toArray (by simp [ints])
 rw [ints_arr] at h2
 have hb : Below w.heap.size w (Sort.ahead w n) := below_drewN (Below.refl _ _) n
 have hg : ∀ (W : World) (os : Array Obj), Below W.heap.size W (Sort.grow W os) := fun W os => ⟨rfl, rfl, rfl, by simp [Sort.grow], fun k hk => by simp [Sort.grow, Array.getElem?_append_left hk]⟩
 exact ⟨rfl, h2.below (hg _ _) h2.lt, (OnRow.of_below hb).trans ((OnRow.of_only h3).trans (OnRow.of_below (hg _ _)))⟩
theorem compactI_any (g cap : Nat) (l : List Int) (w : World) (hr : Row w g 3 (ints l).toArray) (hl : l.length ≤ 1000) (hc : l.length ≤ cap) :
 Calls Tryz.prog 242 #[.slice (some ⟨g, 0, none⟩) l.length cap] w fun e w' => e = .returned (.slice (some ⟨g, 0, none⟩) (Lib.compact l).length cap) ∧ Row w' g 3 (ints (Lib.compact l ++ List.replicate (l.length - (Lib.compact l).length) 0)).toArray ∧ OnRow g w w' := by
 refine (slices_Compact_int g 0 cap l w (holds_row hr) (by omega) hc).mono ?_
 rintro e w' ⟨rfl, n, rfl⟩
 have h1 : Row (Sort.ahead w n) g 3 (ints l).toArray := hr.drewN n
 have hcl : (Lib.compact l).length ≤ l.length := by
  unfold Lib.compact Lib.compactUpTo
  rw [List.length_map]
  have := List.length_filter_le (Lib.keeps l.toArray) (List.range l.length)
  rwa [List.length_range] at this
 obtain ⟨h2, h3⟩ := only_putRow h1 (Lib.compact l ++ List.replicate (l.length - (Lib.compact l).length) 0).toArray (by simp [ints]; omega)
 rw [ints_arr] at h2
 have hb : Below w.heap.size w (Sort.ahead w n) := below_drewN (Below.refl _ _) n
 exact ⟨rfl, h2, (OnRow.of_below hb).trans (OnRow.of_only h3)⟩
set_option maxRecDepth 100000 in
set_option maxHeartbeats 2000000 in
theorem once1_any (b : Nat) (but x : Int) (w : World) (hr : Row w b 3 #[.int .i64 but]) :
 Calls Tryz.prog 244 #[.int .i64 x, .pointer (some ⟨b, 0, none⟩)] w fun e w' => e = .returned (.bool (x == but)) ∧ w = w' := by
 have c := hr.cellv (i := 0) (v := .int .i64 but) rfl
 go_enter Tryz.func244, Tryz.ntmps244
 go_wp2
 go_ret
 exact ⟨rfl, rfl⟩
theorem row_int {l z : List Int} {k : Nat} {x : Int} (hlt : k < l.length) (hx : l[k]? = some x) : (ints (l ++ z)).toArray[k]? = some (.int .i64 x) := by
 have : (ints (l ++ z))[k]? = some (.int .i64 x) := by rw [ints_append, List.getElem?_append_left (by rw [ints_length]; exact hlt)]; simp [ints, hx]
 simpa using this
theorem take_all_stepI {but : Int} {l : List Int} {k : Nat} {x : Int} (h : ∀ y ∈ l.take k, y ≠ but) (hx : l[k]? = some x) (hp : x ≠ but) : ∀ y ∈ l.take (k + 1), y ≠ but := by
 rw [List.take_add_one, hx]
 intro y hy
 rcases List.mem_append.1 hy with hy | hy
 · exact h y hy
 · simp at hy; subst hy; exact hp
set_option maxRecDepth 100000 in
set_option maxHeartbeats 2000000 in
theorem idxI_any (g cap b : Nat) (but : Int) (l z : List Int) (w : World) (hr : Row w g 3 (ints (l ++ z)).toArray) (hb : Row w b 3 #[.int .i64 but]) (hl : l.length ≤ 1000) :
 Calls Tryz.prog 191 #[.slice (some ⟨g, 0, none⟩) l.length cap, .func (.func 244) #[] #[.pointer (some ⟨b, 0, none⟩)]] w fun e w' => ((∃ i : Nat, e = .returned (.int .i64 (i : Int)) ∧ l[i]? = some but ∧ ∀ x ∈ l.take i, x ≠ but) ∨ (e = .returned (.int .i64 (-1)) ∧ ∀ x ∈ l, x ≠ but)) ∧ w = w' := by
 have Hr := Lib.hid hr
 have Hb := Lib.hid hb
 have hl' : (l.length : Int) ≤ 1000 := by omega
 clear hr hb hl
 go_enter Tryz.func191, Tryz.ntmps191
 go_wp2
 go_loop [8] (fun i => ∃ k : Nat, i = .int .i64 (k : Int) ∧ k ≤ l.length ∧ Hid (∀ x ∈ l.take k, x ≠ but)) (fun i => l.length - (intOf i).toNat)
 case atStart => exact ⟨0, rfl, Nat.zero_le _, Lib.hid (fun x hx => by simp at hx)⟩
 case round =>
  obtain ⟨k, rfl, hk, Hall⟩ := hrel
  by_cases hlt : k < l.length
  · obtain ⟨x, hx⟩ : ∃ x, l[k]? = some x := ⟨_, List.getElem?_eq_getElem hlt⟩
    have hc := Hr.out.cellv (i := k) (v := .int .i64 x) (row_int hlt hx)
    have Hx := Lib.hid hx
    have H1 := Lib.hid (once1_any b but x w Hb.out)
    have hltI : (k : Int) < (l.length : Int) := by omega
    clear hx hlt
    go_wp2_with fail
    refine H1.out.mono ?_
    rintro e w' ⟨rfl, rfl⟩
    by_cases hs : x = but
    · have hs' : (x == but) = true := by simpa using hs
      rw [hs']
      have Hf : Hid (l[k]? = some but) := by show _ = _; rw [Hx.out, hs]
      clear hs hs' H1 hc Hx
      go_wp2_with fail
      go_ret
      exact ⟨.inl ⟨k, rfl, Hf.out, Hall.out⟩, rfl⟩
    · have hs' : (x == but) = false := by simpa using hs
      rw [hs']
      have Hn := Lib.hid (take_all_stepI Hall.out Hx.out hs)
      clear hs hs' H1 hc Hx
      go_wp2_with fail
      go_round
      case rel => exact ⟨k + 1, by go_num, by omega, Hn⟩
      case measure => simp [intOf]; omega
  · obtain rfl : k = l.length := by omega
    have Hf : Hid (∀ x ∈ l, x ≠ but) := by have := Hall.out; rwa [List.take_length] at this
    clear hlt hk
    go_wp2
    go_ret
    exact ⟨.inr ⟨rfl, Hf.out⟩, rfl⟩
structure Del (but : Int) (l z : List Int) (k : Nat) (cs : List Int) : Prop where
 size : cs.length = (l ++ z).length
 head : cs.take ((l.take k).filter (· != but)).length = (l.take k).filter (· != but)
 tail : cs.drop k = (l ++ z).drop k
theorem Del.get {but : Int} {l z : List Int} {k : Nat} {cs : List Int} (h : Del but l z k cs) {x : Int} (hx : l[k]? = some x) : cs[k]? = some x := by
 have hk := (List.getElem?_eq_some_iff.1 hx).1
 have := congrArg (fun m : List Int => m[0]?) h.tail
 simp only [List.getElem?_drop, Nat.add_zero] at this
 rw [this, List.getElem?_append_left hk, hx]
theorem Del.skip {but : Int} {l z : List Int} {k : Nat} {cs : List Int} (h : Del but l z k cs) {x : Int} (hx : l[k]? = some x) (hb : x = but) : Del but l z (k + 1) cs ∧ ((l.take (k + 1)).filter (· != but)).length = ((l.take k).filter (· != but)).length := by
 have e : (l.take (k + 1)).filter (· != but) = (l.take k).filter (· != but) := by rw [List.take_add_one, hx, List.filter_append]; simp [hb]
 refine ⟨⟨h.size, by rw [e]; exact h.head, ?_⟩, by rw [e]⟩
 have := congrArg (fun m : List Int => m.drop 1) h.tail
 simpa [List.drop_drop] using this
theorem Del.put {but : Int} {l z : List Int} {k : Nat} {cs : List Int} (h : Del but l z k cs) {x : Int} (hx : l[k]? = some x) (hb : x ≠ but) (hlt : ((l.take k).filter (· != but)).length < k) : Del but l z (k + 1) (cs.set ((l.take k).filter (· != but)).length x) ∧ ((l.take (k + 1)).filter (· != but)).length = ((l.take k).filter (· != but)).length + 1 := by
 have hk := (List.getElem?_eq_some_iff.1 hx).1
 have e : (l.take (k + 1)).filter (· != but) = (l.take k).filter (· != but) ++ [x] := by rw [List.take_add_one, hx, List.filter_append]; simp [hb]
 have hs := h.size
 rw [List.length_append] at hs
 have hh := h.head
 generalize hn : ((l.take k).filter (· != but)).length = n at *
 refine ⟨⟨by rw [List.length_set]; exact h.size, ?_, ?_⟩, by rw [e, List.length_append, hn]; rfl⟩
 · rw [e, List.length_append, hn, List.length_singleton, List.take_add_one, List.take_set_of_le (Nat.le_refl _), hh]
   congr 1
   rw [List.getElem?_set, if_pos rfl, if_pos (by omega)]; rfl
 · rw [List.drop_set_of_lt (by omega)]
   have := congrArg (fun m : List Int => m.drop 1) h.tail
   simpa [List.drop_drop] using this
theorem Del.start {but : Int} {l z : List Int} {i : Nat} (hi : l[i]? = some but) (hall : ∀ x ∈ l.take i, x ≠ but) : Del but l z (i + 1) (l ++ z) ∧ ((l.take (i + 1)).filter (· != but)).length = i := by
 have hk := (List.getElem?_eq_some_iff.1 hi).1
 have e : (l.take (i + 1)).filter (· != but) = l.take i := by
  rw [List.take_add_one, hi, List.filter_append, List.filter_eq_self.2 (fun x hx => by simpa using hall x hx)]; simp
 have hl : (l.take i).length = i := by rw [List.length_take]; omega
 refine ⟨⟨rfl, ?_, rfl⟩, by rw [e, hl]⟩
 rw [e, hl, List.take_append_of_le_length (by omega)]
theorem clear_row {g : Nat} {t : TypeId} : ∀ (n : Nat) {w : World} {cs : List Value} (o : Nat), Row w g t cs.toArray → o + n ≤ cs.length → ∃ cs' : List Value, Row (w.setCells g o (List.replicate n (.int .i64 0))) g t cs'.toArray ∧ cs'.take o = cs.take o ∧ Only g w (w.setCells g o (List.replicate n (.int .i64 0)))
 | 0, w, cs, o, h, _ => ⟨cs, h, rfl, rfl, rfl, rfl, rfl, fun _ _ => rfl⟩
 | n + 1, w, cs, o, h, hn => by
  have h1 := h.set o (.int .i64 0)
  have o1 := only_set w g o (.int .i64 0)
  rw [show cs.toArray.setIfInBounds o (.int .i64 0) = (cs.set o (.int .i64 0)).toArray by simp] at h1
  obtain ⟨cs', h2, h3, o2⟩ := clear_row n (o + 1) h1 (by simp; omega)
  refine ⟨cs', h2, ?_, ⟨o2.os.trans o1.os, o2.tape.trans o1.tape, o2.output.trans o1.output, o2.size.trans o1.size, fun k hk => (o2.block k hk).trans (o1.block k hk)⟩⟩
  have := congrArg (fun m : List Value => m.take o) h3
  simp only [List.take_take] at this
  rw [show min o (o + 1) = o by omega, List.take_set_of_le (Nat.le_refl _)] at this
  exact this
theorem run_exec_clear {P : Program} {o : Oper} {w w1 : World} {ρ : Operand → Value} {s : Operand} {t : TypeId} (ho : o.op = .call { callee := .builtin .clear, args := #[s], argTypes := #[t] }) {v : Value} (hv : (Builtin.clear_ #[t] o.type #[ρ s]).run P w = .ok v w1) : (execOp ρ o).run P w = .ok (.value v) w1 := by
 unfold execOp
 simp only [ho, resolve, invoke, builtin, Sem.run_bind, Sem.run_pure, Result.andThen_ok, List.map_toArray, List.map_cons, List.map_nil, hv]
set_option maxRecDepth 100000 in
set_option maxHeartbeats 4000000 in
theorem delI_any (g cap b : Nat) (but : Int) (l z : List Int) (w : World) (hr : Row w g 3 (ints (l ++ z)).toArray) (hb : Row w b 3 #[.int .i64 but]) (hgb : b ≠ g) (hl : l.length ≤ 1000) (hc : l.length ≤ cap) (hcm : cap ≤ maxLen) :
 Calls Tryz.prog 243 #[.slice (some ⟨g, 0, none⟩) l.length cap, .func (.func 244) #[] #[.pointer (some ⟨b, 0, none⟩)]] w fun e w' => e = .returned (.slice (some ⟨g, 0, none⟩) (l.filter (· != but)).length cap) ∧ OnRow g w w' ∧ ∃ cs : Array Value, Row w' g 3 cs ∧ ∀ (j : Nat) (u : Value), (ints (l.filter (· != but)))[j]? = some u → cs[j]? = some u := by
 have H1 := Lib.hid (idxI_any g cap b but l z w hr hb hl)
 have Hb := Lib.hid hb
 have Hr := Lib.hid hr
 have hl' : (l.length : Int) ≤ 1000 := by omega
 have hc' : (l.length : Int) ≤ (cap : Int) := by omega
 have hcm' : (cap : Int) ≤ 9223372036854775807 := by unfold maxLen at hcm; omega
 clear hb hr hl hcm
 go_enter Tryz.func243, Tryz.ntmps243
 go_wp2_with fail
 refine H1.out.mono ?_
 clear H1
 rintro e w' ⟨hres, rfl⟩
 rcases hres with ⟨i, rfl, hi, hall⟩ | ⟨rfl, hall⟩
 rotate_left
 · have he : l.filter (· != but) = l := List.filter_eq_self.2 (fun x hx => by simpa using hall x hx)
   have He := Lib.hid he
   clear he hall
   go_wp2_with fail
   go_ret
   refine ⟨by rw [He.out]; rfl, OnRow.of_below (Below.refl _ _), _, Hr.out, fun j u hj => ?_⟩
   rw [He.out] at hj
   rw [ints_append]
   simp only [List.getElem?_toArray]
   rw [List.getElem?_append_left (List.getElem?_eq_some_iff.1 hj).1]; exact hj
 have hil := (List.getElem?_eq_some_iff.1 hi).1
 obtain ⟨hd0, hn0⟩ := Del.start (z := z) hi hall
 have hd : (l.take (i + 1)).filter (· != but) = (l.take (i + 1)).filter (· != but) := rfl
 have Hd0 := Lib.hid hd0
 have Hn0 := Lib.hid hn0
 have hiI : (i : Int) < (l.length : Int) := by omega
 have hne1 : ((i : Int) == -1) = false := by simp
 clear hall hd0 hn0 hi hd
 go_wp2_with fail
 go_loopw [5, 6] (fun a j wr => ∃ (k : Nat) (cs : List Int), j = .int .i64 (k : Int) ∧ a = .int .i64 ((((l.take k).filter (· != but)).length : Nat) : Int) ∧ k ≤ l.length ∧ ((l.take k).filter (· != but)).length < k ∧ Hid (Del but l z k cs) ∧ Row wr g 3 (ints cs).toArray ∧ OnRow g w wr) (fun _ j _ => l.length - (intOf j).toNat)
 case atStart => exact ⟨i + 1, l ++ z, by go_num, by rw [Hn0.out], by omega, by rw [Hn0.out]; omega, Hd0, Hr.out, OnRow.of_below (Below.refl _ _)⟩
 case round =>
  obtain ⟨k, cs, rfl, rfl, hk, hfk, Hd, hrow, hon⟩ := hrel
  by_cases hlt : k < l.length
  · obtain ⟨x, hx⟩ : ∃ x, l[k]? = some x := ⟨_, List.getElem?_eq_getElem hlt⟩
    have hgx := Hd.out.get hx
    have hcx := hrow.cellv (i := k) (v := .int .i64 x) (by simp [ints, hgx])
    have Hc1 := Lib.hid (once1_any b but x wr (hon.row Hb.out hgb))
    have Hx := Lib.hid hx
    have hltI : (k : Int) < (l.length : Int) := by omega
    clear hx hlt hgx
    go_wp2_with fail
    refine Hc1.out.mono ?_
    rintro e w' ⟨rfl, rfl⟩
    by_cases hs : x = but
    · have hs' : (x == but) = true := by simpa using hs
      rw [hs']
      obtain ⟨hd2, hn2⟩ := Hd.out.skip Hx.out hs
      have Hd2 := Lib.hid hd2
      have Hn2 := Lib.hid hn2
      clear hs hs' Hc1 hcx Hx hd2 hn2
      go_wp2_with fail
      go_roundw
      case rel => exact ⟨k + 1, cs, by go_num, by rw [Hn2.out], by omega, by rw [Hn2.out]; omega, Hd2, hrow, hon⟩
      case measure => simp [intOf]; omega
    · have hs' : (x == but) = false := by simpa using hs
      rw [hs']
      obtain ⟨hd2, hn2⟩ := Hd.out.put Hx.out hs hfk
      generalize hn : ((l.take k).filter (· != but)).length = n at *
      have Hd2 := Lib.hid hd2
      have Hn2 := Lib.hid hn2
      have hnI : (n : Int) < (l.length : Int) := by omega
      have hcz : ∃ y, cs[n]? = some y := ⟨_, List.getElem?_eq_getElem (by have := Hd.out.size; rw [List.length_append] at this; omega)⟩
      obtain ⟨y, hy⟩ := hcz
      have hcn := hrow.cellv (i := n) (v := .int .i64 y) (by simp [ints, hy])
      have hfn := hrow.free n
      have o9 := only_set wr g n (.int .i64 x)
      have r9 := hrow.set n (.int .i64 x)
      rw [show (ints cs).toArray.setIfInBounds n (.int .i64 x) = (ints (cs.set n x)).toArray by simp [ints]] at r9
      have on9 := hon.trans (OnRow.of_only o9)
      clear hs hs' Hc1 hcx Hx hd2 hn2 hy hn o9 hrow hon
      go_wp2_with fail
      go_roundw
      case rel => exact ⟨k + 1, cs.set n x, by go_num, by rw [Hn2.out]; go_num, by omega, by rw [Hn2.out]; omega, Hd2, r9, on9⟩
      case measure => simp [intOf]; omega
  · obtain rfl : k = l.length := by omega
    have hfl : (l.take l.length).filter (· != but) = l.filter (· != but) := by rw [List.take_length]
    rw [hfl] at hfk ⊢
    have hsz := Hd.out.size
    have hhd := Hd.out.head
    rw [hfl] at hhd
    rw [List.length_append] at hsz
    generalize hn : (l.filter (· != but)).length = n at *
    have hnI : (n : Int) < (l.length : Int) := by omega
    have hnI2 : (n : Int) ≤ (cap : Int) := by omega
    obtain ⟨cs', h2, h3, o2⟩ := clear_row (l.length - n) (cs := ints cs) n hrow (by rw [ints_length]; omega)
    have hclr := Lib.run_clear_slice (P := Tryz.prog) wr 22 3 0 (.int .i64 0) Tryz.underlying22 (fun W => by kernel_rfl) rfl rfl g n (l.length - n) (cap - n) (by omega) (fun j hj => by
     have hj2 : n + j < cs.length := by omega
     rw [hrow.cellv (i := n + j) (v := .int .i64 cs[n + j]) (by simp [ints, hj2])]; rfl) (fun j hj => hrow.free (n + j))
    have HF : Hid (OnRow g w (wr.setCells g n (List.replicate (l.length - n) (.int .i64 0))) ∧ ∃ cs : Array Value, Row (wr.setCells g n (List.replicate (l.length - n) (.int .i64 0))) g 3 cs ∧ ∀ (j : Nat) (u : Value), (ints (l.filter (· != but)))[j]? = some u → cs[j]? = some u) := ⟨hon.trans (OnRow.of_only o2), _, h2, fun j u hj => by
     have hjn : j < n := by have := (List.getElem?_eq_some_iff.1 hj).1; rw [ints_length] at this; omega
     have e1 : cs'[j]? = (ints cs)[j]? := by
      have := congrArg (fun m : List Value => m[j]?) h3
      simpa [List.getElem?_take, hjn] using this
     have e2 : cs[j]? = (l.filter (· != but))[j]? := by
      have := congrArg (fun m : List Int => m[j]?) hhd
      simpa [List.getElem?_take, hjn] using this
     simp only [List.getElem?_toArray]
     rw [e1]
     simp only [ints, List.getElem?_map] at hj ⊢
     rw [e2]; exact hj⟩
    have Hclr := Lib.hid hclr
    clear hclr h2 h3 o2 hon hrow hhd hsz Hd hfl hlt hk
    generalize wr.setCells g n (List.replicate (l.length - n) (.int .i64 0)) = w9 at HF Hclr
    go_wp2_with (refine wpList_res rfl _ (run_exec_clear rfl Hclr.out) ?_)
    go_ret
    exact ⟨by rw [hn]; rfl, HF.out⟩
end Go.Proofs.YtcgglolckkeeiaaGreat
