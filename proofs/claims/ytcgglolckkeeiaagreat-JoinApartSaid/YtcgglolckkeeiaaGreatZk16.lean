/- Lemmas for JnBll. -/
import Derived.Test.YtcgglolckkeeiaaGreatZk15
import Derived.Test.YtcgglolckkeeiaaGreatZk12
namespace Go.Proofs.YtcgglolckkeeiaaGreat
set_option linter.unusedVariables false
open Go.RowKit Go.Deep
def fewT (l : List IntsV) : Bool := decide (l.length ≤ 40 ∧ ∀ x ∈ l, x.l.length ≤ 40)
def okM (x : MtV) : Prop := x.m.d.path.length ≤ 60 ∧ x.m.digest.length ≤ 100
instance (x : MtV) : Decidable (okM x) := by unfold okM; infer_instance
def fewM (l : List MtV) : Bool := decide (l.length ≤ 250 ∧ ∀ x ∈ l, okM x)
theorem take_all_step {α : Type} {p : α → Prop} {l : List α} {k : Nat} {x : α} (h : ∀ y ∈ l.take k, p y) (hx : l[k]? = some x) (hp : p x) : ∀ y ∈ l.take (k + 1), p y := by
 rw [List.take_add_one, hx]
 intro y hy
 rcases List.mem_append.1 hy with hy | hy
 · exact h y hy
 · simp at hy; subst hy; exact hp
set_option maxRecDepth 100000 in
set_option maxHeartbeats 2000000 in
theorem fewT_any (A : Option Addr) (cap : Nat) (l : List IntsV) (w : World) (hr : Rd w A (tstC l)) :
 Calls Tryz.prog 82 #[.slice A l.length cap] w fun e w' => e = .returned (.bool (fewT l)) ∧ w = w' := by
 have Hr := Lib.hid hr
 clear hr
 by_cases h40 : l.length ≤ 40
 rotate_left
 · have hz : fewT l = false := by unfold fewT; rw [decide_eq_false_iff_not]; exact fun h => h40 h.1
   have Hz := Lib.hid hz
   have h41 : (40 : Int) < (l.length : Int) := by omega
   clear hz h40
   go_enter Tryz.func82, Tryz.ntmps82
   go_wp2
   go_ret
   exact ⟨ret_b Hz.out, rfl⟩
 have h41 : (l.length : Int) ≤ 40 := by omega
 have H40 := Lib.hid h40
 clear h40
 go_enter Tryz.func82, Tryz.ntmps82
 go_wp2
 go_loop [3] (fun i => ∃ k : Nat, i = .int .i64 (k : Int) ∧ k ≤ l.length ∧ Hid (∀ x ∈ l.take k, x.l.length ≤ 40)) (fun i => l.length - (intOf i).toNat)
 case atStart => exact ⟨0, rfl, Nat.zero_le _, Lib.hid (fun x hx => by simp at hx)⟩
 case round =>
  obtain ⟨k, rfl, hk, Hall⟩ := hrel
  by_cases hlt : k < l.length
  · obtain ⟨x, hx⟩ : ∃ x, l[k]? = some x := ⟨_, List.getElem?_eq_getElem hlt⟩
    obtain ⟨ad, had, hc0⟩ := rd_map_at Hr.out hx
    have hc : w.cell? (ad.add k) = some (.slice x.addr x.l.length x.cap) := hc0
    have Hx := Lib.hid hx
    have hltI : (k : Int) < (l.length : Int) := by omega
    clear hx hlt hc0
    subst had
    by_cases hs : x.l.length ≤ 40
    · have hs1 : (x.l.length : Int) ≤ 40 := by omega
      have Hn := Lib.hid (take_all_step (p := fun x : IntsV => x.l.length ≤ 40) Hall.out Hx.out hs)
      clear hs
      go_wp2
      go_round
      case rel => exact ⟨k + 1, by go_num, by omega, Hn⟩
      case measure => simp [intOf]; omega
    · have hs1 : (40 : Int) < (x.l.length : Int) := by omega
      have hz : fewT l = false := by unfold fewT; rw [decide_eq_false_iff_not]; exact fun h => hs (h.2 x (List.mem_of_getElem? Hx.out))
      have Hz := Lib.hid hz
      clear hz hs
      go_wp2
      go_ret
      exact ⟨ret_b Hz.out, rfl⟩
  · obtain rfl : k = l.length := by omega
    have hz : fewT l = true := by unfold fewT; rw [decide_eq_true_eq]; exact ⟨H40.out, by have := Hall.out; rwa [List.take_length] at this⟩
    have Hz := Lib.hid hz
    clear hz hlt hk
    go_wp2
    go_ret
    exact ⟨ret_b Hz.out, rfl⟩
theorem add_zero' (a : Addr) : a.add 0 = a := by unfold Addr.add; rw [if_pos rfl]
set_option maxRecDepth 100000 in
set_option maxHeartbeats 2000000 in
theorem fewM_any (A : Option Addr) (cap : Nat) (l : List MtV) (w : World) (hr : Rd w A (mtsC l)) :
 Calls Tryz.prog 32 #[.slice A l.length cap] w fun e w' => e = .returned (.bool (fewM l)) ∧ w = w' := by
 have Hr := Lib.hid hr
 clear hr
 by_cases h40 : l.length ≤ 250
 rotate_left
 · have hz : fewM l = false := by unfold fewM; rw [decide_eq_false_iff_not]; exact fun h => h40 h.1
   have Hz := Lib.hid hz
   have h41 : (250 : Int) < (l.length : Int) := by omega
   clear hz h40
   go_enter Tryz.func32, Tryz.ntmps32
   go_wp2
   go_ret
   exact ⟨ret_b Hz.out, rfl⟩
 have h41 : (l.length : Int) ≤ 250 := by omega
 have H40 := Lib.hid h40
 clear h40
 go_enter Tryz.func32, Tryz.ntmps32
 go_wp2
 go_loop [3] (fun i => ∃ k : Nat, i = .int .i64 (k : Int) ∧ k ≤ l.length ∧ Hid (∀ x ∈ l.take k, okM x)) (fun i => l.length - (intOf i).toNat)
 case atStart => exact ⟨0, rfl, Nat.zero_le _, Lib.hid (fun x hx => by simp at hx)⟩
 case round =>
  obtain ⟨k, rfl, hk, Hall⟩ := hrel
  by_cases hlt : k < l.length
  · obtain ⟨x, hx⟩ : ∃ x, l[k]? = some x := ⟨_, List.getElem?_eq_getElem hlt⟩
    obtain ⟨ad, had, hc0⟩ := mt_at Hr.out hx
    have hc1 : w.cell? (ad.add (k * 8)) = some (.slice x.A x.m.d.path.length x.cap) := by have := hc0 0 _ rfl; rwa [add_zero'] at this
    have hc2 : w.cell? ((ad.add (k * 8)).add 7) = some (.string ⟨x.m.digest.toArray⟩) := hc0 7 _ rfl
    have hc3 : w.cell? ⟨(ad.add (k * 8)).block, (ad.add (k * 8)).off + 7, none⟩ = some (.string ⟨x.m.digest.toArray⟩) := hc2
    clear hc2
    have Hx := Lib.hid hx
    have hltI : (k : Int) < (l.length : Int) := by omega
    clear hx hlt hc0
    subst had
    by_cases hs : x.m.d.path.length ≤ 60
    · have hs1 : (x.m.d.path.length : Int) ≤ 60 := by omega
      by_cases ht : x.m.digest.length ≤ 100
      · have ht1 : (x.m.digest.length : Int) ≤ 100 := by omega
        have Hn := Lib.hid (take_all_step (p := okM) Hall.out Hx.out ⟨hs, ht⟩)
        clear hs ht
        go_wp2
        go_round
        case rel => exact ⟨k + 1, by go_num, by omega, Hn⟩
        case measure => simp [intOf]; omega
      · have ht1 : (100 : Int) < (x.m.digest.length : Int) := by omega
        have hz : fewM l = false := by unfold fewM; rw [decide_eq_false_iff_not]; exact fun h => ht (h.2 x (List.mem_of_getElem? Hx.out)).2
        have Hz := Lib.hid hz
        clear hz hs ht
        go_wp2
        go_ret
        exact ⟨ret_b Hz.out, rfl⟩
    · have hs1 : (60 : Int) < (x.m.d.path.length : Int) := by omega
      have hz : fewM l = false := by unfold fewM; rw [decide_eq_false_iff_not]; exact fun h => hs (h.2 x (List.mem_of_getElem? Hx.out)).1
      have Hz := Lib.hid hz
      clear hz hs
      go_wp2
      go_ret
      exact ⟨ret_b Hz.out, rfl⟩
  · obtain rfl : k = l.length := by omega
    have hz : fewM l = true := by unfold fewM; rw [decide_eq_true_eq]; exact ⟨H40.out, by have := Hall.out; rwa [List.take_length] at this⟩
    have Hz := Lib.hid hz
    clear hz hlt hk
    go_wp2
    go_ret
    exact ⟨ret_b Hz.out, rfl⟩
structure CpRaw (W : World) (c : CpV) : Prop where
 pok : c.p.ok W
 trd : Rd W c.tA (tstC c.tests)
 tok : ∀ x ∈ c.tests, x.ok W
 tnil : c.tA = none → c.tests = []
 mrd : Rd W c.mA (mtsC c.mts)
 mok : ∀ x ∈ c.mts, Rd W x.A (ints x.m.d.path) ∧ (x.A = none → x.m.d.path = [])
 mnil : c.mA = none → c.mts = []
theorem CpRaw.go {W W' : World} {c : CpV} (h : CpRaw W c) (b : Below W.heap.size W W') : CpRaw W' c :=
 ⟨h.pok.go b, h.trd.go b, fun x hx => (h.tok x hx).go b, h.tnil, h.mrd.go b, fun x hx => ⟨(h.mok x hx).1.go b, (h.mok x hx).2⟩, h.mnil⟩
instance St.cpraw {c : CpV} : St (fun W => CpRaw W c) := ⟨fun h b => h.go b⟩
def fewC (c : CpV) : Bool := fewP c.p && (fewT c.tests && fewM c.mts)
set_option maxRecDepth 100000 in
set_option maxHeartbeats 2000000 in
theorem fewC_any (c : CpV) (w : World) (hc : CpRaw w c) :
 Calls Tryz.prog 30 #[.agg c.cells] w fun e w' => e = .returned (.bool (fewC c)) ∧ Below w.heap.size w w' := by
 have Hc := Lib.hid hc
 clear hc
 go_enter Tryz.func30, Tryz.ntmps30
 go_wp2_with (refine at_box _ _ rfl ?_)
 refine Stop.to ?_
 refine wpList_box_gen rfl 31 _ rfl c.cells rfl ?_
 intro G Gw Gh Gr Gb
 have b1 := (Below.refl w.heap.size w).trans (Gb.mono Gh)
 have Hp := Lib.hid (few_any c.p Gw)
 have hG : Hid (Gw.heap.size ≤ Gw.heap.size) := Nat.le_refl _
 go_wp2_with (first | (refine wpList_load_at rfl 25 _ rfl ⟨G, 0, none⟩ rfl c.p.cells.toList _ (cp_head Gr) Tryz.underlying25 rfl (by kernel_rfl) ?_))
 refine Hp.out.mono ?_
 rintro e w1 ⟨rfl, b2⟩
 have b3 := b1.trans (b2.mono b1.size)
 have rG := Gr.below b2 Gr.lt
 clear Gr Gb Gh Hp b1 b2 hG
 have c3 := rG.cellv (i := 3) (v := .slice c.tA c.tests.length c.tcap) rfl
 have c5 := rG.cellv (i := 5) (v := .slice c.mA c.mts.length c.mcap) rfl
 have Ht := Lib.hid (fewT_any c.tA c.tcap c.tests w1 (Hc.out.go b3).trd)
 have Hm := Lib.hid (fewM_any c.mA c.mcap c.mts w1 (Hc.out.go b3).mrd)
 clear rG
 generalize hp : fewP c.p = p
 have Hp := Lib.hid hp
 clear hp
 cases p
 · go_wp2_with fail
   refine Hm.out.mono ?_
   rintro e w2 ⟨rfl, rfl⟩
   go_wp2_with fail
   go_ret
   exact ⟨ret_b (by unfold fewC; rw [Hp.out]; rfl), b3⟩
 · go_wp2_with fail
   refine Ht.out.mono ?_
   rintro e w2 ⟨rfl, rfl⟩
   generalize ht : fewT c.tests = t
   have Ht' := Lib.hid ht
   clear ht Ht
   go_wp2_with fail
   refine Hm.out.mono ?_
   rintro e w2 ⟨rfl, rfl⟩
   generalize hm : fewM c.mts = m
   have Hm' := Lib.hid hm
   clear hm Hm
   cases t
   · go_wp2_with fail
     go_ret
     exact ⟨ret_b (by unfold fewC; rw [Hp.out, Ht'.out]; rfl), b3⟩
   · go_wp2_with fail
     go_ret
     exact ⟨ret_b (by unfold fewC; rw [Hp.out, Ht'.out, Hm'.out]; rfl), b3⟩
theorem fewC_of {c : CpV} (h : fewC c = true) : c.p.body.length ≤ 60 ∧ c.p.V.length ≤ 20 ∧ c.tests.length ≤ 40 ∧ (∀ x ∈ c.tests, x.l.length ≤ 40) ∧ c.mts.length ≤ 250 ∧ ∀ x ∈ c.mts, okM x := by
 unfold fewC fewP fewT fewM at h
 simp only [Bool.and_eq_true, decide_eq_true_eq] at h
 exact ⟨by omega, by omega, h.2.1.1, h.2.1.2, h.2.2.1, h.2.2.2⟩
theorem CpRaw.ok {W : World} {c : CpV} (h : CpRaw W c) (hf : fewC c = true) : CpOk W c := by
 obtain ⟨h1, h2, h3, h4, h5, h6⟩ := fewC_of hf
 exact ⟨h.pok, by omega, by omega, h.trd, h.tok, by omega, fun x hx => by have := h4 x hx; omega, h.tnil, h.mrd, fun x hx => ⟨(h.mok x hx).1, by have := (h6 x hx).1; omega, (h.mok x hx).2, by have := (h6 x hx).2; omega⟩, by omega, h.mnil⟩
set_option maxRecDepth 100000 in
set_option maxHeartbeats 2000000 in
theorem few25_any (a b : CpV) (w : World) (ha : CpRaw w a) (hb : CpRaw w b) :
 Calls Tryz.prog 16 #[.agg a.cells, .agg b.cells] w fun e w' => e = .returned (.bool (fewC a && fewC b)) ∧ Below w.heap.size w w' := by
 have Ha := Lib.hid ha
 have Hb := Lib.hid hb
 clear ha hb
 go_enter Tryz.func16, Tryz.ntmps16
 go_wp2_with (refine at_box _ _ rfl ?_)
 refine Stop.to ?_
 refine wpList_box_gen rfl 31 _ rfl a.cells rfl ?_
 intro G Gw Gh Gr Gb
 go_wp2_with (refine at_box _ _ rfl ?_)
 refine Stop.to ?_
 refine wpList_box_gen rfl 31 _ rfl b.cells rfl ?_
 intro J Jw Jh Jr Jb
 have rG := Gr.below Jb (Nat.lt_of_lt_of_le Gr.lt Jh)
 have rJ := Jr
 have b1 := (Below.refl w.heap.size w).trans (Gb.mono Gh)
 have b2 := b1.trans ((Jb.mono Jh).mono b1.size)
 clear Gr Gb Gh Jb Jh Jr b1
 have H1 := Lib.hid (fewC_any a Jw (Ha.out.go b2))
 go_wp2_with (refine wpList_load_row rfl 31 _ rfl G rfl 31 a.cells (0, 0) _ rG Tryz.underlying31 rfl (by kernel_rfl) ?_)
 refine H1.out.mono ?_
 rintro e w1 ⟨rfl, b3⟩
 have b4 := b2.trans (b3.mono b2.size)
 replace rJ := rJ.below b3 rJ.lt
 clear b2 b3 H1 rG
 generalize hp : fewC a = p
 have Hp := Lib.hid hp
 clear hp
 cases p
 · go_wp2_with fail
   go_ret
   exact ⟨ret_b (by rw [Hp.out]; rfl), b4⟩
 have H2 := Lib.hid (fewC_any b w1 (Hb.out.go b4))
 go_wp2_with (refine wpList_load_rowG rfl 31 _ rfl J rfl 31 b.cells (0, 0) _ rJ Tryz.underlying31 rfl (by kernel_rfl) ?_)
 refine H2.out.mono ?_
 rintro e w2 ⟨rfl, b5⟩
 have b6 := b4.trans (b5.mono b4.size)
 clear H2 b5 b4 rJ
 go_wp2_with fail
 go_ret
 exact ⟨ret_b (by rw [Hp.out]; rfl), b6⟩
end Go.Proofs.YtcgglolckkeeiaaGreat
namespace Go.Proofs.YtcgglolckkeeiaaGreat
set_option linter.unusedVariables false
open Go.RowKit Go.Deep
set_option maxRecDepth 100000 in
set_option maxHeartbeats 4000000 in
theorem refDepth_any (A : Option Addr) (cap : Nat) (l : List Nd) (hl : l.length ≤ 1000) : ∀ (n : Nat) (t : Tr) (q : Nat), t.size ≤ n → At l q t → ∀ w, Rd w A (l.flatMap Nd.cells) →
 Calls Tryz.prog 161 #[.slice A l.length cap, .int .i64 (q : Int)] w fun e w' => e = .returned (.int .i64 (depT t)) ∧ Below w.heap.size w w' := by
 intro n
 induction n with
 | zero => intro t q hn; have := t.size_eq; omega
 | succ n ih =>
 intro t q hn hat w hr
 have He := Lib.hid (refEnd_any A cap l (q : Int) w hr hl)
 rw [hat.endZ] at He
 have Hks := Lib.hid (fun W h => refKids_any A cap l (q : Int) W h hl)
 have hqt : q + t.size ≤ l.length := hat.le
 have hkz : kidsZ l (q : Int) = natsI (spots (q + 1) t.kids) := hat.kidsZ
 have hN : (kidsZ l (q : Int)).length = t.kids.length := by rw [hkz, natsI_len, spots_len]
 have hts : t.kids.length ≤ t.size := by have h1 := flats_ge t.kids; have h2 := t.size_eq; omega
 have Hkid : Hid (∀ (j : Nat) (x : Int), (kidsZ l (q : Int))[j]? = some x → ∃ (k : Tr) (r : Nat), x = (r : Int) ∧ depK (t.kids.take (j + 1)) = max (depK (t.kids.take j)) (depT k) ∧ depT k ≤ 1000 ∧ ∀ W, Rd W A (l.flatMap Nd.cells) → Calls Tryz.prog 161 #[.slice A l.length cap, .int .i64 (r : Int)] W fun e w' => e = .returned (.int .i64 (depT k)) ∧ Below W.heap.size W w') := fun j x hx => by
  rw [hkz] at hx
  unfold natsI at hx
  rw [List.getElem?_map] at hx
  obtain ⟨r, hr, rfl⟩ := Option.map_eq_some_iff.1 hx
  obtain ⟨k, hk⟩ : ∃ k, t.kids[j]? = some k := ⟨_, List.getElem?_eq_getElem (by have := (List.getElem?_eq_some_iff.1 hr).1; rw [spots_len] at this; exact this)⟩
  have hak := (hat.kids.spot _ _ _ hr hk).1
  have h4 := kid_size (List.mem_of_getElem? hk)
  have h5 := t.size_eq
  exact ⟨k, r, rfl, by rw [List.take_add_one, hk]; exact depK_snoc k _, by have := depT_le k; have := hak.le; omega, ih k r (by omega) hak⟩
 have hdt := depT_le t
 have hdd : depT t = depK t.kids + 1 := by cases t; rfl
 have hd0 := depK_nn t.kids
 have Hr := Lib.hid hr
 obtain ⟨N, hNd⟩ : ∃ N, N = t.kids.length := ⟨_, rfl⟩
 rw [← hNd] at hN
 have hN1 : (N : Int) ≤ 1000 := by omega
 obtain ⟨Q, hQ⟩ : ∃ Q, Q = q + t.size := ⟨_, rfl⟩
 rw [← hQ] at He
 have hQ0 : ¬ ((Q : Int) < 0) := by omega
 have Hdd := Lib.hid hdd
 have HN := Lib.hid hN
 have HNd := Lib.hid hNd
 have hdI : depK t.kids ≤ 1000 := by omega
 clear ih hl hr hat hn hQ hqt hkz hN hNd hts hdt hdd
 go_enter Tryz.func161, Tryz.ntmps161
 go_wp2_with fail
 refine He.out.mono ?_
 rintro e w1 ⟨rfl, b1⟩
 clear He
 go_wp2_with fail
 refine (Hks.out w1 (Hr.out.go b1)).mono ?_
 rintro e w2 ⟨v, rfl, hown, b2⟩
 obtain ⟨KA, kc, rfl, hKr, hKc, hKn, hKb⟩ := own_rdB hown
 rw [HN.out]
 have b3 := b1.trans (b2.mono b1.size)
 obtain ⟨S, hSd⟩ : ∃ S, S = (fun W => Rd W A (l.flatMap Nd.cells) ∧ Rd W KA (ints (kidsZ l (q : Int))) ∧ Below w.heap.size w W) := ⟨_, rfl⟩
 have stS : St S := by rw [hSd]; infer_instance
 have T0 : Hid (∀ W, S W → Rd W A (l.flatMap Nd.cells)) := by show ∀ W, _; rw [hSd]; exact fun W h => h.1
 have T1 : Hid (∀ W, S W → Rd W KA (ints (kidsZ l (q : Int)))) := by show ∀ W, _; rw [hSd]; exact fun W h => h.2.1
 have T2 : Hid (∀ W, S W → Below w.heap.size w W) := by show ∀ W, _; rw [hSd]; exact fun W h => h.2.2
 have hS : S w2 := by rw [hSd]; exact ⟨Hr.out.go b3, hKr, b3⟩
 clear hSd b1 b2 b3 hown hKr hKb hKn Hks Hr
 go_wp2_with fail
 go_loopw [5, 7] (fun m i wr => ∃ (k : Nat) (d : Int), i = .int .i64 (k : Int) ∧ m = .int .i64 d ∧ k ≤ N ∧ Hid (d = depK (t.kids.take k)) ∧ S wr) (fun _ i _ => N - (intOf i).toNat)
 case atStart => exact ⟨0, 0, by simp, by simp, Nat.zero_le _, Lib.hid (by simp [depK]), hS⟩
 case round =>
  clear hS
  obtain ⟨k, d, rfl, rfl, hk1, Hd, hS⟩ := hrel
  by_cases hkn : k < N
  rotate_left
  · have hge : ¬ ((k : Int) < (N : Int)) := by omega
    obtain rfl : k = N := by omega
    have hd : d = depK t.kids := by have := Hd.out; rw [HNd.out, List.take_length] at this; exact this
    subst hd
    clear hkn Hd
    go_wp2_with fail
    go_ret
    exact ⟨ret_i' Hdd.out.symm, T2.out _ hS⟩
  obtain ⟨x, hx⟩ : ∃ x, (kidsZ l (q : Int))[k]? = some x := ⟨_, List.getElem?_eq_getElem (by have := HN.out; omega)⟩
  obtain ⟨u, r, rfl, hdk, hdu, hcall⟩ := Hkid.out k x hx
  obtain ⟨ka, hka, hc⟩ := int_at (T1.out _ hS) hx
  subst hka
  have Hcall := Lib.hid (hcall wr (T0.out _ hS))
  obtain ⟨e, he⟩ : ∃ e, e = depT u := ⟨_, rfl⟩
  rw [← he] at Hcall hdk
  have Hdk : Hid ((if d < e then e else d) = depK (t.kids.take (k + 1))) := by show _ = _; rw [hdk, ← Hd.out]; split <;> omega
  have hka : (k : Int) < (N : Int) := by omega
  clear hx hkn hdk hdu hcall he Hd
  go_wp2_with fail
  refine Hcall.out.mono ?_
  rintro e' w3 ⟨rfl, b3⟩
  replace hS := stS.go hS b3
  clear b3 hc Hcall
  go_wp2_with fail
  refine ⟨⟨k + 1, _, by simp, rfl, by omega, Hdk, hS⟩, ?_⟩
  simp only [intOf]; omega
set_option maxRecDepth 100000 in
set_option maxHeartbeats 4000000 in
theorem aCheck_any (A : Option Addr) (cap : Nat) (l : List Nd) (w : World) (hr : Rd w A (l.flatMap Nd.cells)) (hl : l.length ≤ 1000) :
 Calls Tryz.prog 113 #[.slice A l.length cap] w fun e w' => e = .returned (.int .i64 (checkA l)) ∧ Below w.heap.size w w' := by
 by_cases h0 : l.length = 0
 · have Hz := Lib.hid (checkA_0 h0)
   rw [h0]
   clear hr hl h0
   go_enter Tryz.func113, Tryz.ntmps113
   go_wp2_with fail
   go_ret
   exact ⟨ret_i' Hz.out.symm, Below.refl _ _⟩
 have e0 : ((l.length : Int) == 0) = false := by rw [beq_eq_false_iff_ne]; omega
 by_cases h1 : 200 < l.length
 · have Hz := Lib.hid (checkA_1 h1)
   have e1 : 200 < (l.length : Int) := by omega
   clear hr hl h0 h1
   go_enter Tryz.func113, Tryz.ntmps113
   go_wp2_with fail
   go_ret
   exact ⟨ret_i' Hz.out.symm, Below.refl _ _⟩
 have e1 : ¬ (200 < (l.length : Int)) := by omega
 have Hc := Lib.hid (contNd_any A cap l (fun x => decide (arityZ x < 0)) w (fun W => Rd W A (l.flatMap Nd.cells) ∧ Below w.heap.size w W) ⟨hr, Below.refl _ _⟩ (fun W h => h.1) (fun W h => h.2) (fun x _ W _ => check1_any x W) (by omega))
 have He := Lib.hid (fun W h => end_any A cap l (0 : Int) W h hl)
 have Hr := Lib.hid hr
 have H0 := Lib.hid h0
 have H1 := Lib.hid h1
 have Hl := Lib.hid hl
 clear hr hl h0 h1
 obtain ⟨b, hb⟩ : ∃ b, b = l.any fun x => decide (arityZ x < 0) := ⟨_, rfl⟩
 rw [← hb] at Hc
 go_enter Tryz.func113, Tryz.ntmps113
 go_wp2_with fail
 refine Hc.out.mono ?_
 rintro e w1 ⟨rfl, b1⟩
 clear Hc
 cases b
 rotate_left
 · obtain ⟨x, hx, hn⟩ := List.any_eq_true.1 hb.symm
   have Hz := Lib.hid (checkA_2 H0.out H1.out hx (by simpa using hn))
   clear hb hx hn
   go_wp2_with fail
   go_ret
   exact ⟨ret_i' Hz.out.symm, b1⟩
 have h2 : ∀ x ∈ l, ¬ arityZ x < 0 := fun x hx hn => by
  have := List.any_eq_false.1 hb.symm x hx
  simp at this; omega
 have H2 := Lib.hid h2
 clear hb h2
 go_wp2_with fail
 refine (He.out w1 (Hr.out.go b1)).mono ?_
 rintro e w2 ⟨rfl, b2⟩
 replace b1 := b1.trans (b2.mono b1.size)
 clear b2 He
 by_cases h3 : endZ l 0 = (l.length : Int)
 rotate_left
 · have Hz := Lib.hid (checkA_3 H0.out H1.out (fun x hx hn => by have := H2.out x hx; omega) h3)
   have e3 : (endZ l 0 != (l.length : Int)) = true := by simpa using h3
   clear h3
   go_wp2_with fail
   go_ret
   exact ⟨ret_i' Hz.out.symm, b1⟩
 obtain ⟨t, ht⟩ := Whole.of h3
 have e3 : ((l.length : Int) != (l.length : Int)) = false := by simp
 have Hz := Lib.hid (checkA_4 H1.out (fun x hx hn => by have := H2.out x hx; omega) ht)
 have Hd : Hid (Calls Tryz.prog 154 #[.slice A l.length cap, .int .i64 0] w2 fun e w' => e = .returned (.int .i64 (depT t)) ∧ Below w2.heap.size w2 w') := depth_any A cap l Hl.out t.size t 0 (Nat.le_refl _) ht.hat w2 (Hr.out.go b1)
 rw [h3]
 clear h3 ht
 obtain ⟨d, hd⟩ : ∃ d, d = depT t := ⟨_, rfl⟩
 rw [← hd] at Hd Hz
 clear hd
 go_wp2_with fail
 refine Hd.out.mono ?_
 rintro e w3 ⟨rfl, b3⟩
 replace b1 := b1.trans (b3.mono b1.size)
 clear b3 Hd
 by_cases h4 : 30 < d
 · have Hz2 : Hid (checkA l = 13) := by have := Hz.out; rw [if_pos h4] at this; exact this
   clear Hz
   go_wp2_with fail
   go_ret
   exact ⟨ret_i' Hz2.out.symm, b1⟩
 · have Hz2 : Hid (checkA l = 0) := by have := Hz.out; rw [if_neg h4] at this; exact this
   clear Hz
   go_wp2_with fail
   go_ret
   exact ⟨ret_i' Hz2.out.symm, b1⟩
set_option maxRecDepth 100000 in
set_option maxHeartbeats 4000000 in
theorem refACheck_any (A : Option Addr) (cap : Nat) (l : List Nd) (w : World) (hr : Rd w A (l.flatMap Nd.cells)) (hl : l.length ≤ 1000) :
 Calls Tryz.prog 124 #[.slice A l.length cap] w fun e w' => e = .returned (.int .i64 (checkA l)) ∧ Below w.heap.size w w' := by
 by_cases h0 : l.length = 0
 · have Hz := Lib.hid (checkA_0 h0)
   rw [h0]
   clear hr hl h0
   go_enter Tryz.func124, Tryz.ntmps124
   go_wp2_with fail
   go_ret
   exact ⟨ret_i' Hz.out.symm, Below.refl _ _⟩
 have e0 : ((l.length : Int) == 0) = false := by rw [beq_eq_false_iff_ne]; omega
 by_cases h1 : 200 < l.length
 · have Hz := Lib.hid (checkA_1 h1)
   have e1 : 200 < (l.length : Int) := by omega
   clear hr hl h0 h1
   go_enter Tryz.func124, Tryz.ntmps124
   go_wp2_with fail
   go_ret
   exact ⟨ret_i' Hz.out.symm, Below.refl _ _⟩
 have e1 : ¬ (200 < (l.length : Int)) := by omega
 have hl1 : (l.length : Int) ≤ 1000 := by omega
 have He := Lib.hid (fun W h => refEnd_any A cap l (0 : Int) W h hl)
 have H0 := Lib.hid h0
 have H1 := Lib.hid h1
 have Hl := Lib.hid hl
 obtain ⟨S, hSd⟩ : ∃ S, S = (fun W => Rd W A (l.flatMap Nd.cells) ∧ Below w.heap.size w W) := ⟨_, rfl⟩
 have stS : St S := by rw [hSd]; infer_instance
 have T0 : Hid (∀ W, S W → Rd W A (l.flatMap Nd.cells)) := by show ∀ W, _; rw [hSd]; exact fun W h => h.1
 have T1 : Hid (∀ W, S W → Below w.heap.size w W) := by show ∀ W, _; rw [hSd]; exact fun W h => h.2
 have hS : S w := by rw [hSd]; exact ⟨hr, Below.refl _ _⟩
 clear hSd hr hl h0 h1
 go_enter Tryz.func124, Tryz.ntmps124
 go_wp2_with fail
 go_loopw [3] (fun i wr => ∃ k : Nat, i = .int .i64 (k : Int) ∧ k ≤ l.length ∧ Hid (∀ y ∈ l.take k, 0 ≤ arityZ y) ∧ S wr) (fun i _ => l.length - (intOf i).toNat)
 case atStart => exact ⟨0, by simp, Nat.zero_le _, Lib.hid (fun y h => by simp at h), hS⟩
 case round =>
  clear hS
  obtain ⟨k, rfl, hk1, Hk, hS⟩ := hrel
  by_cases hkn : k < l.length
  · obtain ⟨x, hx⟩ : ∃ x, l[k]? = some x := ⟨_, List.getElem?_eq_getElem hkn⟩
    obtain ⟨ad, had, hc⟩ := nd_at (T0.out _ hS) hx
    subst had
    have Hc := Lib.hid hc
    have Hx := Lib.hid hx
    have hka : (k : Int) < (l.length : Int) := by omega
    have Ha := Lib.hid (refArity_any x wr)
    clear hc hx hkn
    go_wp2_with (refine wpList_load_at rfl 74 _ rfl (ad.add (k * 2)) rfl x.cells _ Hc.out Tryz.underlying74 rfl (by kernel_rfl) ?_)
    refine Ha.out.mono ?_
    rintro e w2 ⟨rfl, b2⟩
    replace hS := stS.go hS b2
    clear b2 Ha Hc
    by_cases hneg : arityZ x < 0
    · have Hz := Lib.hid (checkA_2 H0.out H1.out (List.mem_of_getElem? Hx.out) hneg)
      clear Hk
      go_wp2_with fail
      go_ret
      exact ⟨ret_i' Hz.out.symm, T1.out _ hS⟩
    · have Hn : Hid (∀ y ∈ l.take (k + 1), 0 ≤ arityZ y) := fun y hy => by
       rw [List.take_add_one, List.mem_append] at hy
       rcases hy with hy | hy
       · exact Hk.out y hy
       · rw [Hx.out] at hy; simp at hy; rw [hy]; omega
      clear Hk
      go_wp2_with fail
      refine ⟨⟨k + 1, by simp, by omega, Hn, hS⟩, ?_⟩
      simp only [intOf]; omega
  · obtain rfl : k = l.length := by omega
    have H2 : Hid (∀ y ∈ l, 0 ≤ arityZ y) := by have := Hk.out; rwa [List.take_length] at this
    have hge : ¬ ((l.length : Int) < (l.length : Int)) := by omega
    clear hkn Hk hk1
    go_wp2_with fail
    refine (He.out wr (T0.out _ hS)).mono ?_
    rintro e w2 ⟨rfl, b2⟩
    replace hS := stS.go hS b2
    clear b2 He
    by_cases h3 : endZ l 0 = (l.length : Int)
    rotate_left
    · have Hz := Lib.hid (checkA_3 H0.out H1.out (fun x hx hn => by have := H2.out x hx; omega) h3)
      have e3 : (endZ l 0 != (l.length : Int)) = true := by simpa using h3
      clear h3
      go_wp2_with fail
      go_ret
      exact ⟨ret_i' Hz.out.symm, T1.out _ hS⟩
    obtain ⟨t, ht⟩ := Whole.of h3
    have e3 : ((l.length : Int) != (l.length : Int)) = false := by simp
    have Hz := Lib.hid (checkA_4 H1.out (fun x hx hn => by have := H2.out x hx; omega) ht)
    have Hd : Hid (Calls Tryz.prog 161 #[.slice A l.length cap, .int .i64 0] w2 fun e w' => e = .returned (.int .i64 (depT t)) ∧ Below w2.heap.size w2 w') := refDepth_any A cap l Hl.out t.size t 0 (Nat.le_refl _) ht.hat w2 (T0.out _ hS)
    rw [h3]
    clear h3 ht
    obtain ⟨d, hd⟩ : ∃ d, d = depT t := ⟨_, rfl⟩
    rw [← hd] at Hd Hz
    clear hd
    go_wp2_with fail
    refine Hd.out.mono ?_
    rintro e w3 ⟨rfl, b3⟩
    replace hS := stS.go hS b3
    clear b3 Hd
    by_cases h4 : 30 < d
    · have Hz2 : Hid (checkA l = 13) := by have := Hz.out; rw [if_pos h4] at this; exact this
      clear Hz
      go_wp2_with fail
      go_ret
      exact ⟨ret_i' Hz2.out.symm, T1.out _ hS⟩
    · have Hz2 : Hid (checkA l = 0) := by have := Hz.out; rw [if_neg h4] at this; exact this
      clear Hz
      go_wp2_with fail
      go_ret
      exact ⟨ret_i' Hz2.out.symm, T1.out _ hS⟩
set_option maxRecDepth 100000 in
set_option maxHeartbeats 4000000 in
theorem kCheck_any (p : PgV) (hbl : p.body.length ≤ 1000) (w : World) (hok : p.ok w) :
 Calls Tryz.prog 69 #[.agg p.cells] w fun e w' => e = .returned (.int .i64 (checkP p)) ∧ Below w.heap.size w w' := by
 have Hbl := Lib.hid hbl
 have Hok := Lib.hid hok
 clear hbl hok
 go_enter Tryz.func69, Tryz.ntmps69
 go_wp2_with (refine at_box _ _ rfl ?_)
 refine Stop.to ?_
 refine wpList_box_gen rfl 25 _ rfl p.cells rfl ?_
 intro G Gw Gh Gr Gb
 have b1 := (Below.refl w.heap.size w).trans (Gb.mono Gh)
 have Hok1 := Lib.hid (Hok.out.go b1)
 have c2 := Gr.cellv (i := 2) (v := .slice p.ba p.body.length p.bcap) rfl
 have Hs := Lib.hid (aCheck_any p.ba p.bcap p.body Gw Hok1.out.brd Hbl.out)
 clear Gb Gh Hok
 go_wp2_with fail
 refine Hs.out.mono ?_
 rintro e w1 ⟨rfl, b2⟩
 replace Gr := Gr.below b2 Gr.lt
 replace b1 := b1.trans (b2.mono b1.size)
 replace Hok1 := Lib.hid (Hok1.out.go b2)
 clear b2 Hs c2
 obtain ⟨a, ha⟩ : ∃ a, a = checkA p.body := ⟨_, rfl⟩
 rw [← ha]
 by_cases h0 : a = 0
 rotate_left
 · have Hz : Hid (checkP p = a) := by show _ = _; rw [checkP_0 (by rw [← ha]; exact h0), ← ha]
   have e0 : (a != 0) = true := by simpa using h0
   clear ha h0
   go_wp2_with fail
   go_ret
   exact ⟨ret_i' Hz.out.symm, b1⟩
 subst h0
 have Ha := Lib.hid ha.symm
 have Hs := Lib.hid (vars_any p w1 Hok1.out)
 clear ha
 go_wp2_with (refine wpList_load_row rfl 25 _ rfl G rfl 25 p.cells (0, 0) _ Gr Tryz.underlying25 rfl (by kernel_rfl) ?_)
 refine Hs.out.mono ?_
 rintro e w2 ⟨rfl, b2⟩
 replace Gr := Gr.below b2 Gr.lt
 replace b1 := b1.trans (b2.mono b1.size)
 replace Hok1 := Lib.hid (Hok1.out.go b2)
 clear b2 Hs
 obtain ⟨v, hv⟩ : ∃ v, v = varsE p.params p.V := ⟨_, rfl⟩
 rw [← hv]
 by_cases h0 : v = 0
 rotate_left
 · have h14 : v = 14 := by rcases varsE_cases p.params p.V with h | h <;> omega
   have Hz : Hid (checkP p = 14) := checkP_1 Ha.out (by rw [← hv]; exact h0)
   subst h14
   clear hv h0
   go_wp2_with fail
   go_ret
   exact ⟨ret_i' Hz.out.symm, b1⟩
 subst h0
 have Hv := Lib.hid hv.symm
 obtain ⟨hl2, har, t, ht, hdp⟩ := checkA_ok Ha.out
 have Ht := Lib.hid ht
 have Hs : Hid (∀ W, p.ok W → Calls Tryz.prog 115 #[.agg p.cells, .int .i64 0] W fun e w' => e = .returned (.int .i64 (ofT p.V t)) ∧ Below W.heap.size W w') := fun W h => kOf_tree p Hbl.out t 0 Ht.out.hat W h
 obtain ⟨ad, had, hc⟩ := nd_at Hok1.out.brd ht.hat.root
 have c2 := Gr.cellv (i := 2) (v := .slice p.ba p.body.length p.bcap) rfl
 have c0 := hc 0 _ rfl
 have hpos : (0 : Int) < (p.body.length : Int) := by have := ht.pos; omega
 simp only [Nat.zero_mul, add_zero'] at c0
 rw [had] at c2
 have Hvo : Hid (varsOk p.params p.V) := by rcases varsE_cases p.params p.V with h | h; exact h.2; have := Hv.out; omega
 clear hv hl2 har hdp ht hc
 by_cases h20 : t.root.tag = 20
 rotate_left
 · have Hz : Hid (checkP p = 15) := checkP_2 Ha.out Hv.out (not_good_tree Ht.out.hat (fun h => h20 h.1))
   have e20 : (t.root.tag != 20) = true := by simpa using h20
   clear h20
   go_wp2_with fail
   go_ret
   exact ⟨ret_i' Hz.out.symm, b1⟩
 have e20 : (t.root.tag != 20) = false := by simp [h20]
 have H20 := Lib.hid h20
 clear h20
 go_wp2_with (refine wpList_load_rowG rfl 25 _ rfl G rfl 25 p.cells (0, 0) _ Gr Tryz.underlying25 rfl (by kernel_rfl) ?_)
 refine (Hs.out w2 Hok1.out).mono ?_
 rintro e w3 ⟨rfl, b2⟩
 replace b1 := b1.trans (b2.mono b1.size)
 clear b2 Hs c0 c2
 obtain ⟨k, hk⟩ : ∃ k, k = ofT p.V t := ⟨_, rfl⟩
 rw [← hk]
 by_cases h2 : k = 2
 · subst h2
   have Hz : Hid (checkP p = 0) := checkP_3 Ha.out Hv.out ⟨Ht.out.hat, Ht.out.size, Hvo.out, H20.out, hk.symm⟩
   clear hk
   go_wp2_with fail
   go_ret
   exact ⟨ret_i' Hz.out.symm, b1⟩
 · have Hz : Hid (checkP p = 15) := checkP_2 Ha.out Hv.out (not_good_tree Ht.out.hat (fun h => h2 (by rw [hk]; exact h.2)))
   have e2 : (k != 2) = true := by simpa using h2
   clear hk h2
   go_wp2_with fail
   go_ret
   exact ⟨ret_i' Hz.out.symm, b1⟩
set_option maxRecDepth 100000 in
set_option maxHeartbeats 4000000 in
theorem refKCheck_any (p : PgV) (hbl : p.body.length ≤ 1000) (w : World) (hok : p.ok w) :
 Calls Tryz.prog 83 #[.agg p.cells] w fun e w' => e = .returned (.int .i64 (checkP p)) ∧ Below w.heap.size w w' := by
 have Hbl := Lib.hid hbl
 have Hok := Lib.hid hok
 clear hbl hok
 go_enter Tryz.func83, Tryz.ntmps83
 go_wp2_with (refine at_box _ _ rfl ?_)
 refine Stop.to ?_
 refine wpList_box_gen rfl 25 _ rfl p.cells rfl ?_
 intro G Gw Gh Gr Gb
 have b1 := (Below.refl w.heap.size w).trans (Gb.mono Gh)
 have Hok1 := Lib.hid (Hok.out.go b1)
 have c2 := Gr.cellv (i := 2) (v := .slice p.ba p.body.length p.bcap) rfl
 have Hs := Lib.hid (refACheck_any p.ba p.bcap p.body Gw Hok1.out.brd Hbl.out)
 clear Gb Gh Hok
 go_wp2_with fail
 refine Hs.out.mono ?_
 rintro e w1 ⟨rfl, b2⟩
 replace Gr := Gr.below b2 Gr.lt
 replace b1 := b1.trans (b2.mono b1.size)
 replace Hok1 := Lib.hid (Hok1.out.go b2)
 clear b2 Hs c2
 obtain ⟨a, ha⟩ : ∃ a, a = checkA p.body := ⟨_, rfl⟩
 rw [← ha]
 by_cases h0 : a = 0
 rotate_left
 · have Hz : Hid (checkP p = a) := by show _ = _; rw [checkP_0 (by rw [← ha]; exact h0), ← ha]
   have e0 : (a != 0) = true := by simpa using h0
   clear ha h0
   go_wp2_with fail
   go_ret
   exact ⟨ret_i' Hz.out.symm, b1⟩
 subst h0
 have Ha := Lib.hid ha.symm
 have Hs := Lib.hid (refVars_any p w1 Hok1.out)
 clear ha
 go_wp2_with (refine wpList_load_row rfl 25 _ rfl G rfl 25 p.cells (0, 0) _ Gr Tryz.underlying25 rfl (by kernel_rfl) ?_)
 refine Hs.out.mono ?_
 rintro e w2 ⟨rfl, b2⟩
 replace Gr := Gr.below b2 Gr.lt
 replace b1 := b1.trans (b2.mono b1.size)
 replace Hok1 := Lib.hid (Hok1.out.go b2)
 clear b2 Hs
 obtain ⟨v, hv⟩ : ∃ v, v = varsE p.params p.V := ⟨_, rfl⟩
 rw [← hv]
 by_cases h0 : v = 0
 rotate_left
 · have h14 : v = 14 := by rcases varsE_cases p.params p.V with h | h <;> omega
   have Hz : Hid (checkP p = 14) := checkP_1 Ha.out (by rw [← hv]; exact h0)
   subst h14
   clear hv h0
   go_wp2_with fail
   go_ret
   exact ⟨ret_i' Hz.out.symm, b1⟩
 subst h0
 have Hv := Lib.hid hv.symm
 obtain ⟨hl2, har, t, ht, hdp⟩ := checkA_ok Ha.out
 have Ht := Lib.hid ht
 have Hs : Hid (∀ W, p.ok W → Calls Tryz.prog 126 #[.agg p.cells, .int .i64 0] W fun e w' => e = .returned (.int .i64 (ofT p.V t)) ∧ Below W.heap.size W w') := fun W h => refOf_tree p Hbl.out t.size t 0 (Nat.le_refl _) Ht.out.hat W h
 obtain ⟨ad, had, hc⟩ := nd_at Hok1.out.brd ht.hat.root
 have c2 := Gr.cellv (i := 2) (v := .slice p.ba p.body.length p.bcap) rfl
 have c0 := hc 0 _ rfl
 have hpos : (0 : Int) < (p.body.length : Int) := by have := ht.pos; omega
 simp only [Nat.zero_mul, add_zero'] at c0
 rw [had] at c2
 have Hvo : Hid (varsOk p.params p.V) := by rcases varsE_cases p.params p.V with h | h; exact h.2; have := Hv.out; omega
 clear hv hl2 har hdp ht hc
 by_cases h20 : t.root.tag = 20
 rotate_left
 · have Hz : Hid (checkP p = 15) := checkP_2 Ha.out Hv.out (not_good_tree Ht.out.hat (fun h => h20 h.1))
   have e20 : (t.root.tag != 20) = true := by simpa using h20
   clear h20
   go_wp2_with fail
   go_ret
   exact ⟨ret_i' Hz.out.symm, b1⟩
 have e20 : (t.root.tag != 20) = false := by simp [h20]
 have H20 := Lib.hid h20
 clear h20
 go_wp2_with (refine wpList_load_rowG rfl 25 _ rfl G rfl 25 p.cells (0, 0) _ Gr Tryz.underlying25 rfl (by kernel_rfl) ?_)
 refine (Hs.out w2 Hok1.out).mono ?_
 rintro e w3 ⟨rfl, b2⟩
 replace b1 := b1.trans (b2.mono b1.size)
 clear b2 Hs c0 c2
 obtain ⟨k, hk⟩ : ∃ k, k = ofT p.V t := ⟨_, rfl⟩
 rw [← hk]
 by_cases h2 : k = 2
 · subst h2
   have Hz : Hid (checkP p = 0) := checkP_3 Ha.out Hv.out ⟨Ht.out.hat, Ht.out.size, Hvo.out, H20.out, hk.symm⟩
   clear hk
   go_wp2_with fail
   go_ret
   exact ⟨ret_i' Hz.out.symm, b1⟩
 · have Hz : Hid (checkP p = 15) := checkP_2 Ha.out Hv.out (not_good_tree Ht.out.hat (fun h => h2 (by rw [hk]; exact h.2)))
   have e2 : (k != 2) = true := by simpa using h2
   clear hk h2
   go_wp2_with fail
   go_ret
   exact ⟨ret_i' Hz.out.symm, b1⟩
end Go.Proofs.YtcgglolckkeeiaaGreat
