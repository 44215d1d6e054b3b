/- Lemmas for CmAll. -/
import Derived.Test.YtcgglolckkeeiaaGreatZm11
import Derived.Test.YtcgglolckkeeiaaGreatZm15
import Derived.Test.YtcgglolckkeeiaaGreatZm12
import Derived.Test.YtcgglolckkeeiaaGreatZm9
namespace Go.Proofs.YtcgglolckkeeiaaGreat
set_option linter.unusedVariables false
open Go.RowKit Go.Deep
def idxZ {α : Type} (p : α → Bool) (l : List α) : Int := match l.findIdx? p with | some i => (i : Int) | none => -1
theorem idxZ_yes {α : Type} {p : α → Bool} {l : List α} {k : Nat} {x : α} (h : ∀ y ∈ l.take k, p y = false) (hx : l[k]? = some x) (hp : p x = true) : idxZ p l = (k : Int) := by
 unfold idxZ
 have hl := (List.getElem?_eq_some_iff.1 hx).1
 have : l.findIdx? p = some k := by
  rw [List.findIdx?_eq_some_iff_getElem]
  refine ⟨hl, by rw [(List.getElem?_eq_some_iff.1 hx).2]; exact hp, fun j hj => ?_⟩
  rw [h _ (List.mem_take_iff_getElem.2 ⟨j, by omega, rfl⟩)]; simp
 rw [this]
theorem idxZ_no {α : Type} {p : α → Bool} {l : List α} (h : ∀ y ∈ l, p y = false) : idxZ p l = -1 := by
 unfold idxZ
 have : l.findIdx? p = none := by rw [List.findIdx?_eq_none_iff]; exact h
 rw [this]
theorem idxZ_any {α : Type} (p : α → Bool) (l : List α) : decide (0 ≤ idxZ p l) = l.any p := by
 unfold idxZ
 cases h : l.findIdx? p with
 | none =>
  rw [List.findIdx?_eq_none_iff] at h
  simp; intro x hx; simpa using h x hx
 | some i =>
  rw [List.findIdx?_eq_some_iff_getElem] at h
  obtain ⟨hl, hp, _⟩ := h
  simp; exact ⟨l[i], List.getElem_mem hl, hp⟩
theorem take_allB_step {α : Type} {p : α → Bool} {l : List α} {k : Nat} {x : α} (h : ∀ y ∈ l.take k, p y = false) (hx : l[k]? = some x) (hp : p x = false) : ∀ y ∈ l.take (k + 1), p y = false := by
 rw [List.take_add_one, hx]
 intro y hy
 rcases List.mem_append.1 hy with hy | hy
 · exact h y hy
 · simp at hy; subst hy; exact hp
set_option maxRecDepth 100000 in
set_option maxHeartbeats 4000000 in
theorem idxNd_any (A : Option Addr) (cap : Nat) (l : List Nd) (p : Nd → Bool) (w : World) (S : World → Prop) [stS : St S] (hS : S w) (hrd : ∀ W, S W → Rd W A (l.flatMap Nd.cells)) (hlo : ∀ W, S W → Below w.heap.size w W)
 (hp : ∀ x ∈ l, ∀ W, S W → Calls Tryz.prog 151 #[.agg x.cells.toArray] W fun e W' => e = .returned (.bool (p x)) ∧ Below W.heap.size W W') (hl : l.length ≤ 1000000) :
 Calls Tryz.prog 185 #[.slice A l.length cap, .func (.func 151) #[] #[]] w fun e w' => e = .returned (.int .i64 (idxZ p l)) ∧ Below w.heap.size w w' := by
 have Hp := Lib.hid hp
 have Hrd := Lib.hid hrd
 have Hlo := Lib.hid hlo
 have hl' : (l.length : Int) ≤ 1000000 := by omega
 clear hp hrd hlo hl
 go_enter Tryz.func185, Tryz.ntmps185
 go_wp2
 go_loopw [8] (fun i wr => ∃ k : Nat, i = .int .i64 (k : Int) ∧ k ≤ l.length ∧ Hid (∀ y ∈ l.take k, p y = false) ∧ S wr) (fun i _ => l.length - (intOf i).toNat)
 case atStart => exact ⟨0, rfl, Nat.zero_le _, Lib.hid (fun x hx => by simp at hx), hS⟩
 case round =>
  clear hS
  obtain ⟨k, rfl, hk, Hall, hS⟩ := hrel
  by_cases hlt : k < l.length
  · obtain ⟨x, hx⟩ : ∃ x, l[k]? = some x := ⟨_, List.getElem?_eq_getElem hlt⟩
    obtain ⟨ad, had, hcx⟩ := nd_at (Hrd.out _ hS) hx
    have Hcx : Hid (∀ j u, x.cells[j]? = some u → wr.cell? ((ad.add (k * 2)).add j) = some u) := hcx
    have Hx := Lib.hid hx
    have Hcall := Lib.hid (Hp.out x (List.mem_of_getElem? hx) wr hS)
    have hltI : (k : Int) < (l.length : Int) := by omega
    clear hx hlt hcx
    subst had
    go_wp2_with (refine wpList_load_at rfl 74 _ rfl (ad.add (k * 2)) rfl x.cells _ Hcx.out Tryz.underlying74 rfl (by kernel_rfl) ?_)
    refine Hcall.out.mono ?_
    rintro e w' ⟨rfl, b1⟩
    replace hS := stS.go hS b1
    clear b1 Hcall Hcx
    cases hs : p x
    · have Hn := Lib.hid (take_allB_step Hall.out Hx.out hs)
      clear hs Hx
      go_wp2_with fail
      go_roundw
      case rel => exact ⟨k + 1, by go_num, by omega, Hn, hS⟩
      case measure => simp [intOf]; omega
    · have Hn := Lib.hid (idxZ_yes Hall.out Hx.out hs)
      clear hs Hx
      go_wp2_with fail
      go_ret
      exact ⟨by rw [Hn.out]; rfl, Hlo.out _ hS⟩
  · obtain rfl : k = l.length := by omega
    have Hn := Lib.hid (idxZ_no (p := p) (l := l) (by have := Hall.out; rwa [List.take_length] at this))
    clear hlt hk
    go_wp2
    go_ret
    exact ⟨by rw [Hn.out]; rfl, Hlo.out _ hS⟩
set_option maxRecDepth 100000 in
set_option maxHeartbeats 4000000 in
theorem contNd_any (A : Option Addr) (cap : Nat) (l : List Nd) (p : Nd → Bool) (w : World) (S : World → Prop) [stS : St S] (hS : S w) (hrd : ∀ W, S W → Rd W A (l.flatMap Nd.cells)) (hlo : ∀ W, S W → Below w.heap.size w W)
 (hp : ∀ x ∈ l, ∀ W, S W → Calls Tryz.prog 151 #[.agg x.cells.toArray] W fun e W' => e = .returned (.bool (p x)) ∧ Below W.heap.size W W') (hl : l.length ≤ 1000000) :
 Calls Tryz.prog 150 #[.slice A l.length cap, .func (.func 151) #[] #[]] w fun e w' => e = .returned (.bool (l.any p)) ∧ Below w.heap.size w w' := by
 have Hc := Lib.hid (idxNd_any A cap l p w S hS hrd hlo hp hl)
 clear hp hrd hlo hl hS
 go_enter Tryz.func150, Tryz.ntmps150
 go_wp2_with fail
 refine Hc.out.mono ?_
 rintro e w' ⟨rfl, b1⟩
 have Ha := Lib.hid (idxZ_any p l)
 clear Hc
 go_wp2_with fail
 go_ret
 exact ⟨ret_b Ha.out.symm, b1⟩
set_option maxRecDepth 100000 in
set_option maxHeartbeats 4000000 in
theorem check1_any (x : Nd) (w : World) :
 Calls Tryz.prog 151 #[.agg x.cells.toArray] w fun e w' => e = .returned (.bool (decide (arityZ x < 0))) ∧ Below w.heap.size w w' := by
 go_enter Tryz.func151, Tryz.ntmps151
 go_wp2_with (refine at_box _ _ rfl ?_)
 refine Stop.to ?_
 refine wpList_box_gen rfl 74 _ rfl x.cells.toArray rfl ?_
 intro G Gw Gh Gr Gb
 have b1 := (Below.refl w.heap.size w).trans (Gb.mono Gh)
 have Ha := Lib.hid (arity_any x Gw)
 clear Gb Gh
 go_wp2_with (refine wpList_load_row rfl 74 _ rfl G rfl 74 x.cells.toArray (0, 0) _ Gr Tryz.underlying74 rfl (by kernel_rfl) ?_)
 refine Ha.out.mono ?_
 rintro e w1 ⟨rfl, b2⟩
 have b3 := b1.trans (b2.mono b1.size)
 clear Ha Gr b1 b2
 go_wp2_with fail
 go_ret
 exact ⟨rfl, b3⟩
end Go.Proofs.YtcgglolckkeeiaaGreat
namespace Go.Proofs.YtcgglolckkeeiaaGreat
set_option linter.unusedVariables false
open Go.RowKit Go.Deep
set_option maxRecDepth 100000 in
set_option maxHeartbeats 4000000 in
theorem refDepth_any (A : Option Addr) (cap : Nat) (l : List Nd) (hl : l.length ≤ 1000) : ∀ (n : Nat) (t : Tr) (q : Nat), t.size ≤ n → At l q t → ∀ w, Rd w A (l.flatMap Nd.cells) →
 Calls Tryz.prog 161 #[.slice A l.length cap, .int .i64 (q : Int)] w fun e w' => e = .returned (.int .i64 (depT t)) ∧ Below w.heap.size w w' := by
 intro n
 induction n with
 | zero => intro t q hn; have := t.size_eq; omega
 | succ n ih =>
 intro t q hn hat w hr
 have He := Lib.hid (refEnd_any A cap l (q : Int) w hr hl)
 rw [hat.endZ] at He
 have Hks := Lib.hid (fun W h => refKids_any A cap l (q : Int) W h hl)
 have hqt : q + t.size ≤ l.length := hat.le
 have hkz : kidsZ l (q : Int) = natsI (spots (q + 1) t.kids) := hat.kidsZ
 have hN : (kidsZ l (q : Int)).length = t.kids.length := by rw [hkz, natsI_len, spots_len]
 have hts : t.kids.length ≤ t.size := by have h1 := flats_ge t.kids; have h2 := t.size_eq; omega
 have Hkid : Hid (∀ (j : Nat) (x : Int), (kidsZ l (q : Int))[j]? = some x → ∃ (k : Tr) (r : Nat), x = (r : Int) ∧ depK (t.kids.take (j + 1)) = max (depK (t.kids.take j)) (depT k) ∧ depT k ≤ 1000 ∧ ∀ W, Rd W A (l.flatMap Nd.cells) → Calls Tryz.prog 161 #[.slice A l.length cap, .int .i64 (r : Int)] W fun e w' => e = .returned (.int .i64 (depT k)) ∧ Below W.heap.size W w') := fun j x hx => by
  rw [hkz] at hx
  unfold natsI at hx
  rw [List.getElem?_map] at hx
  obtain ⟨r, hr, rfl⟩ := Option.map_eq_some_iff.1 hx
  obtain ⟨k, hk⟩ : ∃ k, t.kids[j]? = some k := ⟨_, List.getElem?_eq_getElem (by have := (List.getElem?_eq_some_iff.1 hr).1; rw [spots_len] at this; exact this)⟩
  have hak := (hat.kids.spot _ _ _ hr hk).1
  have h4 := kid_size (List.mem_of_getElem? hk)
  have h5 := t.size_eq
  exact ⟨k, r, rfl, by rw [List.take_add_one, hk]; exact depK_snoc k _, by have := depT_le k; have := hak.le; omega, ih k r (by omega) hak⟩
 have hdt := depT_le t
 have hdd : depT t = depK t.kids + 1 := by cases t; rfl
 have hd0 := depK_nn t.kids
 have Hr := Lib.hid hr
 obtain ⟨N, hNd⟩ : ∃ N, N = t.kids.length := ⟨_, rfl⟩
 rw [← hNd] at hN
 have hN1 : (N : Int) ≤ 1000 := by omega
 obtain ⟨Q, hQ⟩ : ∃ Q, Q = q + t.size := ⟨_, rfl⟩
 rw [← hQ] at He
 have hQ0 : ¬ ((Q : Int) < 0) := by omega
 have Hdd := Lib.hid hdd
 have HN := Lib.hid hN
 have HNd := Lib.hid hNd
 have hdI : depK t.kids ≤ 1000 := by omega
 clear ih hl hr hat hn hQ hqt hkz hN hNd hts hdt hdd
 go_enter Tryz.func161, Tryz.ntmps161
 go_wp2_with fail
 refine He.out.mono ?_
 rintro e w1 ⟨rfl, b1⟩
 clear He
 go_wp2_with fail
 refine (Hks.out w1 (Hr.out.go b1)).mono ?_
 rintro e w2 ⟨v, rfl, hown, b2⟩
 obtain ⟨KA, kc, rfl, hKr, hKc, hKn, hKb⟩ := own_rdB hown
 rw [HN.out]
 have b3 := b1.trans (b2.mono b1.size)
 obtain ⟨S, hSd⟩ : ∃ S, S = (fun W => Rd W A (l.flatMap Nd.cells) ∧ Rd W KA (ints (kidsZ l (q : Int))) ∧ Below w.heap.size w W) := ⟨_, rfl⟩
 have stS : St S := by rw [hSd]; infer_instance
 have T0 : Hid (∀ W, S W → Rd W A (l.flatMap Nd.cells)) := by show ∀ W, _; rw [hSd]; exact fun W h => h.1
 have T1 : Hid (∀ W, S W → Rd W KA (ints (kidsZ l (q : Int)))) := by show ∀ W, _; rw [hSd]; exact fun W h => h.2.1
 have T2 : Hid (∀ W, S W → Below w.heap.size w W) := by show ∀ W, _; rw [hSd]; exact fun W h => h.2.2
 have hS : S w2 := by rw [hSd]; exact ⟨Hr.out.go b3, hKr, b3⟩
 clear hSd b1 b2 b3 hown hKr hKb hKn Hks Hr
 go_wp2_with fail
 go_loopw [5, 7] (fun m i wr => ∃ (k : Nat) (d : Int), i = .int .i64 (k : Int) ∧ m = .int .i64 d ∧ k ≤ N ∧ Hid (d = depK (t.kids.take k)) ∧ S wr) (fun _ i _ => N - (intOf i).toNat)
 case atStart => exact ⟨0, 0, by simp, by simp, Nat.zero_le _, Lib.hid (by simp [depK]), hS⟩
 case round =>
  clear hS
  obtain ⟨k, d, rfl, rfl, hk1, Hd, hS⟩ := hrel
  by_cases hkn : k < N
  rotate_left
  · have hge : ¬ ((k : Int) < (N : Int)) := by omega
    obtain rfl : k = N := by omega
    have hd : d = depK t.kids := by have := Hd.out; rw [HNd.out, List.take_length] at this; exact this
    subst hd
    clear hkn Hd
    go_wp2_with fail
    go_ret
    exact ⟨ret_i' Hdd.out.symm, T2.out _ hS⟩
  obtain ⟨x, hx⟩ : ∃ x, (kidsZ l (q : Int))[k]? = some x := ⟨_, List.getElem?_eq_getElem (by have := HN.out; omega)⟩
  obtain ⟨u, r, rfl, hdk, hdu, hcall⟩ := Hkid.out k x hx
  obtain ⟨ka, hka, hc⟩ := int_at (T1.out _ hS) hx
  subst hka
  have Hcall := Lib.hid (hcall wr (T0.out _ hS))
  obtain ⟨e, he⟩ : ∃ e, e = depT u := ⟨_, rfl⟩
  rw [← he] at Hcall hdk
  have Hdk : Hid ((if d < e then e else d) = depK (t.kids.take (k + 1))) := by show _ = _; rw [hdk, ← Hd.out]; split <;> omega
  have hka : (k : Int) < (N : Int) := by omega
  clear hx hkn hdk hdu hcall he Hd
  go_wp2_with fail
  refine Hcall.out.mono ?_
  rintro e' w3 ⟨rfl, b3⟩
  replace hS := stS.go hS b3
  clear b3 hc Hcall
  go_wp2_with fail
  refine ⟨⟨k + 1, _, by simp, rfl, by omega, Hdk, hS⟩, ?_⟩
  simp only [intOf]; omega
set_option maxRecDepth 100000 in
set_option maxHeartbeats 4000000 in
theorem aCheck_any (A : Option Addr) (cap : Nat) (l : List Nd) (w : World) (hr : Rd w A (l.flatMap Nd.cells)) (hl : l.length ≤ 1000) :
 Calls Tryz.prog 113 #[.slice A l.length cap] w fun e w' => e = .returned (.int .i64 (checkA l)) ∧ Below w.heap.size w w' := by
 by_cases h0 : l.length = 0
 · have Hz := Lib.hid (checkA_0 h0)
   rw [h0]
   clear hr hl h0
   go_enter Tryz.func113, Tryz.ntmps113
   go_wp2_with fail
   go_ret
   exact ⟨ret_i' Hz.out.symm, Below.refl _ _⟩
 have e0 : ((l.length : Int) == 0) = false := by rw [beq_eq_false_iff_ne]; omega
 by_cases h1 : 200 < l.length
 · have Hz := Lib.hid (checkA_1 h1)
   have e1 : 200 < (l.length : Int) := by omega
   clear hr hl h0 h1
   go_enter Tryz.func113, Tryz.ntmps113
   go_wp2_with fail
   go_ret
   exact ⟨ret_i' Hz.out.symm, Below.refl _ _⟩
 have e1 : ¬ (200 < (l.length : Int)) := by omega
 have Hc := Lib.hid (contNd_any A cap l (fun x => decide (arityZ x < 0)) w (fun W => Rd W A (l.flatMap Nd.cells) ∧ Below w.heap.size w W) ⟨hr, Below.refl _ _⟩ (fun W h => h.1) (fun W h => h.2) (fun x _ W _ => check1_any x W) (by omega))
 have He := Lib.hid (fun W h => end_any A cap l (0 : Int) W h hl)
 have Hr := Lib.hid hr
 have H0 := Lib.hid h0
 have H1 := Lib.hid h1
 have Hl := Lib.hid hl
 clear hr hl h0 h1
 obtain ⟨b, hb⟩ : ∃ b, b = l.any fun x => decide (arityZ x < 0) := ⟨_, rfl⟩
 rw [← hb] at Hc
 go_enter Tryz.func113, Tryz.ntmps113
 go_wp2_with fail
 refine Hc.out.mono ?_
 rintro e w1 ⟨rfl, b1⟩
 clear Hc
 cases b
 rotate_left
 · obtain ⟨x, hx, hn⟩ := List.any_eq_true.1 hb.symm
   have Hz := Lib.hid (checkA_2 H0.out H1.out hx (by simpa using hn))
   clear hb hx hn
   go_wp2_with fail
   go_ret
   exact ⟨ret_i' Hz.out.symm, b1⟩
 have h2 : ∀ x ∈ l, ¬ arityZ x < 0 := fun x hx hn => by
  have := List.any_eq_false.1 hb.symm x hx
  simp at this; omega
 have H2 := Lib.hid h2
 clear hb h2
 go_wp2_with fail
 refine (He.out w1 (Hr.out.go b1)).mono ?_
 rintro e w2 ⟨rfl, b2⟩
 replace b1 := b1.trans (b2.mono b1.size)
 clear b2 He
 by_cases h3 : endZ l 0 = (l.length : Int)
 rotate_left
 · have Hz := Lib.hid (checkA_3 H0.out H1.out (fun x hx hn => by have := H2.out x hx; omega) h3)
   have e3 : (endZ l 0 != (l.length : Int)) = true := by simpa using h3
   clear h3
   go_wp2_with fail
   go_ret
   exact ⟨ret_i' Hz.out.symm, b1⟩
 obtain ⟨t, ht⟩ := Whole.of h3
 have e3 : ((l.length : Int) != (l.length : Int)) = false := by simp
 have Hz := Lib.hid (checkA_4 H1.out (fun x hx hn => by have := H2.out x hx; omega) ht)
 have Hd : Hid (Calls Tryz.prog 154 #[.slice A l.length cap, .int .i64 0] w2 fun e w' => e = .returned (.int .i64 (depT t)) ∧ Below w2.heap.size w2 w') := depth_any A cap l Hl.out t.size t 0 (Nat.le_refl _) ht.hat w2 (Hr.out.go b1)
 rw [h3]
 clear h3 ht
 obtain ⟨d, hd⟩ : ∃ d, d = depT t := ⟨_, rfl⟩
 rw [← hd] at Hd Hz
 clear hd
 go_wp2_with fail
 refine Hd.out.mono ?_
 rintro e w3 ⟨rfl, b3⟩
 replace b1 := b1.trans (b3.mono b1.size)
 clear b3 Hd
 by_cases h4 : 30 < d
 · have Hz2 : Hid (checkA l = 13) := by have := Hz.out; rw [if_pos h4] at this; exact this
   clear Hz
   go_wp2_with fail
   go_ret
   exact ⟨ret_i' Hz2.out.symm, b1⟩
 · have Hz2 : Hid (checkA l = 0) := by have := Hz.out; rw [if_neg h4] at this; exact this
   clear Hz
   go_wp2_with fail
   go_ret
   exact ⟨ret_i' Hz2.out.symm, b1⟩
set_option maxRecDepth 100000 in
set_option maxHeartbeats 4000000 in
theorem refACheck_any (A : Option Addr) (cap : Nat) (l : List Nd) (w : World) (hr : Rd w A (l.flatMap Nd.cells)) (hl : l.length ≤ 1000) :
 Calls Tryz.prog 124 #[.slice A l.length cap] w fun e w' => e = .returned (.int .i64 (checkA l)) ∧ Below w.heap.size w w' := by
 by_cases h0 : l.length = 0
 · have Hz := Lib.hid (checkA_0 h0)
   rw [h0]
   clear hr hl h0
   go_enter Tryz.func124, Tryz.ntmps124
   go_wp2_with fail
   go_ret
   exact ⟨ret_i' Hz.out.symm, Below.refl _ _⟩
 have e0 : ((l.length : Int) == 0) = false := by rw [beq_eq_false_iff_ne]; omega
 by_cases h1 : 200 < l.length
 · have Hz := Lib.hid (checkA_1 h1)
   have e1 : 200 < (l.length : Int) := by omega
   clear hr hl h0 h1
   go_enter Tryz.func124, Tryz.ntmps124
   go_wp2_with fail
   go_ret
   exact ⟨ret_i' Hz.out.symm, Below.refl _ _⟩
 have e1 : ¬ (200 < (l.length : Int)) := by omega
 have hl1 : (l.length : Int) ≤ 1000 := by omega
 have He := Lib.hid (fun W h => refEnd_any A cap l (0 : Int) W h hl)
 have H0 := Lib.hid h0
 have H1 := Lib.hid h1
 have Hl := Lib.hid hl
 obtain ⟨S, hSd⟩ : ∃ S, S = (fun W => Rd W A (l.flatMap Nd.cells) ∧ Below w.heap.size w W) := ⟨_, rfl⟩
 have stS : St S := by rw [hSd]; infer_instance
 have T0 : Hid (∀ W, S W → Rd W A (l.flatMap Nd.cells)) := by show ∀ W, _; rw [hSd]; exact fun W h => h.1
 have T1 : Hid (∀ W, S W → Below w.heap.size w W) := by show ∀ W, _; rw [hSd]; exact fun W h => h.2
 have hS : S w := by rw [hSd]; exact ⟨hr, Below.refl _ _⟩
 clear hSd hr hl h0 h1
 go_enter Tryz.func124, Tryz.ntmps124
 go_wp2_with fail
 go_loopw [3] (fun i wr => ∃ k : Nat, i = .int .i64 (k : Int) ∧ k ≤ l.length ∧ Hid (∀ y ∈ l.take k, 0 ≤ arityZ y) ∧ S wr) (fun i _ => l.length - (intOf i).toNat)
 case atStart => exact ⟨0, by simp, Nat.zero_le _, Lib.hid (fun y h => by simp at h), hS⟩
 case round =>
  clear hS
  obtain ⟨k, rfl, hk1, Hk, hS⟩ := hrel
  by_cases hkn : k < l.length
  · obtain ⟨x, hx⟩ : ∃ x, l[k]? = some x := ⟨_, List.getElem?_eq_getElem hkn⟩
    obtain ⟨ad, had, hc⟩ := nd_at (T0.out _ hS) hx
    subst had
    have Hc := Lib.hid hc
    have Hx := Lib.hid hx
    have hka : (k : Int) < (l.length : Int) := by omega
    have Ha := Lib.hid (refArity_any x wr)
    clear hc hx hkn
    go_wp2_with (refine wpList_load_at rfl 74 _ rfl (ad.add (k * 2)) rfl x.cells _ Hc.out Tryz.underlying74 rfl (by kernel_rfl) ?_)
    refine Ha.out.mono ?_
    rintro e w2 ⟨rfl, b2⟩
    replace hS := stS.go hS b2
    clear b2 Ha Hc
    by_cases hneg : arityZ x < 0
    · have Hz := Lib.hid (checkA_2 H0.out H1.out (List.mem_of_getElem? Hx.out) hneg)
      clear Hk
      go_wp2_with fail
      go_ret
      exact ⟨ret_i' Hz.out.symm, T1.out _ hS⟩
    · have Hn : Hid (∀ y ∈ l.take (k + 1), 0 ≤ arityZ y) := fun y hy => by
       rw [List.take_add_one, List.mem_append] at hy
       rcases hy with hy | hy
       · exact Hk.out y hy
       · rw [Hx.out] at hy; simp at hy; rw [hy]; omega
      clear Hk
      go_wp2_with fail
      refine ⟨⟨k + 1, by simp, by omega, Hn, hS⟩, ?_⟩
      simp only [intOf]; omega
  · obtain rfl : k = l.length := by omega
    have H2 : Hid (∀ y ∈ l, 0 ≤ arityZ y) := by have := Hk.out; rwa [List.take_length] at this
    have hge : ¬ ((l.length : Int) < (l.length : Int)) := by omega
    clear hkn Hk hk1
    go_wp2_with fail
    refine (He.out wr (T0.out _ hS)).mono ?_
    rintro e w2 ⟨rfl, b2⟩
    replace hS := stS.go hS b2
    clear b2 He
    by_cases h3 : endZ l 0 = (l.length : Int)
    rotate_left
    · have Hz := Lib.hid (checkA_3 H0.out H1.out (fun x hx hn => by have := H2.out x hx; omega) h3)
      have e3 : (endZ l 0 != (l.length : Int)) = true := by simpa using h3
      clear h3
      go_wp2_with fail
      go_ret
      exact ⟨ret_i' Hz.out.symm, T1.out _ hS⟩
    obtain ⟨t, ht⟩ := Whole.of h3
    have e3 : ((l.length : Int) != (l.length : Int)) = false := by simp
    have Hz := Lib.hid (checkA_4 H1.out (fun x hx hn => by have := H2.out x hx; omega) ht)
    have Hd : Hid (Calls Tryz.prog 161 #[.slice A l.length cap, .int .i64 0] w2 fun e w' => e = .returned (.int .i64 (depT t)) ∧ Below w2.heap.size w2 w') := refDepth_any A cap l Hl.out t.size t 0 (Nat.le_refl _) ht.hat w2 (T0.out _ hS)
    rw [h3]
    clear h3 ht
    obtain ⟨d, hd⟩ : ∃ d, d = depT t := ⟨_, rfl⟩
    rw [← hd] at Hd Hz
    clear hd
    go_wp2_with fail
    refine Hd.out.mono ?_
    rintro e w3 ⟨rfl, b3⟩
    replace hS := stS.go hS b3
    clear b3 Hd
    by_cases h4 : 30 < d
    · have Hz2 : Hid (checkA l = 13) := by have := Hz.out; rw [if_pos h4] at this; exact this
      clear Hz
      go_wp2_with fail
      go_ret
      exact ⟨ret_i' Hz2.out.symm, T1.out _ hS⟩
    · have Hz2 : Hid (checkA l = 0) := by have := Hz.out; rw [if_neg h4] at this; exact this
      clear Hz
      go_wp2_with fail
      go_ret
      exact ⟨ret_i' Hz2.out.symm, T1.out _ hS⟩
set_option maxRecDepth 100000 in
set_option maxHeartbeats 4000000 in
theorem kCheck_any (p : PgV) (hbl : p.body.length ≤ 1000) (w : World) (hok : p.ok w) :
 Calls Tryz.prog 69 #[.agg p.cells] w fun e w' => e = .returned (.int .i64 (checkP p)) ∧ Below w.heap.size w w' := by
 have Hbl := Lib.hid hbl
 have Hok := Lib.hid hok
 clear hbl hok
 go_enter Tryz.func69, Tryz.ntmps69
 go_wp2_with (refine at_box _ _ rfl ?_)
 refine Stop.to ?_
 refine wpList_box_gen rfl 25 _ rfl p.cells rfl ?_
 intro G Gw Gh Gr Gb
 have b1 := (Below.refl w.heap.size w).trans (Gb.mono Gh)
 have Hok1 := Lib.hid (Hok.out.go b1)
 have c2 := Gr.cellv (i := 2) (v := .slice p.ba p.body.length p.bcap) rfl
 have Hs := Lib.hid (aCheck_any p.ba p.bcap p.body Gw Hok1.out.brd Hbl.out)
 clear Gb Gh Hok
 go_wp2_with fail
 refine Hs.out.mono ?_
 rintro e w1 ⟨rfl, b2⟩
 replace Gr := Gr.below b2 Gr.lt
 replace b1 := b1.trans (b2.mono b1.size)
 replace Hok1 := Lib.hid (Hok1.out.go b2)
 clear b2 Hs c2
 obtain ⟨a, ha⟩ : ∃ a, a = checkA p.body := ⟨_, rfl⟩
 rw [← ha]
 by_cases h0 : a = 0
 rotate_left
 · have Hz : Hid (checkP p = a) := by show _ = _; rw [checkP_0 (by rw [← ha]; exact h0), ← ha]
   have e0 : (a != 0) = true := by simpa using h0
   clear ha h0
   go_wp2_with fail
   go_ret
   exact ⟨ret_i' Hz.out.symm, b1⟩
 subst h0
 have Ha := Lib.hid ha.symm
 have Hs := Lib.hid (vars_any p w1 Hok1.out)
 clear ha
 go_wp2_with (refine wpList_load_row rfl 25 _ rfl G rfl 25 p.cells (0, 0) _ Gr Tryz.underlying25 rfl (by kernel_rfl) ?_)
 refine Hs.out.mono ?_
 rintro e w2 ⟨rfl, b2⟩
 replace Gr := Gr.below b2 Gr.lt
 replace b1 := b1.trans (b2.mono b1.size)
 replace Hok1 := Lib.hid (Hok1.out.go b2)
 clear b2 Hs
 obtain ⟨v, hv⟩ : ∃ v, v = varsE p.params p.V := ⟨_, rfl⟩
 rw [← hv]
 by_cases h0 : v = 0
 rotate_left
 · have h14 : v = 14 := by rcases varsE_cases p.params p.V with h | h <;> omega
   have Hz : Hid (checkP p = 14) := checkP_1 Ha.out (by rw [← hv]; exact h0)
   subst h14
   clear hv h0
   go_wp2_with fail
   go_ret
   exact ⟨ret_i' Hz.out.symm, b1⟩
 subst h0
 have Hv := Lib.hid hv.symm
 obtain ⟨hl2, har, t, ht, hdp⟩ := checkA_ok Ha.out
 have Ht := Lib.hid ht
 have Hs : Hid (∀ W, p.ok W → Calls Tryz.prog 115 #[.agg p.cells, .int .i64 0] W fun e w' => e = .returned (.int .i64 (ofT p.V t)) ∧ Below W.heap.size W w') := fun W h => kOf_tree p Hbl.out t 0 Ht.out.hat W h
 obtain ⟨ad, had, hc⟩ := nd_at Hok1.out.brd ht.hat.root
 have c2 := Gr.cellv (i := 2) (v := .slice p.ba p.body.length p.bcap) rfl
 have c0 := hc 0 _ rfl
 have hpos : (0 : Int) < (p.body.length : Int) := by have := ht.pos; omega
 simp only [Nat.zero_mul, add_zero'] at c0
 rw [had] at c2
 have Hvo : Hid (varsOk p.params p.V) := by rcases varsE_cases p.params p.V with h | h; exact h.2; have := Hv.out; omega
 clear hv hl2 har hdp ht hc
 by_cases h20 : t.root.tag = 20
 rotate_left
 · have Hz : Hid (checkP p = 15) := checkP_2 Ha.out Hv.out (not_good_tree Ht.out.hat (fun h => h20 h.1))
   have e20 : (t.root.tag != 20) = true := by simpa using h20
   clear h20
   go_wp2_with fail
   go_ret
   exact ⟨ret_i' Hz.out.symm, b1⟩
 have e20 : (t.root.tag != 20) = false := by simp [h20]
 have H20 := Lib.hid h20
 clear h20
 go_wp2_with (refine wpList_load_rowG rfl 25 _ rfl G rfl 25 p.cells (0, 0) _ Gr Tryz.underlying25 rfl (by kernel_rfl) ?_)
 refine (Hs.out w2 Hok1.out).mono ?_
 rintro e w3 ⟨rfl, b2⟩
 replace b1 := b1.trans (b2.mono b1.size)
 clear b2 Hs c0 c2
 obtain ⟨k, hk⟩ : ∃ k, k = ofT p.V t := ⟨_, rfl⟩
 rw [← hk]
 by_cases h2 : k = 2
 · subst h2
   have Hz : Hid (checkP p = 0) := checkP_3 Ha.out Hv.out ⟨Ht.out.hat, Ht.out.size, Hvo.out, H20.out, hk.symm⟩
   clear hk
   go_wp2_with fail
   go_ret
   exact ⟨ret_i' Hz.out.symm, b1⟩
 · have Hz : Hid (checkP p = 15) := checkP_2 Ha.out Hv.out (not_good_tree Ht.out.hat (fun h => h2 (by rw [hk]; exact h.2)))
   have e2 : (k != 2) = true := by simpa using h2
   clear hk h2
   go_wp2_with fail
   go_ret
   exact ⟨ret_i' Hz.out.symm, b1⟩
set_option maxRecDepth 100000 in
set_option maxHeartbeats 4000000 in
theorem refKCheck_any (p : PgV) (hbl : p.body.length ≤ 1000) (w : World) (hok : p.ok w) :
 Calls Tryz.prog 83 #[.agg p.cells] w fun e w' => e = .returned (.int .i64 (checkP p)) ∧ Below w.heap.size w w' := by
 have Hbl := Lib.hid hbl
 have Hok := Lib.hid hok
 clear hbl hok
 go_enter Tryz.func83, Tryz.ntmps83
 go_wp2_with (refine at_box _ _ rfl ?_)
 refine Stop.to ?_
 refine wpList_box_gen rfl 25 _ rfl p.cells rfl ?_
 intro G Gw Gh Gr Gb
 have b1 := (Below.refl w.heap.size w).trans (Gb.mono Gh)
 have Hok1 := Lib.hid (Hok.out.go b1)
 have c2 := Gr.cellv (i := 2) (v := .slice p.ba p.body.length p.bcap) rfl
 have Hs := Lib.hid (refACheck_any p.ba p.bcap p.body Gw Hok1.out.brd Hbl.out)
 clear Gb Gh Hok
 go_wp2_with fail
 refine Hs.out.mono ?_
 rintro e w1 ⟨rfl, b2⟩
 replace Gr := Gr.below b2 Gr.lt
 replace b1 := b1.trans (b2.mono b1.size)
 replace Hok1 := Lib.hid (Hok1.out.go b2)
 clear b2 Hs c2
 obtain ⟨a, ha⟩ : ∃ a, a = checkA p.body := ⟨_, rfl⟩
 rw [← ha]
 by_cases h0 : a = 0
 rotate_left
 · have Hz : Hid (checkP p = a) := by show _ = _; rw [checkP_0 (by rw [← ha]; exact h0), ← ha]
   have e0 : (a != 0) = true := by simpa using h0
   clear ha h0
   go_wp2_with fail
   go_ret
   exact ⟨ret_i' Hz.out.symm, b1⟩
 subst h0
 have Ha := Lib.hid ha.symm
 have Hs := Lib.hid (refVars_any p w1 Hok1.out)
 clear ha
 go_wp2_with (refine wpList_load_row rfl 25 _ rfl G rfl 25 p.cells (0, 0) _ Gr Tryz.underlying25 rfl (by kernel_rfl) ?_)
 refine Hs.out.mono ?_
 rintro e w2 ⟨rfl, b2⟩
 replace Gr := Gr.below b2 Gr.lt
 replace b1 := b1.trans (b2.mono b1.size)
 replace Hok1 := Lib.hid (Hok1.out.go b2)
 clear b2 Hs
 obtain ⟨v, hv⟩ : ∃ v, v = varsE p.params p.V := ⟨_, rfl⟩
 rw [← hv]
 by_cases h0 : v = 0
 rotate_left
 · have h14 : v = 14 := by rcases varsE_cases p.params p.V with h | h <;> omega
   have Hz : Hid (checkP p = 14) := checkP_1 Ha.out (by rw [← hv]; exact h0)
   subst h14
   clear hv h0
   go_wp2_with fail
   go_ret
   exact ⟨ret_i' Hz.out.symm, b1⟩
 subst h0
 have Hv := Lib.hid hv.symm
 obtain ⟨hl2, har, t, ht, hdp⟩ := checkA_ok Ha.out
 have Ht := Lib.hid ht
 have Hs : Hid (∀ W, p.ok W → Calls Tryz.prog 126 #[.agg p.cells, .int .i64 0] W fun e w' => e = .returned (.int .i64 (ofT p.V t)) ∧ Below W.heap.size W w') := fun W h => refOf_tree p Hbl.out t.size t 0 (Nat.le_refl _) Ht.out.hat W h
 obtain ⟨ad, had, hc⟩ := nd_at Hok1.out.brd ht.hat.root
 have c2 := Gr.cellv (i := 2) (v := .slice p.ba p.body.length p.bcap) rfl
 have c0 := hc 0 _ rfl
 have hpos : (0 : Int) < (p.body.length : Int) := by have := ht.pos; omega
 simp only [Nat.zero_mul, add_zero'] at c0
 rw [had] at c2
 have Hvo : Hid (varsOk p.params p.V) := by rcases varsE_cases p.params p.V with h | h; exact h.2; have := Hv.out; omega
 clear hv hl2 har hdp ht hc
 by_cases h20 : t.root.tag = 20
 rotate_left
 · have Hz : Hid (checkP p = 15) := checkP_2 Ha.out Hv.out (not_good_tree Ht.out.hat (fun h => h20 h.1))
   have e20 : (t.root.tag != 20) = true := by simpa using h20
   clear h20
   go_wp2_with fail
   go_ret
   exact ⟨ret_i' Hz.out.symm, b1⟩
 have e20 : (t.root.tag != 20) = false := by simp [h20]
 have H20 := Lib.hid h20
 clear h20
 go_wp2_with (refine wpList_load_rowG rfl 25 _ rfl G rfl 25 p.cells (0, 0) _ Gr Tryz.underlying25 rfl (by kernel_rfl) ?_)
 refine (Hs.out w2 Hok1.out).mono ?_
 rintro e w3 ⟨rfl, b2⟩
 replace b1 := b1.trans (b2.mono b1.size)
 clear b2 Hs c0 c2
 obtain ⟨k, hk⟩ : ∃ k, k = ofT p.V t := ⟨_, rfl⟩
 rw [← hk]
 by_cases h2 : k = 2
 · subst h2
   have Hz : Hid (checkP p = 0) := checkP_3 Ha.out Hv.out ⟨Ht.out.hat, Ht.out.size, Hvo.out, H20.out, hk.symm⟩
   clear hk
   go_wp2_with fail
   go_ret
   exact ⟨ret_i' Hz.out.symm, b1⟩
 · have Hz : Hid (checkP p = 15) := checkP_2 Ha.out Hv.out (not_good_tree Ht.out.hat (fun h => h2 (by rw [hk]; exact h.2)))
   have e2 : (k != 2) = true := by simpa using h2
   clear hk h2
   go_wp2_with fail
   go_ret
   exact ⟨ret_i' Hz.out.symm, b1⟩
end Go.Proofs.YtcgglolckkeeiaaGreat
namespace Go.Proofs.YtcgglolckkeeiaaGreat
set_option linter.unusedVariables false
open Go.RowKit Go.Deep
theorem isC_1 (x y : Nd) (n : Int) : isC x y 1 n = decide (7 ≤ x.tag ∧ x.tag ≤ 11 ∧ 7 ≤ n ∧ n ≤ 11 ∧ n ≠ x.tag) := rfl
theorem isC_2 (x y : Nd) (n : Int) : isC x y 2 n = decide (12 ≤ x.tag ∧ x.tag ≤ 17 ∧ 12 ≤ n ∧ n ≤ 17 ∧ n ≠ x.tag) := rfl
theorem isC_3 (x y : Nd) (n : Int) : isC x y 3 n = decide (18 ≤ x.tag ∧ x.tag ≤ 19 ∧ 18 ≤ n ∧ n ≤ 19 ∧ n ≠ x.tag) := rfl
theorem isC_4 (x y : Nd) (n : Int) : isC x y 4 n = decide ((x.tag = 1 ∧ (n = 0 ∨ n = 1 ∨ n = -1 ∨ n = wrap64 (x.n + 1) ∨ n = wrap64 (x.n - 1)) ∧ n ≠ x.n) ∨ (x.tag = 2 ∧ n = wrap64 (1 - x.n))) := rfl
theorem isC_5 (x y : Nd) (n : Int) : isC x y 5 n = decide ((x.tag = 21 ∨ x.tag = 22 ∨ x.tag = 23 ∨ x.tag = 24 ∨ x.tag = 25) ∧ n = 0) := rfl
theorem isC_6 (x y : Nd) (n : Int) : isC x y 6 n = decide ((x.tag = 23 ∨ x.tag = 24) ∧ n = 0) := rfl
theorem isC_7 (x y : Nd) (n : Int) : isC x y 7 n = decide (x.tag = 25 ∧ (n = 0 ∨ n = 1) ∧ ¬ (y.tag = 1 ∧ y.n = n)) := rfl
theorem zero_nd (w : World) : (zeroValue 74).run Tryz.prog w = .ok (.agg #[.int .i64 0, .int .i64 0]) w := by kernel_rfl
set_option maxRecDepth 100000 in
set_option maxHeartbeats 4000000 in
theorem refIs1_any (A : Option Addr) (cap : Nat) (l : List Nd) (q : Nat) (x : Nd) (n : Int) (w : World) (hr : Rd w A (l.flatMap Nd.cells)) (hl : l.length ≤ 1000) (hx : l[q]? = some x) (he : 0 ≤ endZ l (q : Int)) (y : Nd) :
 Calls Tryz.prog 128 #[.slice A l.length cap, .int .i64 (q : Int), .int .i64 1, .int .i64 n] w fun e w' => e = .returned (.bool (isC x y 1 n)) ∧ Below w.heap.size w w' := by
 obtain ⟨tag, nn⟩ := x
 have He := Lib.hid (refEnd_any A cap l (q : Int) w hr hl)
 have hqI : (q : Int) < (l.length : Int) := by have := (List.getElem?_eq_some_iff.1 hx).1; omega
 have hl1 : (l.length : Int) ≤ 1000 := by omega
 have Hr := Lib.hid hr
 have Hx := Lib.hid hx
 have hE0 : ¬ (endZ l (q : Int) < 0) := by omega
 clear hr hl hx he
 go_enter Tryz.func128, Tryz.ntmps128
 go_wp2_with fail
 refine He.out.mono ?_
 rintro e w1 ⟨rfl, b1⟩
 clear He
 obtain ⟨ad, had, hc⟩ := nd_at (Hr.out.go b1) Hx.out
 subst had
 have Hc := Lib.hid hc
 clear hc
 go_wp2_with (first | (refine wpList_load_at rfl 74 _ rfl (ad.add (q * 2)) rfl [.int .i64 tag, .int .i64 nn] _ Hc.out Tryz.underlying74 rfl (by kernel_rfl) ?_) | (refine at_alloc _ rfl ?_))
 refine Stop.to ?_
 refine wpList_alloc_gen rfl 74 rfl _ _ (zero_nd _) rfl ?_
 intro D Dw Dh Dr Db
 go_wp2_with (refine at_store _ _ _ rfl ?_)
 refine Stop.to ?_
 refine wpList_store_gen rfl 74 _ _ rfl D #[.int .i64 tag, .int .i64 nn] rfl rfl 74 _ Dr (by kernel_rfl) rfl (by simp [Value.oneCell']) ?_
 intro Dx Ds Do
 have Dc := (Db.mono Dh).trans (Do.below Dh)
 clear Db Dr Do
 have b2 := b1.trans (Dc.mono b1.size)
 have d0 := Ds.cellv (i := 0) (v := .int .i64 tag) rfl
 have d1 := Ds.cellv (i := 1) (v := .int .i64 nn) rfl
 clear Ds Dc Hr b1 hE0 Hc
 go_wp2_with fail
 all_goals
  go_ret
  refine ⟨ret_b ?_, b2⟩
  rw [isC_1, Bool.eq_iff_iff]
  simp
  try omega
set_option maxRecDepth 100000 in
set_option maxHeartbeats 4000000 in
theorem refIs2_any (A : Option Addr) (cap : Nat) (l : List Nd) (q : Nat) (x : Nd) (n : Int) (w : World) (hr : Rd w A (l.flatMap Nd.cells)) (hl : l.length ≤ 1000) (hx : l[q]? = some x) (he : 0 ≤ endZ l (q : Int)) (y : Nd) :
 Calls Tryz.prog 128 #[.slice A l.length cap, .int .i64 (q : Int), .int .i64 2, .int .i64 n] w fun e w' => e = .returned (.bool (isC x y 2 n)) ∧ Below w.heap.size w w' := by
 obtain ⟨tag, nn⟩ := x
 have He := Lib.hid (refEnd_any A cap l (q : Int) w hr hl)
 have hqI : (q : Int) < (l.length : Int) := by have := (List.getElem?_eq_some_iff.1 hx).1; omega
 have hl1 : (l.length : Int) ≤ 1000 := by omega
 have Hr := Lib.hid hr
 have Hx := Lib.hid hx
 have hE0 : ¬ (endZ l (q : Int) < 0) := by omega
 clear hr hl hx he
 go_enter Tryz.func128, Tryz.ntmps128
 go_wp2_with fail
 refine He.out.mono ?_
 rintro e w1 ⟨rfl, b1⟩
 clear He
 obtain ⟨ad, had, hc⟩ := nd_at (Hr.out.go b1) Hx.out
 subst had
 have Hc := Lib.hid hc
 clear hc
 go_wp2_with (first | (refine wpList_load_at rfl 74 _ rfl (ad.add (q * 2)) rfl [.int .i64 tag, .int .i64 nn] _ Hc.out Tryz.underlying74 rfl (by kernel_rfl) ?_) | (refine at_alloc _ rfl ?_))
 refine Stop.to ?_
 refine wpList_alloc_gen rfl 74 rfl _ _ (zero_nd _) rfl ?_
 intro D Dw Dh Dr Db
 go_wp2_with (refine at_store _ _ _ rfl ?_)
 refine Stop.to ?_
 refine wpList_store_gen rfl 74 _ _ rfl D #[.int .i64 tag, .int .i64 nn] rfl rfl 74 _ Dr (by kernel_rfl) rfl (by simp [Value.oneCell']) ?_
 intro Dx Ds Do
 have Dc := (Db.mono Dh).trans (Do.below Dh)
 clear Db Dr Do
 have b2 := b1.trans (Dc.mono b1.size)
 have d0 := Ds.cellv (i := 0) (v := .int .i64 tag) rfl
 have d1 := Ds.cellv (i := 1) (v := .int .i64 nn) rfl
 clear Ds Dc Hr b1 hE0 Hc
 go_wp2_with fail
 all_goals
  go_ret
  refine ⟨ret_b ?_, b2⟩
  rw [isC_2, Bool.eq_iff_iff]
  simp
  try omega
set_option maxRecDepth 100000 in
set_option maxHeartbeats 4000000 in
theorem refIs3_any (A : Option Addr) (cap : Nat) (l : List Nd) (q : Nat) (x : Nd) (n : Int) (w : World) (hr : Rd w A (l.flatMap Nd.cells)) (hl : l.length ≤ 1000) (hx : l[q]? = some x) (he : 0 ≤ endZ l (q : Int)) (y : Nd) :
 Calls Tryz.prog 128 #[.slice A l.length cap, .int .i64 (q : Int), .int .i64 3, .int .i64 n] w fun e w' => e = .returned (.bool (isC x y 3 n)) ∧ Below w.heap.size w w' := by
 obtain ⟨tag, nn⟩ := x
 have He := Lib.hid (refEnd_any A cap l (q : Int) w hr hl)
 have hqI : (q : Int) < (l.length : Int) := by have := (List.getElem?_eq_some_iff.1 hx).1; omega
 have hl1 : (l.length : Int) ≤ 1000 := by omega
 have Hr := Lib.hid hr
 have Hx := Lib.hid hx
 have hE0 : ¬ (endZ l (q : Int) < 0) := by omega
 clear hr hl hx he
 go_enter Tryz.func128, Tryz.ntmps128
 go_wp2_with fail
 refine He.out.mono ?_
 rintro e w1 ⟨rfl, b1⟩
 clear He
 obtain ⟨ad, had, hc⟩ := nd_at (Hr.out.go b1) Hx.out
 subst had
 have Hc := Lib.hid hc
 clear hc
 go_wp2_with (first | (refine wpList_load_at rfl 74 _ rfl (ad.add (q * 2)) rfl [.int .i64 tag, .int .i64 nn] _ Hc.out Tryz.underlying74 rfl (by kernel_rfl) ?_) | (refine at_alloc _ rfl ?_))
 refine Stop.to ?_
 refine wpList_alloc_gen rfl 74 rfl _ _ (zero_nd _) rfl ?_
 intro D Dw Dh Dr Db
 go_wp2_with (refine at_store _ _ _ rfl ?_)
 refine Stop.to ?_
 refine wpList_store_gen rfl 74 _ _ rfl D #[.int .i64 tag, .int .i64 nn] rfl rfl 74 _ Dr (by kernel_rfl) rfl (by simp [Value.oneCell']) ?_
 intro Dx Ds Do
 have Dc := (Db.mono Dh).trans (Do.below Dh)
 clear Db Dr Do
 have b2 := b1.trans (Dc.mono b1.size)
 have d0 := Ds.cellv (i := 0) (v := .int .i64 tag) rfl
 have d1 := Ds.cellv (i := 1) (v := .int .i64 nn) rfl
 clear Ds Dc Hr b1 hE0 Hc
 go_wp2_with fail
 all_goals
  go_ret
  refine ⟨ret_b ?_, b2⟩
  rw [isC_3, Bool.eq_iff_iff]
  simp
  try omega
set_option maxRecDepth 100000 in
set_option maxHeartbeats 4000000 in
theorem refIs4_any (A : Option Addr) (cap : Nat) (l : List Nd) (q : Nat) (x : Nd) (n : Int) (w : World) (hr : Rd w A (l.flatMap Nd.cells)) (hl : l.length ≤ 1000) (hx : l[q]? = some x) (he : 0 ≤ endZ l (q : Int)) (y : Nd) :
 Calls Tryz.prog 128 #[.slice A l.length cap, .int .i64 (q : Int), .int .i64 4, .int .i64 n] w fun e w' => e = .returned (.bool (isC x y 4 n)) ∧ Below w.heap.size w w' := by
 obtain ⟨tag, nn⟩ := x
 have He := Lib.hid (refEnd_any A cap l (q : Int) w hr hl)
 have hqI : (q : Int) < (l.length : Int) := by have := (List.getElem?_eq_some_iff.1 hx).1; omega
 have hl1 : (l.length : Int) ≤ 1000 := by omega
 have Hr := Lib.hid hr
 have Hx := Lib.hid hx
 have hE0 : ¬ (endZ l (q : Int) < 0) := by omega
 clear hr hl hx he
 go_enter Tryz.func128, Tryz.ntmps128
 go_wp2_with fail
 refine He.out.mono ?_
 rintro e w1 ⟨rfl, b1⟩
 clear He
 obtain ⟨ad, had, hc⟩ := nd_at (Hr.out.go b1) Hx.out
 subst had
 have Hc := Lib.hid hc
 clear hc
 go_wp2_with (first | (refine wpList_load_at rfl 74 _ rfl (ad.add (q * 2)) rfl [.int .i64 tag, .int .i64 nn] _ Hc.out Tryz.underlying74 rfl (by kernel_rfl) ?_) | (refine at_alloc _ rfl ?_))
 refine Stop.to ?_
 refine wpList_alloc_gen rfl 74 rfl _ _ (zero_nd _) rfl ?_
 intro D Dw Dh Dr Db
 go_wp2_with (refine at_store _ _ _ rfl ?_)
 refine Stop.to ?_
 refine wpList_store_gen rfl 74 _ _ rfl D #[.int .i64 tag, .int .i64 nn] rfl rfl 74 _ Dr (by kernel_rfl) rfl (by simp [Value.oneCell']) ?_
 intro Dx Ds Do
 have Dc := (Db.mono Dh).trans (Do.below Dh)
 clear Db Dr Do
 have b2 := b1.trans (Dc.mono b1.size)
 have d0 := Ds.cellv (i := 0) (v := .int .i64 tag) rfl
 have d1 := Ds.cellv (i := 1) (v := .int .i64 nn) rfl
 clear Ds Dc Hr b1 hE0 Hc
 go_wp2_with fail
 all_goals
  go_ret
  refine ⟨ret_b ?_, b2⟩
  rw [isC_4, Bool.eq_iff_iff]
  simp
  try omega
set_option maxRecDepth 100000 in
set_option maxHeartbeats 4000000 in
theorem refIs5_any (A : Option Addr) (cap : Nat) (l : List Nd) (q : Nat) (x : Nd) (n : Int) (w : World) (hr : Rd w A (l.flatMap Nd.cells)) (hl : l.length ≤ 1000) (hx : l[q]? = some x) (he : 0 ≤ endZ l (q : Int)) (y : Nd) :
 Calls Tryz.prog 128 #[.slice A l.length cap, .int .i64 (q : Int), .int .i64 5, .int .i64 n] w fun e w' => e = .returned (.bool (isC x y 5 n)) ∧ Below w.heap.size w w' := by
 obtain ⟨tag, nn⟩ := x
 have He := Lib.hid (refEnd_any A cap l (q : Int) w hr hl)
 have hqI : (q : Int) < (l.length : Int) := by have := (List.getElem?_eq_some_iff.1 hx).1; omega
 have hl1 : (l.length : Int) ≤ 1000 := by omega
 have Hr := Lib.hid hr
 have Hx := Lib.hid hx
 have hE0 : ¬ (endZ l (q : Int) < 0) := by omega
 clear hr hl hx he
 go_enter Tryz.func128, Tryz.ntmps128
 go_wp2_with fail
 refine He.out.mono ?_
 rintro e w1 ⟨rfl, b1⟩
 clear He
 obtain ⟨ad, had, hc⟩ := nd_at (Hr.out.go b1) Hx.out
 subst had
 have Hc := Lib.hid hc
 clear hc
 go_wp2_with (first | (refine wpList_load_at rfl 74 _ rfl (ad.add (q * 2)) rfl [.int .i64 tag, .int .i64 nn] _ Hc.out Tryz.underlying74 rfl (by kernel_rfl) ?_) | (refine at_alloc _ rfl ?_))
 refine Stop.to ?_
 refine wpList_alloc_gen rfl 74 rfl _ _ (zero_nd _) rfl ?_
 intro D Dw Dh Dr Db
 go_wp2_with (refine at_store _ _ _ rfl ?_)
 refine Stop.to ?_
 refine wpList_store_gen rfl 74 _ _ rfl D #[.int .i64 tag, .int .i64 nn] rfl rfl 74 _ Dr (by kernel_rfl) rfl (by simp [Value.oneCell']) ?_
 intro Dx Ds Do
 have Dc := (Db.mono Dh).trans (Do.below Dh)
 clear Db Dr Do
 have b2 := b1.trans (Dc.mono b1.size)
 have d0 := Ds.cellv (i := 0) (v := .int .i64 tag) rfl
 have d1 := Ds.cellv (i := 1) (v := .int .i64 nn) rfl
 clear Ds Dc Hr b1 hE0 Hc
 go_wp2_with fail
 all_goals
  go_ret
  refine ⟨ret_b ?_, b2⟩
  rw [isC_5, Bool.eq_iff_iff]
  simp
  try omega
set_option maxRecDepth 100000 in
set_option maxHeartbeats 4000000 in
theorem refIs6_any (A : Option Addr) (cap : Nat) (l : List Nd) (q : Nat) (x : Nd) (n : Int) (w : World) (hr : Rd w A (l.flatMap Nd.cells)) (hl : l.length ≤ 1000) (hx : l[q]? = some x) (he : 0 ≤ endZ l (q : Int)) (y : Nd) :
 Calls Tryz.prog 128 #[.slice A l.length cap, .int .i64 (q : Int), .int .i64 6, .int .i64 n] w fun e w' => e = .returned (.bool (isC x y 6 n)) ∧ Below w.heap.size w w' := by
 obtain ⟨tag, nn⟩ := x
 have He := Lib.hid (refEnd_any A cap l (q : Int) w hr hl)
 have hqI : (q : Int) < (l.length : Int) := by have := (List.getElem?_eq_some_iff.1 hx).1; omega
 have hl1 : (l.length : Int) ≤ 1000 := by omega
 have Hr := Lib.hid hr
 have Hx := Lib.hid hx
 have hE0 : ¬ (endZ l (q : Int) < 0) := by omega
 clear hr hl hx he
 go_enter Tryz.func128, Tryz.ntmps128
 go_wp2_with fail
 refine He.out.mono ?_
 rintro e w1 ⟨rfl, b1⟩
 clear He
 obtain ⟨ad, had, hc⟩ := nd_at (Hr.out.go b1) Hx.out
 subst had
 have Hc := Lib.hid hc
 clear hc
 go_wp2_with (first | (refine wpList_load_at rfl 74 _ rfl (ad.add (q * 2)) rfl [.int .i64 tag, .int .i64 nn] _ Hc.out Tryz.underlying74 rfl (by kernel_rfl) ?_) | (refine at_alloc _ rfl ?_))
 refine Stop.to ?_
 refine wpList_alloc_gen rfl 74 rfl _ _ (zero_nd _) rfl ?_
 intro D Dw Dh Dr Db
 go_wp2_with (refine at_store _ _ _ rfl ?_)
 refine Stop.to ?_
 refine wpList_store_gen rfl 74 _ _ rfl D #[.int .i64 tag, .int .i64 nn] rfl rfl 74 _ Dr (by kernel_rfl) rfl (by simp [Value.oneCell']) ?_
 intro Dx Ds Do
 have Dc := (Db.mono Dh).trans (Do.below Dh)
 clear Db Dr Do
 have b2 := b1.trans (Dc.mono b1.size)
 have d0 := Ds.cellv (i := 0) (v := .int .i64 tag) rfl
 have d1 := Ds.cellv (i := 1) (v := .int .i64 nn) rfl
 clear Ds Dc Hr b1 hE0 Hc
 go_wp2_with fail
 all_goals
  go_ret
  refine ⟨ret_b ?_, b2⟩
  rw [isC_6, Bool.eq_iff_iff]
  simp
  try omega
end Go.Proofs.YtcgglolckkeeiaaGreat
