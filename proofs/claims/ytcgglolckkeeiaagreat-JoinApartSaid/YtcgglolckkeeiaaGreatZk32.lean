/- Lemmas for JnBll. -/
import Derived.Test.YtcgglolckkeeiaaGreatZk29
import Derived.Test.YtcgglolckkeeiaaGreatZk1
import Derived.Test.YtcgglolckkeeiaaGreatZk9
namespace Go.Proofs.YtcgglolckkeeiaaGreat
set_option linter.unusedVariables false
open Go.RowKit Go.Deep
theorem posF_shift (d : Dl) : ∀ (l : List Mt) (k p : Nat), posF d l (k + 1) (p + 1) = posF d l k p + 1
 | [], _, _ => rfl
 | m :: r, k, p => by
  rw [posF, posF]
  by_cases h : cmpD m.d d < 0
  · rw [if_pos h, if_pos h, posF_shift d r (k + 1) (k + 1)]
  · rw [if_neg h, if_neg h, posF_shift d r (k + 1) p]
theorem posF_stay (d : Dl) : ∀ (l : List Mt) (k p : Nat), (∀ m ∈ l, ¬ cmpD m.d d < 0) → posF d l k p = p
 | [], _, _, _ => rfl
 | m :: r, k, p, h => by
  rw [posF, if_neg (h m (by simp)), posF_stay d r (k + 1) p (fun x hx => h x (by simp [hx]))]
theorem putZ_map (l : List MtV) (y : MtV) : (putZ MtV.m l y).map MtV.m = putZ id (l.map MtV.m) y.m := by
 simp [putZ, List.map_take, List.map_drop]
theorem putZ_merge (y : Mt) : ∀ (l : List Mt), riseM l → (∀ m ∈ l, cmpD m.d y.d ≠ 0) → putZ id l y = mergeM l [y]
 | [], _, _ => by simp [putZ, posF, mergeM]
 | m :: r, hr, hne => by
  have hr2 : riseD (m.d :: r.map Mt.d) := riseM_iff.1 hr
  have hrr : riseM r := riseM_iff.2 (riseD_tail hr2)
  by_cases h : cmpD m.d y.d < 0
  · have ih := putZ_merge y r hrr (fun x hx => hne x (by simp [hx]))
    rw [mergeM, if_pos h, ← ih]
    have hp : posF y.d (m :: r) 0 0 = posF y.d r 0 0 + 1 := by rw [posF, if_pos h, posF_shift]
    simp [putZ, hp]
  · have h2 : 0 < cmpD m.d y.d := by have := hne m (by simp); omega
    have hp : posF y.d (m :: r) 0 0 = 0 := posF_stay _ _ _ _ (fun x hx => by
     rcases List.mem_cons.1 hx with e | e
     · rw [e]; exact h
     · have h3 := riseD_head hr2 (List.mem_map_of_mem (f := Mt.d) e)
       intro h4
       have h5 := cmpD_trans h3 h4
       omega)
    rw [mergeM, if_neg h, if_pos h2]
    simp [putZ, hp, mergeM]
end Go.Proofs.YtcgglolckkeeiaaGreat
namespace Go.Proofs.YtcgglolckkeeiaaGreat
set_option linter.unusedVariables false
open Go.RowKit
theorem own_rdN {w : World} {base n size : Nat} {e : TypeId} {v : Value} {xs : List Value} (h : w.ownsRow base e size v n xs) : ∃ A cap, v = .slice A n cap ∧ Rd w A xs ∧ n ≤ cap ∧ cap ≤ maxLen ∧ (A = none → cap = 0) ∧ ∀ ad, A = some ad → base ≤ ad.block := by
 have hl : xs.length = n * size := h.1
 rcases h.2 with ⟨rfl, h0⟩ | ⟨g, cap, cur, rfl, hb, hh, hc, hm, hsz, ht⟩
 · have hx : xs = [] := List.eq_nil_of_length_eq_zero (by rw [hl, h0, Nat.zero_mul])
   subst hx
   exact ⟨none, 0, by rw [h0], Rd.nil _ _, by omega, by unfold maxLen; omega, fun _ => rfl, fun ad e => by cases e⟩
 · refine ⟨some ⟨g, 0, none⟩, cap, rfl, fun j u hj => ⟨_, rfl, ?_⟩, hc, hm, fun e => (by cases e), fun ad e => by cases e; exact hb⟩
   have hr : Row w g e cur := hh
   exact hr.from_ 0 (cs := xs) (fun j v hj => by
    rw [Nat.zero_add, ← Array.getElem?_toList]
    have h1 : (cur.toList.take (n * size))[j]? = some v := by rw [ht]; exact hj
    rw [List.getElem?_take_of_lt (by have := (List.getElem?_eq_some_iff.1 hj).1; omega)] at h1; exact h1) j u hj
end Go.Proofs.YtcgglolckkeeiaaGreat
namespace Go.Proofs.YtcgglolckkeeiaaGreat
set_option linter.unusedVariables false
open Go.RowKit Go.Deep
def unF (a : List MtV) : List MtV → List MtV → List MtV
 | acc, [] => acc
 | acc, y :: b => unF a (if idxF y.m.d (a.map MtV.m) 0 < 0 then putZ MtV.m acc y else acc) b
theorem unF_on {a acc b : List MtV} {k : Nat} {y : MtV} (hy : b[k]? = some y) : unF a acc (b.drop k) = unF a (if idxF y.m.d (a.map MtV.m) 0 < 0 then putZ MtV.m acc y else acc) (b.drop (k + 1)) := by
 have hk := (List.getElem?_eq_some_iff.1 hy).1
 have he := (List.getElem?_eq_some_iff.1 hy).2
 rw [List.drop_eq_getElem_cons hk, he, unF]
theorem putZ_len (l : List MtV) (y : MtV) : (putZ MtV.m l y).length = l.length + 1 := by
 simp only [putZ, List.length_append, List.length_take, List.length_drop, List.length_singleton]; omega
theorem putZ_mem {l : List MtV} {y x : MtV} (h : x ∈ putZ MtV.m l y) : x ∈ l ∨ x = y := by
 simp only [putZ, List.mem_append, List.mem_singleton] at h
 rcases h with (h | h) | h
 · exact Or.inl (List.mem_of_mem_take h)
 · exact Or.inr h
 · exact Or.inl (List.mem_of_mem_drop h)
def SlM (l : List MtV) (v : Value) (W : World) : Prop := ∃ A n cap, v = .slice A n cap ∧ Rd W A (mtsC l) ∧ n = l.length ∧ n ≤ cap ∧ (A = none → l = []) ∧ ∀ x ∈ l, MtOk W x
theorem SlM.go {l : List MtV} {v : Value} {W W' : World} (h : SlM l v W) (b : Below W.heap.size W W') : SlM l v W' := by
 obtain ⟨A, n, cap, e, hr, hn, hc, ha, ho⟩ := h
 exact ⟨A, n, cap, e, hr.go b, hn, hc, ha, fun x hx => (ho x hx).go b⟩
instance St.slm {l : List MtV} {v : Value} : St (fun W => SlM l v W) := ⟨fun h b => h.go b⟩
theorem cell_go {W W' : World} {ad : Addr} {cs : List Value} (h : ∀ j u, cs[j]? = some u → W.cell? (ad.add j) = some u) (b : Below W.heap.size W W') {j : Nat} {u : Value} (hj : cs[j]? = some u) : W'.cell? (ad.add j) = some u := by
 obtain ⟨a', e, hc⟩ := (Rd.go (A := some ad) (fun j u hj => ⟨_, rfl, h j u hj⟩) b) j u hj
 injection e with e; subst e; exact hc
def UnOwn (w : World) (va v : Value) : Prop := v = va ∨ ∀ ad n cap, v = .slice (some ad) n cap → w.heap.size ≤ ad.block
set_option maxRecDepth 100000 in
set_option maxHeartbeats 4000000 in
theorem union_any (va vb : Value) (a b : List MtV) (w : World) (ha : SlM a va w) (hb : SlM b vb w) (hl : a.length + b.length ≤ 100000) :
 Calls Tryz.prog 53 #[va, vb] w fun e w' => ∃ v, e = .returned v ∧ SlM (unF a a b) v w' ∧ Below w.heap.size w w' ∧ UnOwn w va v := by
 obtain ⟨A, na, ca, rfl, -, hna, -⟩ := id ha
 obtain ⟨B, nb, cb, rfl, -, hnb, -⟩ := id hb
 obtain ⟨S, hSd⟩ : ∃ S, S = (fun W => SlM a (.slice A na ca) W ∧ SlM b (.slice B nb cb) W ∧ Below w.heap.size w W) := ⟨_, rfl⟩
 have stS : St S := by rw [hSd]; infer_instance
 have T0 : Hid (∀ W, S W → SlM a (.slice A na ca) W) := by show ∀ W, _; rw [hSd]; exact fun W h => h.1
 have T1 : Hid (∀ W, S W → SlM b (.slice B nb cb) W) := by show ∀ W, _; rw [hSd]; exact fun W h => h.2.1
 have T2 : Hid (∀ W, S W → Below w.heap.size w W) := by show ∀ W, _; rw [hSd]; exact fun W h => h.2.2
 have hS : S w := by rw [hSd]; exact ⟨ha, hb, Below.refl _ _⟩
 have Hl := Lib.hid hl
 have Hna := Lib.hid hna
 have Hnb := Lib.hid hnb
 have hnbI : (nb : Int) ≤ 1000000 := by omega
 have Ha := Lib.hid ha
 clear hSd ha hb hl hna hnb
 go_enter Tryz.func53, Tryz.ntmps53
 go_wp2_with fail
 go_loopw [5, 6] (fun c i wr => ∃ (acc : List MtV) (k : Nat), i = .int .i64 (k : Int) ∧ k ≤ nb ∧ Hid (acc.length ≤ a.length + k) ∧ Hid (unF a a b = unF a acc (b.drop k)) ∧ Hid (SlM acc c wr ∧ UnOwn w (.slice A na ca) c) ∧ S wr) (fun _ i _ => nb - (intOf i).toNat)
 case atStart => exact ⟨a, 0, by simp, Nat.zero_le _, by simp [Hid], by simp [Hid], ⟨Ha.out, .inl rfl⟩, hS⟩
 case round =>
  clear hS Ha
  obtain ⟨acc, k, rfl, hk1, Hal, Hk, Hacc, hS⟩ := hrel
  by_cases hkn : k < nb
  rotate_left
  · have hge : ¬ ((k : Int) < (nb : Int)) := by omega
    obtain rfl : k = nb := by omega
    have Hf : Hid (unF a a b = acc) := by rw [Hid, Hk.out, List.drop_eq_nil_of_le (by have := Hnb.out; omega)]; rfl
    clear hkn Hk
    go_wp2_with fail
    go_ret
    exact ⟨_, rfl, by rw [Hf.out]; exact Hacc.out.1, T2.out _ hS, Hacc.out.2⟩
  obtain ⟨y, hy⟩ : ∃ y, b[k]? = some y := ⟨_, List.getElem?_eq_getElem (by have := Hnb.out; omega)⟩
  obtain ⟨B', nb', cb', e0, hrb, -, -, -, hob⟩ := T1.out _ hS
  injection e0 with e1 e2 e3; subst e1 e2 e3
  obtain ⟨bd, hbd, hc⟩ := mt_at hrb hy
  subst hbd
  have hyo := hob y (List.mem_of_getElem? hy)
  have hka : (k : Int) < (nb : Int) := by omega
  have Hst := Lib.hid (unF_on (a := a) (acc := acc) hy)
  obtain ⟨A', na', ca', e0, hra, -, -, -, hoa⟩ := T0.out _ hS
  injection e0 with e1 e2 e3; subst e1 e2 e3
  have Hcall := Lib.hid (refFind25_any A ca na a y.dl wr Hna.out hra (by have := Hl.out; omega) hoa hyo.dl)
  have Hyo := Lib.hid hyo
  have Hc := Lib.hid hc
  clear hy hkn hrb hob hra hoa hyo hc
  go_wp2_with (refine wpList_load_at rfl 42 _ rfl (bd.add (k * 8)) rfl y.dl.cells.toList _ (mt_dlat Hc.out) Tryz.underlying42 rfl (by kernel_rfl) ?_)
  refine Hcall.out.mono ?_
  rintro e w1 ⟨rfl, b1⟩
  replace hS := stS.go hS b1
  have hacc := SlM.go Hacc.out.1 b1
  have Hun := Lib.hid Hacc.out.2
  have hc1 : Hid (∀ j u, y.cells[j]? = some u → w1.cell? ((bd.add (k * 8)).add j) = some u) := fun j u hj => cell_go Hc.out b1 hj
  obtain ⟨i, hi⟩ : ∃ i, i = idxF y.dl.d (a.map MtV.m) 0 := ⟨_, rfl⟩
  have Hst2 : Hid (unF a acc (b.drop k) = unF a (if i < 0 then putZ MtV.m acc y else acc) (b.drop (k + 1))) := by rw [hi]; exact Hst.out
  rw [← hi]
  clear Hst hi Hcall Hacc
  by_cases h0 : i < 0
  · have Hf : Hid (unF a a b = unF a (putZ MtV.m acc y) (b.drop (k + 1))) := by rw [Hid, Hk.out, Hst2.out, if_pos h0]
    clear Hun
    obtain ⟨C, n, cc, rfl, hrc, hn, hnc, hcn, hoc⟩ := hacc
    have Hput := Lib.hid (put_any C cc n acc y w1 hn hnc hcn hrc (by have := Hal.out; have := Hl.out; have := Hnb.out; omega) hoc (Hyo.out.go b1))
    have Hoc := Lib.hid hoc
    have Hyo1 := Lib.hid (Hyo.out.go b1)
    clear hrc hn hnc hcn hoc b1 Hyo Hc Hk Hst2
    go_wp2_with (refine wpList_load_at rfl 47 _ rfl (bd.add (k * 8)) rfl y.cells _ hc1.out Tryz.underlying47 rfl (by kernel_rfl) ?_)
    refine Hput.out.mono ?_
    rintro e w2 ⟨v, rfl, hown, b2⟩
    have hS2 := stS.go hS b2
    have HA : Hid (SlM (putZ MtV.m acc y) v w2 ∧ UnOwn w (.slice A na ca) v) := by
     have hbs := (T2.out _ hS).size
     obtain ⟨D, cd, rfl, hrd, hnc, -, hdn, hD⟩ := own_rdN hown
     refine ⟨⟨D, _, cd, rfl, hrd, rfl, hnc, fun e => List.eq_nil_of_length_eq_zero (by have := hdn e; omega), fun x hx => ?_⟩, .inr fun ad n cap e => by injection e with e1 e2 e3; have := hD ad e1; omega⟩
     rcases putZ_mem hx with h | h
     · exact (Hoc.out x h).go b2
     · rw [h]; exact Hyo1.out.go b2
    have Hal2 : Hid ((putZ MtV.m acc y).length ≤ a.length + (k + 1)) := by have := Hal.out; rw [Hid, putZ_len]; omega
    clear Hput hown b2 Hoc Hyo1 Hal
    go_wp2_with fail
    exact ⟨⟨putZ MtV.m acc y, k + 1, by simp, by omega, Hal2, Hf, HA, hS2⟩, by simp only [intOf]; omega⟩
  · have Hf : Hid (unF a a b = unF a acc (b.drop (k + 1))) := by rw [Hid, Hk.out, Hst2.out, if_neg h0]
    have HA := Lib.hid (And.intro hacc Hun.out)
    have Hal2 : Hid (acc.length ≤ a.length + (k + 1)) := by have := Hal.out; rw [Hid]; omega
    clear Hk Hst2 hacc Hun b1 Hc hc1 Hyo Hal
    go_wp2_with fail
    exact ⟨⟨acc, k + 1, by simp, by omega, Hal2, Hf, HA, hS⟩, by simp only [intOf]; omega⟩
end Go.Proofs.YtcgglolckkeeiaaGreat
namespace Go.Proofs.YtcgglolckkeeiaaGreat
set_option linter.unusedVariables false
open Go.RowKit Go.Deep
theorem idxF_no {d : Dl} : ∀ (l : List Mt) (k : Int), 0 ≤ k → (idxF d l k < 0 ↔ ∀ m ∈ l, cmpD m.d d ≠ 0)
 | [], k, _ => by simp [idxF]
 | m :: r, k, hk => by
  rw [idxF]
  by_cases h : cmpD m.d d = 0
  · rw [if_pos h]
    exact ⟨fun h2 => by omega, fun h2 => absurd h (h2 m (by simp))⟩
  · rw [if_neg h, idxF_no r (k + 1) (by omega)]
    exact ⟨fun h2 x hx => by
     rcases List.mem_cons.1 hx with e | e
     · rw [e]; exact h
     · exact h2 x e, fun h2 x hx => h2 x (by simp [hx])⟩
theorem riseM_sing (y : Mt) : riseM [y] := riseM_iff.2 (by simp [riseD])
theorem unF_all (a : List MtV) : ∀ (b acc : List MtV), riseM (acc.map MtV.m) → riseM (b.map MtV.m) → (∀ u ∈ a.map MtV.m, u ∈ acc.map MtV.m) → (∀ y ∈ b.map MtV.m, ∀ x ∈ acc.map MtV.m, x.d = y.d → ∃ u ∈ a.map MtV.m, u.d = y.d) →
 riseM ((unF a acc b).map MtV.m) ∧ ∀ x, x ∈ (unF a acc b).map MtV.m ↔ x ∈ acc.map MtV.m ∨ (x ∈ b.map MtV.m ∧ ∀ u ∈ a.map MtV.m, cmpD u.d x.d ≠ 0)
 | [], acc, h1, _, _, _ => ⟨h1, fun x => by simp [unF]⟩
 | y :: b, acc, h1, h2, h3, h4 => by
  rw [List.map_cons] at h2
  rw [unF]
  by_cases hc : idxF y.m.d (a.map MtV.m) 0 < 0
  · rw [if_pos hc]
    have hno := (idxF_no _ _ (Int.le_refl 0)).1 hc
    have hA : ∀ x ∈ acc.map MtV.m, cmpD x.d y.m.d ≠ 0 := fun x hx e => by
     obtain ⟨u, hu, e2⟩ := h4 y.m (by simp) x hx (cmpD_eq.1 e)
     exact hno u hu (cmpD_eq.2 e2)
    have e : (putZ MtV.m acc y).map MtV.m = mergeM (acc.map MtV.m) [y.m] := by rw [putZ_map, putZ_merge _ _ h1 hA]
    have hm : ∀ x, x ∈ (putZ MtV.m acc y).map MtV.m ↔ x ∈ acc.map MtV.m ∨ x = y.m := fun x => by
     rw [e, mergeM_mem h1 (riseM_sing _)]
     constructor
     · rintro (h | ⟨h, _⟩)
       · exact .inl h
       · exact .inr (by simpa using h)
     · rintro (h | rfl)
       · exact .inl h
       · exact .inr ⟨by simp, hA⟩
    obtain ⟨r1, r2⟩ := unF_all a b (putZ MtV.m acc y) (by rw [e]; exact mergeM_rise h1 (riseM_sing _)) (riseM_tail h2) (fun u hu => (hm u).2 (.inl (h3 u hu))) (fun y' hy' x hx hd => by
     rcases (hm x).1 hx with h | rfl
     · exact h4 y' (by simp only [List.map_cons, List.mem_cons]; exact .inr hy') x h hd
     · have h9 := riseM_head h2 hy'
       rw [hd, cmpD_self] at h9
       omega)
    refine ⟨r1, fun x => ?_⟩
    rw [r2 x, hm x, List.map_cons, List.mem_cons]
    constructor
    · rintro ((h | rfl) | ⟨h, h'⟩)
      · exact .inl h
      · exact .inr ⟨.inl rfl, hno⟩
      · exact .inr ⟨.inr h, h'⟩
    · rintro (h | ⟨rfl | h, h'⟩)
      · exact .inl (.inl h)
      · exact .inl (.inr rfl)
      · exact .inr ⟨h, h'⟩
  · rw [if_neg hc]
    obtain ⟨r1, r2⟩ := unF_all a b acc h1 (riseM_tail h2) h3 (fun y' hy' => h4 y' (by simp only [List.map_cons, List.mem_cons]; exact .inr hy'))
    refine ⟨r1, fun x => ?_⟩
    rw [r2 x, List.map_cons, List.mem_cons]
    constructor
    · rintro (h | ⟨h, h'⟩)
      · exact .inl h
      · exact .inr ⟨.inr h, h'⟩
    · rintro (h | ⟨rfl | h, h'⟩)
      · exact .inl h
      · exact absurd ((idxF_no _ _ (Int.le_refl 0)).2 h') hc
      · exact .inr ⟨h, h'⟩
theorem unF_merge (a b : List MtV) (ha : riseM (a.map MtV.m)) (hb : riseM (b.map MtV.m)) : (unF a a b).map MtV.m = mergeM (a.map MtV.m) (b.map MtV.m) := by
 obtain ⟨r1, r2⟩ := unF_all a b a ha hb (fun _ h => h) (fun y _ x hx e => ⟨x, hx, e⟩)
 refine riseM_ext r1 (mergeM_rise ha hb) fun x => ?_
 rw [r2 x, mergeM_mem ha hb]
end Go.Proofs.YtcgglolckkeeiaaGreat
namespace Go.Proofs.YtcgglolckkeeiaaGreat
set_option linter.unusedVariables false
open Go.RowKit Go.Deep
theorem unF_length (a : List MtV) : ∀ (b acc : List MtV), (unF a acc b).length ≤ acc.length + b.length
 | [], acc => by simp [unF]
 | y :: b, acc => by
  rw [unF]
  split
  · have := unF_length a b (putZ MtV.m acc y)
    rw [putZ_len] at this
    simp only [List.length_cons]; omega
  · have := unF_length a b acc
    simp only [List.length_cons]; omega
end Go.Proofs.YtcgglolckkeeiaaGreat
