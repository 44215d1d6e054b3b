/- Lemmas for JnAll. -/
import Derived.Test.YtcgglolckkeeiaaGreatZj30
import Derived.Test.YtcgglolckkeeiaaGreatZj1
import Derived.Test.YtcgglolckkeeiaaGreatZj9
namespace Go.Proofs.YtcgglolckkeeiaaGreat
set_option linter.unusedVariables false
open Go.RowKit Go.Deep
theorem posF_shift (d : Dl) : ∀ (l : List Mt) (k p : Nat), posF d l (k + 1) (p + 1) = posF d l k p + 1
 | [], _, _ => rfl
 | m :: r, k, p => by
  rw [posF, posF]
  by_cases h : cmpD m.d d < 0
  · rw [if_pos h, if_pos h, posF_shift d r (k + 1) (k + 1)]
  · rw [if_neg h, if_neg h, posF_shift d r (k + 1) p]
theorem posF_stay (d : Dl) : ∀ (l : List Mt) (k p : Nat), (∀ m ∈ l, ¬ cmpD m.d d < 0) → posF d l k p = p
 | [], _, _, _ => rfl
 | m :: r, k, p, h => by
  rw [posF, if_neg (h m (by simp)), posF_stay d r (k + 1) p (fun x hx => h x (by simp [hx]))]
theorem putZ_map (l : List MtV) (y : MtV) : (putZ MtV.m l y).map MtV.m = putZ id (l.map MtV.m) y.m := by
 simp [putZ, List.map_take, List.map_drop]
theorem putZ_merge (y : Mt) : ∀ (l : List Mt), riseM l → (∀ m ∈ l, cmpD m.d y.d ≠ 0) → putZ id l y = mergeM l [y]
 | [], _, _ => by simp [putZ, posF, mergeM]
 | m :: r, hr, hne => by
  have hr2 : riseD (m.d :: r.map Mt.d) := riseM_iff.1 hr
  have hrr : riseM r := riseM_iff.2 (riseD_tail hr2)
  by_cases h : cmpD m.d y.d < 0
  · have ih := putZ_merge y r hrr (fun x hx => hne x (by simp [hx]))
    rw [mergeM, if_pos h, ← ih]
    have hp : posF y.d (m :: r) 0 0 = posF y.d r 0 0 + 1 := by rw [posF, if_pos h, posF_shift]
    simp [putZ, hp]
  · have h2 : 0 < cmpD m.d y.d := by have := hne m (by simp); omega
    have hp : posF y.d (m :: r) 0 0 = 0 := posF_stay _ _ _ _ (fun x hx => by
     rcases List.mem_cons.1 hx with e | e
     · rw [e]; exact h
     · have h3 := riseD_head hr2 (List.mem_map_of_mem (f := Mt.d) e)
       intro h4
       have h5 := cmpD_trans h3 h4
       omega)
    rw [mergeM, if_neg h, if_pos h2]
    simp [putZ, hp, mergeM]
end Go.Proofs.YtcgglolckkeeiaaGreat
namespace Go.Proofs.YtcgglolckkeeiaaGreat
set_option linter.unusedVariables false
open Go.RowKit
theorem own_rdN {w : World} {base n size : Nat} {e : TypeId} {v : Value} {xs : List Value} (h : w.ownsRow base e size v n xs) : ∃ A cap, v = .slice A n cap ∧ Rd w A xs ∧ n ≤ cap ∧ cap ≤ maxLen ∧ (A = none → cap = 0) ∧ ∀ ad, A = some ad → base ≤ ad.block := by
 have hl : xs.length = n * size := h.1
 rcases h.2 with ⟨rfl, h0⟩ | ⟨g, cap, cur, rfl, hb, hh, hc, hm, hsz, ht⟩
 · have hx : xs = [] := List.eq_nil_of_length_eq_zero (by rw [hl, h0, Nat.zero_mul])
   subst hx
   exact ⟨none, 0, by rw [h0], Rd.nil _ _, by omega, by unfold maxLen; omega, fun _ => rfl, fun ad e => by cases e⟩
 · refine ⟨some ⟨g, 0, none⟩, cap, rfl, fun j u hj => ⟨_, rfl, ?_⟩, hc, hm, fun e => (by cases e), fun ad e => by cases e; exact hb⟩
   have hr : Row w g e cur := hh
   exact hr.from_ 0 (cs := xs) (fun j v hj => by
    rw [Nat.zero_add, ← Array.getElem?_toList]
    have h1 : (cur.toList.take (n * size))[j]? = some v := by rw [ht]; exact hj
    rw [List.getElem?_take_of_lt (by have := (List.getElem?_eq_some_iff.1 hj).1; omega)] at h1; exact h1) j u hj
end Go.Proofs.YtcgglolckkeeiaaGreat
namespace Go.Proofs.YtcgglolckkeeiaaGreat
set_option linter.unusedVariables false
open Go.RowKit Go.Deep
def unF (a : List MtV) : List MtV → List MtV → List MtV
 | acc, [] => acc
 | acc, y :: b => unF a (if idxF y.m.d (a.map MtV.m) 0 < 0 then putZ MtV.m acc y else acc) b
theorem unF_on {a acc b : List MtV} {k : Nat} {y : MtV} (hy : b[k]? = some y) : unF a acc (b.drop k) = unF a (if idxF y.m.d (a.map MtV.m) 0 < 0 then putZ MtV.m acc y else acc) (b.drop (k + 1)) := by
 have hk := (List.getElem?_eq_some_iff.1 hy).1
 have he := (List.getElem?_eq_some_iff.1 hy).2
 rw [List.drop_eq_getElem_cons hk, he, unF]
theorem putZ_len (l : List MtV) (y : MtV) : (putZ MtV.m l y).length = l.length + 1 := by
 simp only [putZ, List.length_append, List.length_take, List.length_drop, List.length_singleton]; omega
theorem putZ_mem {l : List MtV} {y x : MtV} (h : x ∈ putZ MtV.m l y) : x ∈ l ∨ x = y := by
 simp only [putZ, List.mem_append, List.mem_singleton] at h
 rcases h with (h | h) | h
 · exact Or.inl (List.mem_of_mem_take h)
 · exact Or.inr h
 · exact Or.inl (List.mem_of_mem_drop h)
def SlM (l : List MtV) (v : Value) (W : World) : Prop := ∃ A n cap, v = .slice A n cap ∧ Rd W A (mtsC l) ∧ n = l.length ∧ n ≤ cap ∧ (A = none → l = []) ∧ ∀ x ∈ l, MtOk W x
theorem SlM.go {l : List MtV} {v : Value} {W W' : World} (h : SlM l v W) (b : Below W.heap.size W W') : SlM l v W' := by
 obtain ⟨A, n, cap, e, hr, hn, hc, ha, ho⟩ := h
 exact ⟨A, n, cap, e, hr.go b, hn, hc, ha, fun x hx => (ho x hx).go b⟩
instance St.slm {l : List MtV} {v : Value} : St (fun W => SlM l v W) := ⟨fun h b => h.go b⟩
theorem cell_go {W W' : World} {ad : Addr} {cs : List Value} (h : ∀ j u, cs[j]? = some u → W.cell? (ad.add j) = some u) (b : Below W.heap.size W W') {j : Nat} {u : Value} (hj : cs[j]? = some u) : W'.cell? (ad.add j) = some u := by
 obtain ⟨a', e, hc⟩ := (Rd.go (A := some ad) (fun j u hj => ⟨_, rfl, h j u hj⟩) b) j u hj
 injection e with e; subst e; exact hc
def UnOwn (w : World) (va v : Value) : Prop := v = va ∨ ∀ ad n cap, v = .slice (some ad) n cap → w.heap.size ≤ ad.block
set_option maxRecDepth 100000 in
set_option maxHeartbeats 4000000 in
theorem union_any (va vb : Value) (a b : List MtV) (w : World) (ha : SlM a va w) (hb : SlM b vb w) (hl : a.length + b.length ≤ 100000) :
 Calls Tryz.prog 53 #[va, vb] w fun e w' => ∃ v, e = .returned v ∧ SlM (unF a a b) v w' ∧ Below w.heap.size w w' ∧ UnOwn w va v := by
 obtain ⟨A, na, ca, rfl, -, hna, -⟩ := id ha
 obtain ⟨B, nb, cb, rfl, -, hnb, -⟩ := id hb
 obtain ⟨S, hSd⟩ : ∃ S, S = (fun W => SlM a (.slice A na ca) W ∧ SlM b (.slice B nb cb) W ∧ Below w.heap.size w W) := ⟨_, rfl⟩
 have stS : St S := by rw [hSd]; infer_instance
 have T0 : Hid (∀ W, S W → SlM a (.slice A na ca) W) := by show ∀ W, _; rw [hSd]; exact fun W h => h.1
 have T1 : Hid (∀ W, S W → SlM b (.slice B nb cb) W) := by show ∀ W, _; rw [hSd]; exact fun W h => h.2.1
 have T2 : Hid (∀ W, S W → Below w.heap.size w W) := by show ∀ W, _; rw [hSd]; exact fun W h => h.2.2
 have hS : S w := by rw [hSd]; exact ⟨ha, hb, Below.refl _ _⟩
 have Hl := Lib.hid hl
 have Hna := Lib.hid hna
 have Hnb := Lib.hid hnb
 have hnbI : (nb : Int) ≤ 1000000 := by omega
 have Ha := Lib.hid ha
 clear hSd ha hb hl hna hnb
 go_enter Tryz.func53, Tryz.ntmps53
 go_wp2_with fail
 go_loopw [5, 6] (fun c i wr => ∃ (acc : List MtV) (k : Nat), i = .int .i64 (k : Int) ∧ k ≤ nb ∧ Hid (acc.length ≤ a.length + k) ∧ Hid (unF a a b = unF a acc (b.drop k)) ∧ Hid (SlM acc c wr ∧ UnOwn w (.slice A na ca) c) ∧ S wr) (fun _ i _ => nb - (intOf i).toNat)
 case atStart => exact ⟨a, 0, by simp, Nat.zero_le _, by simp [Hid], by simp [Hid], ⟨Ha.out, .inl rfl⟩, hS⟩
 case round =>
  clear hS Ha
  obtain ⟨acc, k, rfl, hk1, Hal, Hk, Hacc, hS⟩ := hrel
  by_cases hkn : k < nb
  rotate_left
  · have hge : ¬ ((k : Int) < (nb : Int)) := by omega
    obtain rfl : k = nb := by omega
    have Hf : Hid (unF a a b = acc) := by rw [Hid, Hk.out, List.drop_eq_nil_of_le (by have := Hnb.out; omega)]; rfl
    clear hkn Hk
    go_wp2_with fail
    go_ret
    exact ⟨_, rfl, by rw [Hf.out]; exact Hacc.out.1, T2.out _ hS, Hacc.out.2⟩
  obtain ⟨y, hy⟩ : ∃ y, b[k]? = some y := ⟨_, List.getElem?_eq_getElem (by have := Hnb.out; omega)⟩
  obtain ⟨B', nb', cb', e0, hrb, -, -, -, hob⟩ := T1.out _ hS
  injection e0 with e1 e2 e3; subst e1 e2 e3
  obtain ⟨bd, hbd, hc⟩ := mt_at hrb hy
  subst hbd
  have hyo := hob y (List.mem_of_getElem? hy)
  have hka : (k : Int) < (nb : Int) := by omega
  have Hst := Lib.hid (unF_on (a := a) (acc := acc) hy)
  obtain ⟨A', na', ca', e0, hra, -, -, -, hoa⟩ := T0.out _ hS
  injection e0 with e1 e2 e3; subst e1 e2 e3
  have Hcall := Lib.hid (refFind25_any A ca na a y.dl wr Hna.out hra (by have := Hl.out; omega) hoa hyo.dl)
  have Hyo := Lib.hid hyo
  have Hc := Lib.hid hc
  clear hy hkn hrb hob hra hoa hyo hc
  go_wp2_with (refine wpList_load_at rfl 42 _ rfl (bd.add (k * 8)) rfl y.dl.cells.toList _ (mt_dlat Hc.out) Tryz.underlying42 rfl (by kernel_rfl) ?_)
  refine Hcall.out.mono ?_
  rintro e w1 ⟨rfl, b1⟩
  replace hS := stS.go hS b1
  have hacc := SlM.go Hacc.out.1 b1
  have Hun := Lib.hid Hacc.out.2
  have hc1 : Hid (∀ j u, y.cells[j]? = some u → w1.cell? ((bd.add (k * 8)).add j) = some u) := fun j u hj => cell_go Hc.out b1 hj
  obtain ⟨i, hi⟩ : ∃ i, i = idxF y.dl.d (a.map MtV.m) 0 := ⟨_, rfl⟩
  have Hst2 : Hid (unF a acc (b.drop k) = unF a (if i < 0 then putZ MtV.m acc y else acc) (b.drop (k + 1))) := by rw [hi]; exact Hst.out
  rw [← hi]
  clear Hst hi Hcall Hacc
  by_cases h0 : i < 0
  · have Hf : Hid (unF a a b = unF a (putZ MtV.m acc y) (b.drop (k + 1))) := by rw [Hid, Hk.out, Hst2.out, if_pos h0]
    clear Hun
    obtain ⟨C, n, cc, rfl, hrc, hn, hnc, hcn, hoc⟩ := hacc
    have Hput := Lib.hid (put_any C cc n acc y w1 hn hnc hcn hrc (by have := Hal.out; have := Hl.out; have := Hnb.out; omega) hoc (Hyo.out.go b1))
    have Hoc := Lib.hid hoc
    have Hyo1 := Lib.hid (Hyo.out.go b1)
    clear hrc hn hnc hcn hoc b1 Hyo Hc Hk Hst2
    go_wp2_with (refine wpList_load_at rfl 47 _ rfl (bd.add (k * 8)) rfl y.cells _ hc1.out Tryz.underlying47 rfl (by kernel_rfl) ?_)
    refine Hput.out.mono ?_
    rintro e w2 ⟨v, rfl, hown, b2⟩
    have hS2 := stS.go hS b2
    have HA : Hid (SlM (putZ MtV.m acc y) v w2 ∧ UnOwn w (.slice A na ca) v) := by
     have hbs := (T2.out _ hS).size
     obtain ⟨D, cd, rfl, hrd, hnc, -, hdn, hD⟩ := own_rdN hown
     refine ⟨⟨D, _, cd, rfl, hrd, rfl, hnc, fun e => List.eq_nil_of_length_eq_zero (by have := hdn e; omega), fun x hx => ?_⟩, .inr fun ad n cap e => by injection e with e1 e2 e3; have := hD ad e1; omega⟩
     rcases putZ_mem hx with h | h
     · exact (Hoc.out x h).go b2
     · rw [h]; exact Hyo1.out.go b2
    have Hal2 : Hid ((putZ MtV.m acc y).length ≤ a.length + (k + 1)) := by have := Hal.out; rw [Hid, putZ_len]; omega
    clear Hput hown b2 Hoc Hyo1 Hal
    go_wp2_with fail
    exact ⟨⟨putZ MtV.m acc y, k + 1, by simp, by omega, Hal2, Hf, HA, hS2⟩, by simp only [intOf]; omega⟩
  · have Hf : Hid (unF a a b = unF a acc (b.drop (k + 1))) := by rw [Hid, Hk.out, Hst2.out, if_neg h0]
    have HA := Lib.hid (And.intro hacc Hun.out)
    have Hal2 : Hid (acc.length ≤ a.length + (k + 1)) := by have := Hal.out; rw [Hid]; omega
    clear Hk Hst2 hacc Hun b1 Hc hc1 Hyo Hal
    go_wp2_with fail
    exact ⟨⟨acc, k + 1, by simp, by omega, Hal2, Hf, HA, hS⟩, by simp only [intOf]; omega⟩
end Go.Proofs.YtcgglolckkeeiaaGreat
namespace Go.Proofs.YtcgglolckkeeiaaGreat
set_option linter.unusedVariables false
open Go.RowKit Go.Deep
theorem idxF_no {d : Dl} : ∀ (l : List Mt) (k : Int), 0 ≤ k → (idxF d l k < 0 ↔ ∀ m ∈ l, cmpD m.d d ≠ 0)
 | [], k, _ => by simp [idxF]
 | m :: r, k, hk => by
  rw [idxF]
  by_cases h : cmpD m.d d = 0
  · rw [if_pos h]
    exact ⟨fun h2 => by omega, fun h2 => absurd h (h2 m (by simp))⟩
  · rw [if_neg h, idxF_no r (k + 1) (by omega)]
    exact ⟨fun h2 x hx => by
     rcases List.mem_cons.1 hx with e | e
     · rw [e]; exact h
     · exact h2 x e, fun h2 x hx => h2 x (by simp [hx])⟩
theorem riseM_sing (y : Mt) : riseM [y] := riseM_iff.2 (by simp [riseD])
theorem unF_all (a : List MtV) : ∀ (b acc : List MtV), riseM (acc.map MtV.m) → riseM (b.map MtV.m) → (∀ u ∈ a.map MtV.m, u ∈ acc.map MtV.m) → (∀ y ∈ b.map MtV.m, ∀ x ∈ acc.map MtV.m, x.d = y.d → ∃ u ∈ a.map MtV.m, u.d = y.d) →
 riseM ((unF a acc b).map MtV.m) ∧ ∀ x, x ∈ (unF a acc b).map MtV.m ↔ x ∈ acc.map MtV.m ∨ (x ∈ b.map MtV.m ∧ ∀ u ∈ a.map MtV.m, cmpD u.d x.d ≠ 0)
 | [], acc, h1, _, _, _ => ⟨h1, fun x => by simp [unF]⟩
 | y :: b, acc, h1, h2, h3, h4 => by
  rw [List.map_cons] at h2
  rw [unF]
  by_cases hc : idxF y.m.d (a.map MtV.m) 0 < 0
  · rw [if_pos hc]
    have hno := (idxF_no _ _ (Int.le_refl 0)).1 hc
    have hA : ∀ x ∈ acc.map MtV.m, cmpD x.d y.m.d ≠ 0 := fun x hx e => by
     obtain ⟨u, hu, e2⟩ := h4 y.m (by simp) x hx (cmpD_eq.1 e)
     exact hno u hu (cmpD_eq.2 e2)
    have e : (putZ MtV.m acc y).map MtV.m = mergeM (acc.map MtV.m) [y.m] := by rw [putZ_map, putZ_merge _ _ h1 hA]
    have hm : ∀ x, x ∈ (putZ MtV.m acc y).map MtV.m ↔ x ∈ acc.map MtV.m ∨ x = y.m := fun x => by
     rw [e, mergeM_mem h1 (riseM_sing _)]
     constructor
     · rintro (h | ⟨h, _⟩)
       · exact .inl h
       · exact .inr (by simpa using h)
     · rintro (h | rfl)
       · exact .inl h
       · exact .inr ⟨by simp, hA⟩
    obtain ⟨r1, r2⟩ := unF_all a b (putZ MtV.m acc y) (by rw [e]; exact mergeM_rise h1 (riseM_sing _)) (riseM_tail h2) (fun u hu => (hm u).2 (.inl (h3 u hu))) (fun y' hy' x hx hd => by
     rcases (hm x).1 hx with h | rfl
     · exact h4 y' (by simp only [List.map_cons, List.mem_cons]; exact .inr hy') x h hd
     · have h9 := riseM_head h2 hy'
       rw [hd, cmpD_self] at h9
       omega)
    refine ⟨r1, fun x => ?_⟩
    rw [r2 x, hm x, List.map_cons, List.mem_cons]
    constructor
    · rintro ((h | rfl) | ⟨h, h'⟩)
      · exact .inl h
      · exact .inr ⟨.inl rfl, hno⟩
      · exact .inr ⟨.inr h, h'⟩
    · rintro (h | ⟨rfl | h, h'⟩)
      · exact .inl (.inl h)
      · exact .inl (.inr rfl)
      · exact .inr ⟨h, h'⟩
  · rw [if_neg hc]
    obtain ⟨r1, r2⟩ := unF_all a b acc h1 (riseM_tail h2) h3 (fun y' hy' => h4 y' (by simp only [List.map_cons, List.mem_cons]; exact .inr hy'))
    refine ⟨r1, fun x => ?_⟩
    rw [r2 x, List.map_cons, List.mem_cons]
    constructor
    · rintro (h | ⟨h, h'⟩)
      · exact .inl h
      · exact .inr ⟨.inr h, h'⟩
    · rintro (h | ⟨rfl | h, h'⟩)
      · exact .inl h
      · exact absurd ((idxF_no _ _ (Int.le_refl 0)).2 h') hc
      · exact .inr ⟨h, h'⟩
theorem unF_merge (a b : List MtV) (ha : riseM (a.map MtV.m)) (hb : riseM (b.map MtV.m)) : (unF a a b).map MtV.m = mergeM (a.map MtV.m) (b.map MtV.m) := by
 obtain ⟨r1, r2⟩ := unF_all a b a ha hb (fun _ h => h) (fun y _ x hx e => ⟨x, hx, e⟩)
 refine riseM_ext r1 (mergeM_rise ha hb) fun x => ?_
 rw [r2 x, mergeM_mem ha hb]
end Go.Proofs.YtcgglolckkeeiaaGreat
namespace Go.Proofs.YtcgglolckkeeiaaGreat
set_option linter.unusedVariables false
open Go.RowKit Go.Deep
theorem cp_fuelR {W : World} {G : Nat} {t : TypeId} {c : CpV} (h : Row W G t c.cells) : W.cell? ⟨G, 4, none⟩ = some (.int .i64 c.fuel) := h.cellv (i := 4) rfl
theorem build_cp (p : PgV) (tA : Option Addr) (n tcap : Nat) (f : Int) (A : Option Addr) (m cap : Nat) (s : Sc) (W : World) : (Instr.build 31 #[(0, .agg p.cells), (1, .slice tA n tcap), (2, .int .i64 f), (3, .slice A m cap), (4, .agg s.cells)]).run Tryz.prog W = .ok (.agg #[.int .i64 p.params, .slice p.va p.V.length p.vcap, .slice p.ba p.body.length p.bcap, .slice tA n tcap, .int .i64 f, .slice A m cap, .int .i64 s.alive, .int .i64 s.killed, .int .i64 s.timeout]) W := by kernel_rfl
theorem unF_length (a : List MtV) : ∀ (b acc : List MtV), (unF a acc b).length ≤ acc.length + b.length
 | [], acc => by simp [unF]
 | y :: b, acc => by
  rw [unF]
  split
  · have := unF_length a b (putZ MtV.m acc y)
    rw [putZ_len] at this
    simp only [List.length_cons]; omega
  · have := unF_length a b acc
    simp only [List.length_cons]; omega
theorem unF_mem (a : List MtV) {x : MtV} : ∀ (b acc : List MtV), x ∈ unF a acc b → x ∈ acc ∨ x ∈ b
 | [], acc, h => .inl (by simpa [unF] using h)
 | y :: b, acc, h => by
  rw [unF] at h
  split at h
  · rcases unF_mem a b _ h with h | h
    · rcases putZ_mem h with h | h
      · exact .inl h
      · exact .inr (by rw [h]; simp)
    · exact .inr (List.mem_cons_of_mem _ h)
  · rcases unF_mem a b _ h with h | h
    · exact .inl h
    · exact .inr (List.mem_cons_of_mem _ h)
set_option maxRecDepth 100000 in
set_option maxHeartbeats 8000000 in
theorem refMerge_any (a b : CpV) (w : World) (ha : CpOk w a) (hb : CpOk w b) (hl : a.mts.length + b.mts.length ≤ 100000) (hca : a.mts.length ≤ a.mcap) (hcb : b.mts.length ≤ b.mcap) :
 Calls Tryz.prog 18 #[.agg a.cells, .agg b.cells] w fun e w' => MergeR a b w w' e := by
 have HA := Lib.hid ha
 have HB := Lib.hid hb
 have Hl := Lib.hid hl
 have Hca := Lib.hid hca
 have Hcb := Lib.hid hcb
 clear ha hb hl hca hcb
 go_enter Tryz.func18, Tryz.ntmps18
 go_wp2_with (refine at_box _ _ rfl ?_)
 refine Stop.to ?_
 refine wpList_box_gen rfl 31 _ rfl a.cells rfl ?_
 intro G Gw Gh Gr Gb
 go_wp2_with (refine at_box _ _ rfl ?_)
 refine Stop.to ?_
 refine wpList_box_gen rfl 31 _ rfl b.cells rfl ?_
 intro H Hw Hh Hr Hb
 have rG := Gr.below Hb (Nat.lt_of_lt_of_le Gr.lt Hh)
 have b1 := (Below.refl w.heap.size w).trans (Gb.mono Gh)
 have b2 := b1.trans ((Hb.mono Hh).mono b1.size)
 clear Gr Gb Gh Hb Hh b1
 go_wp2_with (first | fail | (refine at_alloc _ rfl ?_))
 refine Stop.to ?_
 refine wpList_alloc_gen rfl 31 rfl _ _ (zero_cp _) rfl ?_
 intro R Rw Rh Rr Rb
 have Rc := Rb.mono Rh
 replace rG := rG.below Rc rG.lt
 replace Hr := Hr.below Rc Hr.lt
 have hRw : w.heap.size ≤ R := Nat.le_trans b2.size Rh
 replace b2 := b2.trans (Rc.mono b2.size)
 obtain ⟨S, hSd⟩ : ∃ S, S = (fun W => (Row W G 31 a.cells ∧ Row W H 31 b.cells) ∧ (CpOk W a ∧ CpOk W b) ∧ Below w.heap.size w W ∧ Row W R 31 cp0.cells) := ⟨_, rfl⟩
 have stS : St S := by rw [hSd]; infer_instance
 have T0 : Hid (∀ W, S W → Row W G 31 a.cells ∧ Row W H 31 b.cells) := by show ∀ W, _; rw [hSd]; exact fun W h => h.1
 have T1 : Hid (∀ W, S W → CpOk W a) := by show ∀ W, _; rw [hSd]; exact fun W h => h.2.1.1
 have T2 : Hid (∀ W, S W → CpOk W b) := by show ∀ W, _; rw [hSd]; exact fun W h => h.2.1.2
 have T3 : Hid (∀ W, S W → Below w.heap.size w W) := by show ∀ W, _; rw [hSd]; exact fun W h => h.2.2.1
 have T4 : Hid (∀ W, S W → Row W R 31 cp0.cells) := by show ∀ W, _; rw [hSd]; exact fun W h => h.2.2.2
 have hS : S Rw := by rw [hSd]; exact ⟨⟨rG, Hr⟩, ⟨HA.out.go b2, HB.out.go b2⟩, b2, Rr⟩
 clear hSd rG Hr Rr Rb Rh Rc b2
 have Hs := Lib.hid (refCpCheck_any a _ (T1.out _ hS))
 go_wp2_with (refine wpList_load_row rfl 31 _ rfl G rfl 31 a.cells (0, 0) _ ((T0.out _ hS).1) Tryz.underlying31 rfl (by kernel_rfl) ?_)
 refine Hs.out.mono ?_
 rintro e w1 ⟨rfl, b1⟩
 replace hS := stS.go hS b1
 clear Hs b1
 obtain ⟨z, hz⟩ : ∃ z, z = cpCheckZ a := ⟨_, rfl⟩
 rw [← hz]
 by_cases h0 : z = 0
 rotate_left
 · have hz2 : (z != 0) = true := by simpa using h0
   have hE : mergeE a b = z := by
    have h9 : cpChecks a b = z := by unfold cpChecks; rw [if_pos (by rw [← hz]; exact h0), hz]
    exact (mergeE_chk (by rw [h9]; exact h0)).trans h9
   have HE := Lib.hid hE
   have H0 := Lib.hid h0
   clear hz hE h0
   have rR9 := T4.out _ hS
   have bw9 := T3.out _ hS
   go_wp2_with (refine at_store _ _ _ rfl ?_)
   refine Stop.to ?_
   refine wpList_store_gen rfl 31 _ _ rfl R cp0.cells rfl rfl 31 _ rR9 (by kernel_rfl) rfl (by simp [cp0, CpV.cells, Value.oneCell']) ?_
   intro W9 r9 o9
   have HF : Hid (MergeR a b w W9 (.returned (.tuple #[.agg cp0.cells, .int .i64 z]))) := MergeR.err HE.out H0.out (below_only bw9 o9 hRw)
   clear rR9 bw9 o9
   go_wp2_with fail
   try rw [Exit.noGoto_ret]
   refine bodyPost_ret (results_cell_tmp Tryz.results18 _ _ R 31 _ (0, 0) _ rfl r9 Tryz.underlying31 rfl (by kernel_rfl)) rfl ?_
   exact HF.out
 subst h0
 have Hz0 := Lib.hid hz.symm
 clear hz
 have Hs := Lib.hid (refCpCheck_any b _ (T2.out _ hS))
 go_wp2_with (refine wpList_load_row rfl 31 _ rfl H rfl 31 b.cells (0, 0) _ ((T0.out _ hS).2) Tryz.underlying31 rfl (by kernel_rfl) ?_)
 refine Hs.out.mono ?_
 rintro e w1 ⟨rfl, b1⟩
 replace hS := stS.go hS b1
 clear Hs b1
 obtain ⟨z, hz⟩ : ∃ z, z = cpCheckZ b := ⟨_, rfl⟩
 rw [← hz]
 by_cases h0 : z = 0
 rotate_left
 · have hz2 : (z != 0) = true := by simpa using h0
   have hE : mergeE a b = z := by
    have h9 : cpChecks a b = z := by unfold cpChecks; rw [if_neg (by simp [Hz0.out]), hz]
    exact (mergeE_chk (by rw [h9]; exact h0)).trans h9
   have HE := Lib.hid hE
   have H0 := Lib.hid h0
   clear hz hE h0
   have rR9 := T4.out _ hS
   have bw9 := T3.out _ hS
   go_wp2_with (refine at_store _ _ _ rfl ?_)
   refine Stop.to ?_
   refine wpList_store_gen rfl 31 _ _ rfl R cp0.cells rfl rfl 31 _ rR9 (by kernel_rfl) rfl (by simp [cp0, CpV.cells, Value.oneCell']) ?_
   intro W9 r9 o9
   have HF : Hid (MergeR a b w W9 (.returned (.tuple #[.agg cp0.cells, .int .i64 z]))) := MergeR.err HE.out H0.out (below_only bw9 o9 hRw)
   clear rR9 bw9 o9
   go_wp2_with fail
   try rw [Exit.noGoto_ret]
   refine bodyPost_ret (results_cell_tmp Tryz.results18 _ _ R 31 _ (0, 0) _ rfl r9 Tryz.underlying31 rfl (by kernel_rfl)) rfl ?_
   exact HF.out
 subst h0
 have Hok : Hid (OkC a ∧ OkC b) := ⟨okC.1 Hz0.out, okC.1 hz.symm⟩
 clear hz Hz0
 have Hs := Lib.hid (refPgSame_any a.p b.p _ (T1.out _ hS).pok (T2.out _ hS).pok (T1.out _ hS).bl (T1.out _ hS).vl)
 go_wp2_with (first | (refine wpList_load_at rfl 25 _ rfl ⟨G, 0, none⟩ rfl a.p.cells.toList _ (cp_head (T0.out _ hS).1) Tryz.underlying25 rfl (by kernel_rfl) ?_) | (refine wpList_load_at rfl 25 _ rfl ⟨H, 0, none⟩ rfl b.p.cells.toList _ (cp_head (T0.out _ hS).2) Tryz.underlying25 rfl (by kernel_rfl) ?_))
 refine Hs.out.mono ?_
 rintro e w3 ⟨rfl, b1⟩
 replace hS := stS.go hS b1
 clear Hs b1
 obtain ⟨sp, hsp⟩ : ∃ sp, sp = sameP a.p b.p := ⟨_, rfl⟩
 rw [← hsp]
 have Hsp := Lib.hid hsp
 clear hsp
 have c1 := cp_test (T0.out _ hS).1
 have c2 := cp_test (T0.out _ hS).2
 have Hs := Lib.hid (refEqTests_any a.tA b.tA a.tcap b.tcap _ _ a.tests b.tests w3 rfl rfl (T1.out _ hS).trd (T2.out _ hS).trd (T1.out _ hS).tok (T2.out _ hS).tok (by have := (T1.out _ hS).tlen; omega) (fun x hx => by have := (T1.out _ hS).tl x hx; omega))
 go_wp2_with fail
 refine Hs.out.mono ?_
 rintro e w4 ⟨rfl, b1⟩
 replace hS := stS.go hS b1
 clear Hs b1 c1 c2
 obtain ⟨st, hst⟩ : ∃ st, st = decide (a.tests.map IntsV.l = b.tests.map IntsV.l) := ⟨_, rfl⟩
 rw [← hst]
 have Hst := Lib.hid hst
 clear hst
 cases sp
 · have HE : Hid (mergeE a b = 26) := mergeE_no Hok.out.1 Hok.out.2 (fun h => by have h9 := Hsp.out.trans h.1; cases h9)
   clear Hsp Hst Hok
   have rR9 := T4.out _ hS
   have bw9 := T3.out _ hS
   go_wp2_with (refine at_store _ _ _ rfl ?_)
   refine Stop.to ?_
   refine wpList_store_gen rfl 31 _ _ rfl R cp0.cells rfl rfl 31 _ rR9 (by kernel_rfl) rfl (by simp [cp0, CpV.cells, Value.oneCell']) ?_
   intro W9 r9 o9
   have HF : Hid (MergeR a b w W9 (.returned (.tuple #[.agg cp0.cells, .int .i64 26]))) := MergeR.err HE.out (by decide) (below_only bw9 o9 hRw)
   clear rR9 bw9 o9
   go_wp2_with fail
   try rw [Exit.noGoto_ret]
   refine bodyPost_ret (results_cell_tmp Tryz.results18 _ _ R 31 _ (0, 0) _ rfl r9 Tryz.underlying31 rfl (by kernel_rfl)) rfl ?_
   exact HF.out
 cases st
 · have HE : Hid (mergeE a b = 26) := mergeE_no Hok.out.1 Hok.out.2 (fun h => of_decide_eq_false Hst.out.symm h.2.1)
   clear Hsp Hst Hok
   have rR9 := T4.out _ hS
   have bw9 := T3.out _ hS
   go_wp2_with (refine at_store _ _ _ rfl ?_)
   refine Stop.to ?_
   refine wpList_store_gen rfl 31 _ _ rfl R cp0.cells rfl rfl 31 _ rR9 (by kernel_rfl) rfl (by simp [cp0, CpV.cells, Value.oneCell']) ?_
   intro W9 r9 o9
   have HF : Hid (MergeR a b w W9 (.returned (.tuple #[.agg cp0.cells, .int .i64 26]))) := MergeR.err HE.out (by decide) (below_only bw9 o9 hRw)
   clear rR9 bw9 o9
   go_wp2_with fail
   try rw [Exit.noGoto_ret]
   refine bodyPost_ret (results_cell_tmp Tryz.results18 _ _ R 31 _ (0, 0) _ rfl r9 Tryz.underlying31 rfl (by kernel_rfl)) rfl ?_
   exact HF.out
 have c1 := cp_fuelR (T0.out _ hS).1
 have c2 := cp_fuelR (T0.out _ hS).2
 by_cases hf : a.fuel = b.fuel
 rotate_left
 · have hfb : (a.fuel != b.fuel) = true := by simpa using hf
   have HE : Hid (mergeE a b = 26) := mergeE_no Hok.out.1 Hok.out.2 (fun h => hf h.2.2)
   clear Hsp Hst hf Hok
   have rR9 := T4.out _ hS
   have bw9 := T3.out _ hS
   go_wp2_with (refine at_store _ _ _ rfl ?_)
   refine Stop.to ?_
   refine wpList_store_gen rfl 31 _ _ rfl R cp0.cells rfl rfl 31 _ rR9 (by kernel_rfl) rfl (by simp [cp0, CpV.cells, Value.oneCell']) ?_
   intro W9 r9 o9
   have HF : Hid (MergeR a b w W9 (.returned (.tuple #[.agg cp0.cells, .int .i64 26]))) := MergeR.err HE.out (by decide) (below_only bw9 o9 hRw)
   clear rR9 bw9 o9
   go_wp2_with fail
   try rw [Exit.noGoto_ret]
   refine bodyPost_ret (results_cell_tmp Tryz.results18 _ _ R 31 _ (0, 0) _ rfl r9 Tryz.underlying31 rfl (by kernel_rfl)) rfl ?_
   exact HF.out
 have hfb : (a.fuel != b.fuel) = false := by simpa using hf
 have Hsm : Hid (sameS a b) := ⟨Hsp.out.symm, of_decide_eq_true Hst.out.symm, hf⟩
 have haI : (a.mts.length : Int) ≤ 100000 := by have := Hl.out; omega
 clear Hsp Hst hf
 go_wp2_with fail
 clear c1 c2
 go_loopw [10] (fun i wr => ∃ k : Nat, i = .int .i64 (k : Int) ∧ k ≤ a.mts.length ∧ Hid (∀ x ∈ a.muts.take k, ∀ y ∈ b.muts, cmpD x.d y.d = 0 → sameM x y = true) ∧ S wr) (fun i _ => a.mts.length - (intOf i).toNat)
 case atStart => exact ⟨0, rfl, Nat.zero_le _, Lib.hid (fun x hx => by simp at hx), hS⟩
 case round =>
  clear hS
  obtain ⟨k, rfl, hk1, Hk, hS⟩ := hrel
  by_cases hkn : k < a.mts.length
  · have hka : (k : Int) < (a.mts.length : Int) := by omega
    obtain ⟨x, hx⟩ : ∃ x, a.mts[k]? = some x := ⟨_, List.getElem?_eq_getElem hkn⟩
    have Hx := Lib.hid hx
    obtain ⟨ad, had, _⟩ := mt_at ((T1.out _ hS).mrd) hx
    have Hc : Hid (∀ W, S W → ∀ i u, x.cells[i]? = some u → W.cell? ((ad.add (k * 8)).add i) = some u) := fun W h => by
     obtain ⟨ad', e1, e2⟩ := mt_at (T1.out W h).mrd Hx.out
     rw [had] at e1; injection e1 with e1; subst e1; exact e2
    have c5 : ∀ W, S W → W.cell? ⟨G, 5, none⟩ = some (.slice (some ad) a.mts.length a.mcap) := fun W h => by rw [← had]; exact cp_mut (T0.out W h).1
    have C5 := Lib.hid c5
    have C6 : Hid (∀ W, S W → W.cell? ⟨H, 5, none⟩ = some (.slice b.mA b.mts.length b.mcap)) := fun W h => cp_mut (T0.out W h).2
    have hxm : a.muts[k]? = some x.m := by unfold CpV.muts; rw [List.getElem?_map, hx]; rfl
    have Hxm := Lib.hid hxm
    have cc := C5.out _ hS
    clear hx c5 had hkn hk1 hxm
    go_wp2_with fail
    clear cc
    refine region_hold S (by kernel_rfl) (by kernel_rfl) (St.drew hS) ?_
    clear hS
    (refine hold_value rfl ?_ (fun W hW => ?_) ?_; rotate_left; (focus (go_simp; exact rfl)); simp only [Act.put, List.setIfInBounds_toArray, List.set_cons_zero, List.set_cons_succ])
    (refine hold_value rfl ?_ (fun W hW => ?_) ?_; rotate_left; (focus (have c := C6.out W hW; go_simp; exact rfl)); simp only [Act.put, List.setIfInBounds_toArray, List.set_cons_zero, List.set_cons_succ])
    (refine hold_value rfl ?_ (fun W hW => ?_) ?_; rotate_left; (focus (go_simp; exact rfl)); simp only [Act.put, List.setIfInBounds_toArray, List.set_cons_zero, List.set_cons_succ])
    (refine hold_value rfl ?_ (fun W hW => ?_) ?_; rotate_left; (focus (have c := C5.out W hW; go_simp; exact rfl)); simp only [Act.put, List.setIfInBounds_toArray, List.set_cons_zero, List.set_cons_succ])
    iterate 3 (refine hold_value rfl ?_ (fun W hW => ?_) ?_; rotate_left; (focus (go_simp; exact rfl)); simp only [Act.put, List.setIfInBounds_toArray, List.set_cons_zero, List.set_cons_succ])
    (refine hold_load_at rfl 42 _ rfl (_) rfl x.dl.cells.toList _ (fun W hW => mt_dlat (Hc.out W hW)) Tryz.underlying42 rfl (by kernel_rfl) ?_; simp only [Act.put, List.setIfInBounds_toArray, List.set_cons_zero, List.set_cons_succ])
    (refine hold_call_new rfl 51 _ (fun W => by (go_simp; try rfl)) (.int .i64 (idxF x.dl.d (b.mts.map MtV.m) 0)) (fun W hW => refFind25_any b.mA b.mcap b.mts.length b.mts x.dl W rfl (T2.out W hW).mrd (by have := (T2.out W hW).mlen; omega) (T2.out W hW).mok ((T1.out W hW).mok x (List.mem_of_getElem? Hx.out)).dl) ?_; simp only [Act.put, List.setIfInBounds_toArray, List.set_cons_zero, List.set_cons_succ])
    (refine hold_value rfl ?_ (fun W hW => ?_) ?_; rotate_left; (focus (go_simp; exact rfl)); simp only [Act.put, List.setIfInBounds_toArray, List.set_cons_zero, List.set_cons_succ])
    refine wpHold_nil fun W hS => ?_
    rcases idxF_told x.dl.d (b.mts.map MtV.m) 0 with ⟨h1, h2⟩ | ⟨j, m, h1, h2, h3, h4⟩
    · have hno := (idxF_no (d := x.dl.d) (b.mts.map MtV.m) 0 (Int.le_refl 0)).1 (by rw [h1]; decide)
      have Hf : Hid (∀ x ∈ a.muts.take (k + 1), ∀ y ∈ b.muts, cmpD x.d y.d = 0 → sameM x y = true) := fun u hu y hy h0 => by
       rw [List.take_add_one, Hxm.out, List.mem_append] at hu
       rcases hu with hu | hu
       · exact Hk.out u hu y hy h0
       · simp only [Option.toList_some, List.mem_singleton] at hu
         subst hu
         exact absurd (show cmpD y.d x.dl.d = 0 from cmpD_eq.2 (cmpD_eq.1 h0).symm) (hno y hy)
      rw [h1]
      clear Hk h1 h2 hno
      go_wp2_with fail
      refine region_hold S (by kernel_rfl) (by kernel_rfl) (St.drew hS) ?_
      clear hS
      iterate 3 (refine hold_value rfl ?_ (fun W hW => ?_) ?_; rotate_left; (focus (go_simp; exact rfl)); simp only [Act.put, List.setIfInBounds_toArray, List.set_cons_zero, List.set_cons_succ])
      iterate 12 (refine hold_skip rfl ?_; simp only [Act.put, List.setIfInBounds_toArray, List.set_cons_zero, List.set_cons_succ])
      (refine hold_value rfl ?_ (fun W hW => ?_) ?_; rotate_left; (focus (go_simp; exact rfl)); simp only [Act.put, List.setIfInBounds_toArray, List.set_cons_zero, List.set_cons_succ])
      refine wpHold_nil fun W2 hS => ?_
      go_wp2_with fail
      refine ⟨⟨k + 1, by simp, by omega, Hf, hS⟩, ?_⟩
      simp only [intOf]; omega
    · rw [h1, Int.zero_add]
      rw [List.getElem?_map] at h2
      obtain ⟨y, hy, rfl⟩ := Option.map_eq_some_iff.1 h2
      have Hy := Lib.hid hy
      obtain ⟨bd, hbd, _⟩ := mt_at ((T2.out _ hS).mrd) hy
      have Hd : Hid (∀ W, S W → ∀ i u, y.cells[i]? = some u → W.cell? ((bd.add (j * 8)).add i) = some u) := fun W h => by
       obtain ⟨ad', e1, e2⟩ := mt_at (T2.out W h).mrd Hy.out
       rw [hbd] at e1; injection e1 with e1; subst e1; exact e2
      have c6 : ∀ W, S W → W.cell? ⟨H, 5, none⟩ = some (.slice (some bd) b.mts.length b.mcap) := fun W h => by rw [← hbd]; exact C6.out W h
      clear C6
      have C6 := Lib.hid c6
      have hjb : (j : Int) < (b.mts.length : Int) := by have := (List.getElem?_eq_some_iff.1 hy).1; omega
      have hj0 : (0 : Int) ≤ (j : Int) := by omega
      have H3 := Lib.hid h3
      have hym : y.m ∈ b.muts := List.mem_map_of_mem (List.mem_of_getElem? hy)
      have Hym := Lib.hid hym
      clear h1 h2 h3 h4 hy hbd c6 hym
      go_wp2_with fail
      refine region_hold S (by kernel_rfl) (by kernel_rfl) (St.drew hS) ?_
      clear hS
      iterate 4 (refine hold_value rfl ?_ (fun W hW => ?_) ?_; rotate_left; (focus (go_simp; exact rfl)); simp only [Act.put, List.setIfInBounds_toArray, List.set_cons_zero, List.set_cons_succ])
      (refine hold_value rfl ?_ (fun W hW => ?_) ?_; rotate_left; (focus (have c := C5.out W hW; go_simp; exact rfl)); simp only [Act.put, List.setIfInBounds_toArray, List.set_cons_zero, List.set_cons_succ])
      iterate 2 (refine hold_value rfl ?_ (fun W hW => ?_) ?_; rotate_left; (focus (go_simp; exact rfl)); simp only [Act.put, List.setIfInBounds_toArray, List.set_cons_zero, List.set_cons_succ])
      (refine hold_load_at rfl 47 _ rfl (_) rfl x.cells _ (fun W hW => Hc.out W hW) Tryz.underlying47 rfl (by kernel_rfl) ?_; simp only [Act.put, List.setIfInBounds_toArray, List.set_cons_zero, List.set_cons_succ])
      (refine hold_value rfl ?_ (fun W hW => ?_) ?_; rotate_left; (focus (go_simp; exact rfl)); simp only [Act.put, List.setIfInBounds_toArray, List.set_cons_zero, List.set_cons_succ])
      (refine hold_value rfl ?_ (fun W hW => ?_) ?_; rotate_left; (focus (have c := C6.out W hW; go_simp; exact rfl)); simp only [Act.put, List.setIfInBounds_toArray, List.set_cons_zero, List.set_cons_succ])
      iterate 2 (refine hold_value rfl ?_ (fun W hW => ?_) ?_; rotate_left; (focus (go_simp; exact rfl)); simp only [Act.put, List.setIfInBounds_toArray, List.set_cons_zero, List.set_cons_succ])
      (refine hold_load_at rfl 47 _ rfl (_) rfl y.cells _ (fun W hW => Hd.out W hW) Tryz.underlying47 rfl (by kernel_rfl) ?_; simp only [Act.put, List.setIfInBounds_toArray, List.set_cons_zero, List.set_cons_succ])
      (refine hold_call_new rfl 52 _ (fun W => by (go_simp; try rfl)) (.bool (sameM x.m y.m)) (fun W hW => refMtSame_any x y W ((T1.out W hW).mok x (List.mem_of_getElem? Hx.out)) ((T2.out W hW).mok y (List.mem_of_getElem? Hy.out))) ?_; simp only [Act.put, List.setIfInBounds_toArray, List.set_cons_zero, List.set_cons_succ])
      (refine hold_value rfl ?_ (fun W hW => ?_) ?_; rotate_left; (focus (go_simp; exact rfl)); simp only [Act.put, List.setIfInBounds_toArray, List.set_cons_zero, List.set_cons_succ])
      (refine hold_value rfl ?_ (fun W hW => ?_) ?_; rotate_left; (focus (go_simp; exact rfl)); simp only [Act.put, List.setIfInBounds_toArray, List.set_cons_zero, List.set_cons_succ])
      refine wpHold_nil fun W2 hS => ?_
      obtain ⟨q, hq⟩ : ∃ q, q = sameM x.m y.m := ⟨_, rfl⟩
      rw [← hq]
      have Hq := Lib.hid hq
      clear hq
      cases q
      · have HE : Hid (mergeE a b = 21) := by
         refine mergeE_21 Hok.out.1 Hok.out.2 Hsm.out (fun hg => ?_)
         have h1 := hg x.m (List.mem_of_getElem? Hxm.out) y.m Hym.out (cmpD_eq.2 (show x.m.d = y.m.d from (cmpD_eq.1 H3.out).symm))
         have h2 := sameM_iff.2 h1
         rw [← Hq.out] at h2; cases h2
        clear Hk Hq H3 Hym Hd C6 C5 Hc Hx Hxm Hy
        have rR9 := T4.out _ hS
        have bw9 := T3.out _ hS
        go_wp2_with (refine at_store _ _ _ rfl ?_)
        refine Stop.to ?_
        refine wpList_store_gen rfl 31 _ _ rfl R cp0.cells rfl rfl 31 _ rR9 (by kernel_rfl) rfl (by simp [cp0, CpV.cells, Value.oneCell']) ?_
        intro W9 r9 o9
        have HF : Hid (MergeR a b w W9 (.returned (.tuple #[.agg cp0.cells, .int .i64 21]))) := MergeR.err HE.out (by decide) (below_only bw9 o9 hRw)
        clear rR9 bw9 o9
        go_wp2_with fail
        try rw [Exit.noGoto_ret]
        refine bodyPost_ret (results_cell_tmp Tryz.results18 _ _ R 31 _ (0, 0) _ rfl r9 Tryz.underlying31 rfl (by kernel_rfl)) rfl ?_
        exact HF.out
      · have Hf : Hid (∀ x ∈ a.muts.take (k + 1), ∀ y ∈ b.muts, cmpD x.d y.d = 0 → sameM x y = true) := fun u hu v hv h0 => by
         rw [List.take_add_one, Hxm.out, List.mem_append] at hu
         rcases hu with hu | hu
         · exact Hk.out u hu v hv h0
         · simp only [Option.toList_some, List.mem_singleton] at hu
           subst hu
           have hvy : v = y.m := riseM_uniq Hok.out.2.rise hv Hym.out (cmpD_eq.2 ((cmpD_eq.1 h0).symm.trans (show x.m.d = y.m.d from (cmpD_eq.1 H3.out).symm)))
           rw [hvy]; exact Hq.out.symm
        clear Hk Hq H3 Hym Hd C6 C5 Hc Hx Hxm Hy
        go_wp2_with fail
        refine ⟨⟨k + 1, by simp, by omega, Hf, hS⟩, ?_⟩
        simp only [intOf]; omega
  obtain rfl : k = a.mts.length := by omega
  have hge : ¬ ((a.mts.length : Int) < (a.mts.length : Int)) := by omega
  have HJ : Hid (Joins a b) := by
   refine ⟨Hok.out.1, Hok.out.2, Hsm.out, fun x hx y hy h0 => sameM_iff.1 (Hk.out x ?_ y hy h0)⟩
   rw [List.take_of_length_le (by unfold CpV.muts; rw [List.length_map]; exact Nat.le_refl _)]; exact hx
  have c1 := cp_mut (T0.out _ hS).1
  have c2 := cp_mut (T0.out _ hS).2
  have Hs := Lib.hid (union_any (.slice a.mA a.mts.length a.mcap) (.slice b.mA b.mts.length b.mcap) a.mts b.mts wr ⟨_, _, _, rfl, (T1.out _ hS).mrd, rfl, Hca.out, (T1.out _ hS).mnil, (T1.out _ hS).mok⟩ ⟨_, _, _, rfl, (T2.out _ hS).mrd, rfl, Hcb.out, (T2.out _ hS).mnil, (T2.out _ hS).mok⟩ Hl.out)
  have hRl := (T4.out _ hS).lt
  clear hk1 hkn Hk Hok Hsm
  go_wp2_with fail
  clear c1 c2
  refine Hs.out.mono ?_
  rintro e w5 ⟨v, rfl, hsl, b1, hun⟩
  replace hS := stS.go hS b1
  clear Hs b1
  obtain ⟨l, hl⟩ : ∃ l, l = unF a.mts a.mts b.mts := ⟨_, rfl⟩
  rw [← hl] at hsl
  have Hsub : Hid (∀ x ∈ l, x ∈ a.mts ∨ x ∈ b.mts) := by show ∀ x, _; rw [hl]; exact fun x hx => unF_mem a.mts b.mts a.mts hx
  have Hlen : Hid (l.length ≤ 100000) := by show _ ≤ _; rw [hl]; exact Nat.le_trans (unF_length _ _ _) Hl.out
  have Hmm : Hid (l.map MtV.m = mergeM a.muts b.muts) := by show _ = _; rw [hl]; exact unF_merge a.mts b.mts HJ.out.ha.rise HJ.out.hb.rise
  obtain ⟨A, n, cap, rfl, hrd, rfl, hcap, hnil, hmok⟩ := hsl
  obtain ⟨S2, hSd⟩ : ∃ S2, S2 = (fun W => S W ∧ Rd W A (mtsC l) ∧ ∀ x ∈ l, MtOk W x) := ⟨_, rfl⟩
  have stS2 : St S2 := by rw [hSd]; exact ⟨fun h b => ⟨stS.go h.1 b, h.2.1.go b, fun x hx => (h.2.2 x hx).go b⟩⟩
  have U0 : Hid (∀ W, S2 W → S W) := by show ∀ W, _; rw [hSd]; exact fun W h => h.1
  have U1 : Hid (∀ W, S2 W → Rd W A (mtsC l)) := by show ∀ W, _; rw [hSd]; exact fun W h => h.2.1
  have U2 : Hid (∀ W, S2 W → ∀ x ∈ l, MtOk W x) := by show ∀ W, _; rw [hSd]; exact fun W h => h.2.2
  have hS2 : S2 w5 := by rw [hSd]; exact ⟨hS, hrd, hmok⟩
  have Hnil := Lib.hid hnil
  have Hne : Hid (mtsC l ≠ [] → ∀ ad, A = some ad → ad.block ≠ R) := fun hne ad e => by
   rcases hun with h | h
   · injection h with h1 h2 h3
     have h4 : mtsC a.mts ≠ [] := fun h9 => hne (by
      have h5 := mtsC_len a.mts
      have h6 := mtsC_len l
      rw [h9] at h5
      simp only [List.length_nil] at h5
      exact List.eq_nil_of_length_eq_zero (by omega))
     have h7 := rd_lt HA.out.mrd h4 (h1.symm.trans e)
     omega
   · have := h ad l.length cap (by rw [e]); omega
  clear hSd hS hrd hmok hl hcap hnil hun hRl
  obtain ⟨c, hc⟩ : ∃ c : CpV, c = ⟨a.p, a.tA, a.tcap, a.tests, a.fuel, A, cap, l, scoreZ (l.map MtV.m)⟩ := ⟨_, rfl⟩
  have Hc := Lib.hid hc
  clear hc
  go_wp2_with fail
  refine region_hold_tail S2 10 (by kernel_rfl) (by kernel_rfl) (St.drew hS2) ?_
  clear hS2
  simp only [List.take_succ_cons, List.take_zero, List.drop_succ_cons, List.drop_zero]
  (refine hold_value rfl ?_ (fun W hW => ?_) ?_; rotate_left; (focus (go_simp; exact rfl)); simp only [Act.put, List.setIfInBounds_toArray, List.set_cons_zero, List.set_cons_succ])
  (refine hold_load_at rfl 25 _ rfl (_) rfl a.p.cells.toList _ (fun W hW => cp_head (T0.out W (U0.out W hW)).1) Tryz.underlying25 rfl (by kernel_rfl) ?_; simp only [Act.put, List.setIfInBounds_toArray, List.set_cons_zero, List.set_cons_succ])
  (refine hold_value rfl ?_ (fun W hW => ?_) ?_; rotate_left; (focus (go_simp; exact rfl)); simp only [Act.put, List.setIfInBounds_toArray, List.set_cons_zero, List.set_cons_succ])
  (refine hold_value rfl ?_ (fun W hW => ?_) ?_; rotate_left; (focus (have c := cp_test (T0.out W (U0.out W hW)).1; go_simp; exact rfl)); simp only [Act.put, List.setIfInBounds_toArray, List.set_cons_zero, List.set_cons_succ])
  (refine hold_value rfl ?_ (fun W hW => ?_) ?_; rotate_left; (focus (go_simp; exact rfl)); simp only [Act.put, List.setIfInBounds_toArray, List.set_cons_zero, List.set_cons_succ])
  (refine hold_value rfl ?_ (fun W hW => ?_) ?_; rotate_left; (focus (have c := cp_fuelR (T0.out W (U0.out W hW)).1; go_simp; exact rfl)); simp only [Act.put, List.setIfInBounds_toArray, List.set_cons_zero, List.set_cons_succ])
  (refine hold_value rfl ?_ (fun W hW => ?_) ?_; rotate_left; (focus (go_simp; exact rfl)); simp only [Act.put, List.setIfInBounds_toArray, List.set_cons_zero, List.set_cons_succ])
  (refine hold_value rfl ?_ (fun W hW => ?_) ?_; rotate_left; (focus (go_simp; exact rfl)); simp only [Act.put, List.setIfInBounds_toArray, List.set_cons_zero, List.set_cons_succ])
  (refine hold_call_new rfl 54 _ (fun W => by (go_simp; try rfl)) (.agg (scoreZ (l.map MtV.m)).cells) (fun W hW => refScore_any A cap l W (U1.out W hW) (by have := Hlen.out; omega)) ?_; simp only [Act.put, List.setIfInBounds_toArray, List.set_cons_zero, List.set_cons_succ])
  refine hold_value rfl (.agg c.cells) (fun W _ => run_exec_build 31 [_, _, _, _, _] rfl _ (by rw [Hc.out]; exact build_cp _ _ _ _ _ _ _ _ _ W)) ?_
  simp only [Act.put, List.setIfInBounds_toArray, List.set_cons_zero, List.set_cons_succ]
  refine wpHold_nil fun W hS2 => ?_
  have hS := U0.out _ hS2
  have rR9 := T4.out _ hS
  have hcd : c.data = mergeD a.data b.data := by
   rw [Hc.out]
   show (⟨a.p.params, a.p.V, a.p.body, a.testsL, a.fuel, l.map MtV.m, scoreZ (l.map MtV.m)⟩ : Cd) = _
   rw [Hmm.out]; rfl
  have Hcd := Lib.hid hcd
  have bw9 := T3.out _ hS
  have hrd := U1.out _ hS2
  clear hcd
  go_wp2_with (refine at_store _ _ _ rfl ?_)
  refine Stop.to ?_
  refine wpList_store_gen rfl 31 _ _ rfl R c.cells rfl rfl 31 _ rR9 (by kernel_rfl) rfl (by simp [CpV.cells, Value.oneCell']) ?_
  intro W9 r9 o9
  have b9 := below_only bw9 o9 hRw
  have HF : Hid (MergeR a b w W9 (.returned (.tuple #[.agg c.cells, .int .i64 0]))) := by
   refine MergeR.ok (mergeE_0.2 HJ.out) ?_ Hcd.out b9
   have h := HA.out.go b9
   rw [Hc.out]
   refine ⟨h.pok, h.bl, h.vl, h.trd, h.tok, h.tlen, h.tl, h.tnil, hrd.only o9 (fun hne ad e => Hne.out hne ad e), fun x hx => ?_, Hlen.out, Hnil.out⟩
   rcases Hsub.out x hx with h1 | h1
   · exact (HA.out.mok x h1).go b9
   · exact (HB.out.mok x h1).go b9
  clear b9 hrd bw9 o9 rR9
  go_wp2_with fail
  refine bodyPost_ret (results_cell_tmp Tryz.results18 _ _ R 31 _ (0, 0) _ rfl r9 Tryz.underlying31 rfl (by kernel_rfl)) rfl ?_
  exact HF.out
end Go.Proofs.YtcgglolckkeeiaaGreat
namespace Go.Proofs.YtcgglolckkeeiaaGreat
set_option linter.unusedVariables false
open Go.RowKit Go.Deep
instance : DecidableEq Dl := fun a b => decidable_of_iff (cmpD a b = 0) cmpD_eq
theorem chV_at {W : World} {A : Option Addr} {l : List ChV} (hr : Rd W A (chsC l)) {k : Nat} {x : ChV} (hx : l[k]? = some x) : ∃ ad, A = some ad ∧ ∀ j u, x.cells.toList[j]? = some u → W.cell? ((ad.add (k * 5)).add j) = some u :=
 el_at (c := fun c : ChV => c.cells.toList) (sz := 5) (fun _ => rfl) (by decide) hr hx
instance St.chok {l : List ChV} : St (fun W => ∀ x ∈ l, DlOk W x.x) := ⟨fun h b x hx => ⟨Rd.go (h x hx).rd b, (h x hx).len⟩⟩
end Go.Proofs.YtcgglolckkeeiaaGreat
