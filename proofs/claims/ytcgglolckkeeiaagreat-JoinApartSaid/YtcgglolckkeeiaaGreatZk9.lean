/- Lemmas for JnBll. -/
import Derived.Test.YtcgglolckkeeiaaGreatZk8
import Derived.Test.YtcgglolckkeeiaaGreatZk5
import Derived.Test.YtcgglolckkeeiaaGreatZk3
import Derived.Test.YtcgglolckkeeiaaGreatZk1
import Derived.Test.YtcgglolckkeeiaaGreatZk4
import Derived.Maps.AppendAt
import Derived.Deep.Cut
import Derived.Lib.AppendZerosOnto
import Derived.Test.YtcgglolckkeeiaaGreatRows
import Derived.Great.BuildSlice
namespace Go.Proofs.YtcgglolckkeeiaaGreat
set_option linter.unusedVariables false
open Go.RowKit Go.Deep
theorem RS.rb {w W : World} {M : Nat} {D : List Int} (h : RS w W M D) (hD : ∀ k, k ∈ D ↔ (1 ≤ k ∧ k ≤ 26 ∧ k ≠ 20)) : RB M W := by
 obtain ⟨es, h1, h2, h3⟩ := h.map
 subst h2
 exact ⟨es, h1, h3, hD⟩
set_option maxRecDepth 100000 in
set_option maxHeartbeats 4000000 in
theorem kOf_tree (p : PgV) (hbl : p.body.length ≤ 1000) (t : Tr) (q : Nat) (hat : At p.body q t) (w : World) (hok : p.ok w) : Calls Tryz.prog 115 #[.agg p.cells, .int .i64 (q : Int)] w fun e w' => e = .returned (.int .i64 (ofT p.V t)) ∧ Below w.heap.size w w' := by
 have Hbl := Lib.hid hbl
 have Hat := Lib.hid hat
 have Hok := Lib.hid hok
 have Hend : Hid (endZ p.body (q : Int) = ((q + t.size : Nat) : Int)) := hat.endZ
 have hpos0 : 0 ≤ ((q + t.size : Nat) : Int) := by omega
 clear hbl hat hok
 go_enter Tryz.func115, Tryz.ntmps115
 go_wp2_with (refine at_box _ _ rfl ?_)
 refine Stop.to ?_
 refine wpList_box_gen rfl 25 _ rfl p.cells rfl ?_
 intro G w1 hG r1 b1
 have b1 := (Below.refl w.heap.size w).trans (b1.mono hG)
 have c2 := r1.cellv (i := 2) (v := .slice p.ba p.body.length p.bcap) rfl
 have Hok1 := Lib.hid (Hok.out.go b1)
 clear hG Hok
 go_wp2_with fail
 refine (end_any p.ba p.bcap p.body (q : Int) w1 Hok1.out.brd Hbl.out).mono ?_
 rintro e w2 ⟨rfl, b2⟩
 rw [Hend.out]
 obtain ⟨S, hSd⟩ : ∃ S, S = (fun W => Row W G 25 p.cells ∧ p.ok W ∧ Below w.heap.size w W) := ⟨_, rfl⟩
 have stS : St S := by rw [hSd]; infer_instance
 have S0 : Hid (∀ W, S W → Row W G 25 p.cells) := by show ∀ W, _; rw [hSd]; exact fun W h => h.1
 have S1 : Hid (∀ W, S W → p.ok W) := by show ∀ W, _; rw [hSd]; exact fun W h => h.2.1
 have S2 : Hid (∀ W, S W → Below w.heap.size w W) := by show ∀ W, _; rw [hSd]; exact fun W h => h.2.2
 have hS2 : S w2 := by rw [hSd]; exact ⟨r1.below b2 r1.lt, Hok1.out.go b2, b1.trans (b2.mono b1.size)⟩
 clear hSd r1 b1 b2 c2 Hok1
 go_wp2_with fail
 refine wp_region_held (S := S) (by kernel_rfl) ?_
 simp only [List.size_toArray, List.length_cons, List.length_nil, Nat.reduceAdd, Array.replicate_succ, Array.replicate_zero, List.push_toArray, List.nil_append, List.cons_append]
 show wpAnyH _ _ _ _ _ _ _ _ w2.drew
 have hS : S w2.drew := St.drew hS2
 clear hS2
 generalize w2.drew = wd at hS ⊢
 (refine takeH (i := 0) (v := _) rfl (by kernel_rfl) (by kernel_rfl) (by kernel_rfl) (fun _ _ _ h => h) (yields_row rfl 25 _ rfl G rfl 25 p.cells _ S0.out Tryz.underlying25 rfl (by kernel_rfl)) (by assumption) ?_; simp only [Act.put, List.setIfInBounds_toArray, List.set_cons_zero, List.set_cons_succ])
 (refine takeH (i := 3) (v := .int .i64 (q : Int)) rfl (by kernel_rfl) (by kernel_rfl) (by kernel_rfl) (fun _ _ _ h => h) (yields_val rfl (fun W hW => by (go_simp))) (by assumption) ?_; simp only [Act.put, List.setIfInBounds_toArray, List.set_cons_zero, List.set_cons_succ])
 (refine wpAnyH_all (rs := [1]) (by kernel_rfl) (by simp) (fun i hi => ?_); obtain rfl : i = 1 := by simpa using hi)
 refine wpOp_plain rfl rfl (fun K2 hK2 => ?_)
 refine wp_call_gen (w1 := wd) 156 #[] (by go_simp; try rfl) ?_
 refine (rules_any wd).mono ?_
 rintro e wr ⟨M, D, rfl, hrs, hD⟩
 refine ⟨_, rfl, hK2 _ _ ?_⟩
 clear hK2 K2
 have hS := stS.go hS hrs.below
 have hrb := hrs.rb hD
 have Hrb := Lib.hid hrb
 clear hrb hrs hD
 simp only [Act.put, List.setIfInBounds_toArray, List.set_cons_zero, List.set_cons_succ]
 refine ⟨hS, ?_⟩
 (refine takeH (i := 2) (v := .agg (checkC p M)) rfl (by kernel_rfl) (by kernel_rfl) (by kernel_rfl) (fun _ _ _ h => h) (yields_val rfl (fun W hW => by (go_simp; try rfl))) (by assumption) ?_; simp only [Act.put, List.setIfInBounds_toArray, List.set_cons_zero, List.set_cons_succ])
 (refine wpAnyH_all (rs := [4]) (by kernel_rfl) (by simp) (fun i hi => ?_); obtain rfl : i = 4 := by simpa using hi)
 refine wpOp_plain rfl rfl (fun K2 hK2 => ?_)
 refine wp_call_gen (w1 := wr) 157 #[.agg (checkC p M), .int .i64 (q : Int)] (by go_simp; try rfl) ?_
 refine (of_tree p M Hbl.out t.size t q (Nat.le_refl _) Hat.out wr (S1.out _ hS) Hrb.out).mono ?_
 rintro e w6 ⟨rfl, b6⟩
 refine ⟨_, rfl, hK2 _ _ ?_⟩
 clear hK2 K2
 have hS := stS.go hS b6
 simp only [Act.put, List.setIfInBounds_toArray, List.set_cons_zero, List.set_cons_succ]
 refine ⟨hS, ?_⟩
 (refine takeH (i := 5) (v := .int .i64 (ofT p.V t)) rfl (by kernel_rfl) (by kernel_rfl) (by kernel_rfl) (fun _ _ _ h => h) (yields_val rfl (fun W hW => by (go_simp))) (by assumption) ?_; simp only [Act.put, List.setIfInBounds_toArray, List.set_cons_zero, List.set_cons_succ])
 refine wpAnyH_done (by kernel_rfl) ?_ _
 go_wp2
 go_ret
 exact ⟨rfl, S2.out _ hS⟩
end Go.Proofs.YtcgglolckkeeiaaGreat
namespace Go.Proofs.YtcgglolckkeeiaaGreat
set_option linter.unusedVariables false
open Go.RowKit Go.Deep
structure Good (p : PgV) (t : Tr) : Prop where
 hat : At p.body 0 t
 size : t.size = p.body.length
 vars : varsOk p.params p.V
 tag : t.root.tag = 20
 kind : ofT p.V t = 2
theorem At.uniq {l : List Nd} {q : Nat} {a b : Tr} (ha : At l q a) (hb : At l q b) : a = b := by
 have key : ∀ n, (∀ (a b : Tr) (r s : List Nd), a.size ≤ n → a.fits → b.fits → a.flat ++ r = b.flat ++ s → a = b) ∧ (∀ (ls ms : List Tr) (r s : List Nd), (flats ls).length ≤ n → ls.length = ms.length → (∀ t ∈ ls, t.fits) → (∀ t ∈ ms, t.fits) → flats ls ++ r = flats ms ++ s → ls = ms) := by
  intro n
  induction n with
  | zero =>
   refine ⟨fun a b r s h => by have := a.size_eq; omega, fun ls ms r s h hl _ _ _ => ?_⟩
   cases ls with
   | nil => exact (List.eq_nil_of_length_eq_zero (by simpa using hl.symm)).symm
   | cons t ts => rw [flats, List.length_append] at h; have := t.size_eq; have hsz : t.size = t.flat.length := rfl; omega
  | succ n ih =>
   have one : ∀ (a b : Tr) (r s : List Nd), a.size ≤ n + 1 → a.fits → b.fits → a.flat ++ r = b.flat ++ s → a = b := by
    rintro ⟨x, ks⟩ ⟨y, js⟩ r s h fa fb e
    have e' := e
    rw [Tr.flat_eq, Tr.flat_eq, List.cons_append, List.cons_append] at e'
    injection e' with e1 e2
    simp only [Tr.root, Tr.kids] at e1 e2
    subst e1
    have hl : ks.length = js.length := by
     have h1 := fa.arity
     have h2 := fb.arity
     simp only [Tr.root, Tr.kids] at h1 h2
     omega
    have h4 := (Tr.node x ks).size_eq
    simp only [Tr.kids] at h4
    rw [ih.2 ks js r s (by omega) hl fa.kid fb.kid e2]
   refine ⟨one, fun ls ms => ?_⟩
   induction ls generalizing ms with
   | nil => intro r s _ hl _ _ _; exact (List.eq_nil_of_length_eq_zero (by simpa using hl.symm)).symm
   | cons t ts iht =>
    intro r s h hl fa fb e
    cases ms with
    | nil => simp at hl
    | cons u us =>
     rw [flats, flats, List.append_assoc, List.append_assoc] at e
     rw [flats, List.length_append] at h
     have ht : t = u := one t u _ _ (by unfold Tr.size; omega) (fa t (by simp)) (fb u (by simp)) e
     subst ht
     rw [iht us r s (by omega) (by simpa using hl) (fun k hk => fa k (by simp [hk])) (fun k hk => fb k (by simp [hk])) (List.append_cancel_left e)]
 obtain ⟨r, hr⟩ := ha.here
 obtain ⟨s, hs⟩ := hb.here
 exact (key a.size).1 a b r s (Nat.le_refl _) ha.fits hb.fits (by rw [← hr, hs])
theorem not_good_tree {p : PgV} {t : Tr} (hat : At p.body 0 t) (h : ¬ (t.root.tag = 20 ∧ ofT p.V t = 2)) : ∀ t', ¬ Good p t' := fun t' g => by
 have := hat.uniq g.hat
 subst this
 exact h ⟨g.tag, g.kind⟩
theorem varsE_cases (a : Int) (V : List Int) : varsE a V = 0 ∧ varsOk a V ∨ varsE a V = 14 := by
 unfold varsE
 by_cases h : varsOk a V
 · rw [if_pos h]; exact .inl ⟨rfl, h⟩
 · rw [if_neg h]; exact .inr rfl
end Go.Proofs.YtcgglolckkeeiaaGreat
namespace Go.Proofs.YtcgglolckkeeiaaGreat
set_option linter.unusedVariables false
open Go.RowKit
structure Mt where
 d : Dl
 verdict : Int
 test : Int
 kind : Int
 value : Int
 digest : List UInt8
structure Sc where
 alive : Int
 killed : Int
 timeout : Int
def countV (l : List Mt) (v : Int) : Int := ((l.filter fun m => m.verdict == v).length : Int)
def scoreZ (l : List Mt) : Sc := ⟨countV l 0, countV l 1, countV l 2⟩
def suiteZ (params : Int) (tests : List (List Int)) (fuel : Int) : Int :=
 if tests.length < 1 ∨ 20 < tests.length then 18 else if ∀ l ∈ tests, (l.length : Int) = params then (if fuel < 1 ∨ 10000 < fuel then 19 else 0) else 18
def rightZ (m : Mt) : Bool :=
 if m.verdict = 0 then decide (m.test = -1 ∧ m.kind = 0 ∧ m.value = 0 ∧ m.digest = [])
 else if m.verdict = 1 then decide ((0 ≤ m.test ∧ m.test ≤ 19 ∧ m.digest.length = 32) ∧ 0 ≤ m.kind ∧ m.kind ≤ 3 ∧ (m.kind = 0 ∨ m.value = 0))
 else if m.verdict = 2 then decide ((0 ≤ m.test ∧ m.test ≤ 19 ∧ m.digest.length = 32) ∧ m.kind = 4 ∧ m.value = 0) else false
def riseM : List Mt → Prop
 | [] => True
 | [_] => True
 | a :: b :: l => cmpD a.d b.d < 0 ∧ riseM (b :: l)
def sameM (a b : Mt) : Bool := decide (cmpD a.d b.d = 0 ∧ a.verdict = b.verdict ∧ a.test = b.test ∧ (a.kind = b.kind ∧ a.value = b.value) ∧ a.digest = b.digest)
theorem sameM_iff {a b : Mt} : sameM a b = true ↔ a = b := by
 unfold sameM
 rw [decide_eq_true_eq, cmpD_eq]
 cases a; cases b
 simp only [Mt.mk.injEq]
 constructor
 · rintro ⟨h1, h2, h3, ⟨h4, h5⟩, h6⟩; exact ⟨h1, h2, h3, h4, h5, h6⟩
 · rintro ⟨h1, h2, h3, h4, h5, h6⟩; exact ⟨h1, h2, h3, ⟨h4, h5⟩, h6⟩
theorem riseM_iff : ∀ {l : List Mt}, riseM l ↔ riseD (l.map Mt.d)
 | [] => Iff.rfl
 | [_] => Iff.rfl
 | a :: b :: l => by
  show cmpD a.d b.d < 0 ∧ riseM (b :: l) ↔ cmpD a.d b.d < 0 ∧ riseD ((b :: l).map Mt.d)
  rw [riseM_iff]
def mergeM : List Mt → List Mt → List Mt
 | [], b => b
 | a, [] => a
 | x :: a, y :: b => if cmpD x.d y.d < 0 then x :: mergeM a (y :: b) else if 0 < cmpD x.d y.d then y :: mergeM (x :: a) b else x :: mergeM a b
termination_by a b => a.length + b.length
def agreeM (a b : List Mt) : Prop := ∀ x ∈ a, ∀ y ∈ b, cmpD x.d y.d = 0 → x = y
def toldZ (l : List Mt) (d : Dl) : Int := match l.find? fun m => decide (cmpD m.d d = 0) with | some m => m.verdict | none => -1
end Go.Proofs.YtcgglolckkeeiaaGreat
namespace Go.Proofs.YtcgglolckkeeiaaGreat
set_option linter.unusedVariables false
open Go.RowKit
theorem riseM_head {a : Mt} {l : List Mt} (h : riseM (a :: l)) {b : Mt} (hb : b ∈ l) : cmpD a.d b.d < 0 := riseD_head (riseM_iff.1 h) (List.mem_map_of_mem (f := Mt.d) hb)
theorem riseM_tail {a : Mt} {l : List Mt} (h : riseM (a :: l)) : riseM l := riseM_iff.2 (riseD_tail (riseM_iff.1 h))
theorem riseM_cons {a : Mt} {l : List Mt} (h : riseM l) (ha : ∀ b ∈ l, cmpD a.d b.d < 0) : riseM (a :: l) := by
 cases l with
 | nil => trivial
 | cons b l => exact ⟨ha b (by simp), h⟩
theorem riseM_ext : ∀ {l m : List Mt}, riseM l → riseM m → (∀ x, x ∈ l ↔ x ∈ m) → l = m
 | [], [], _, _, _ => rfl
 | [], b :: m, _, _, h => absurd ((h b).2 (by simp)) (by simp)
 | a :: l, [], _, _, h => absurd ((h a).1 (by simp)) (by simp)
 | a :: l, b :: m, h1, h2, h => by
  have hab : a = b := by
   rcases List.mem_cons.1 ((h a).1 (by simp)) with e | ha
   · exact e
   · rcases List.mem_cons.1 ((h b).2 (by simp)) with e | hb
     · exact e.symm
     · have h3 := riseM_head h1 hb; have h4 := riseM_head h2 ha; rw [cmpD_neg] at h4; omega
  subst hab
  rw [riseM_ext (riseM_tail h1) (riseM_tail h2) fun x => ?_]
  constructor
  · intro hx
    have hlt := riseM_head h1 hx
    rcases List.mem_cons.1 ((h x).1 (by simp [hx])) with e | hm
    · rw [e, cmpD_self] at hlt; omega
    · exact hm
  · intro hx
    have hlt := riseM_head h2 hx
    rcases List.mem_cons.1 ((h x).2 (by simp [hx])) with e | hm
    · rw [e, cmpD_self] at hlt; omega
    · exact hm
theorem riseM_uniq : ∀ {l : List Mt}, riseM l → ∀ {x y : Mt}, x ∈ l → y ∈ l → cmpD x.d y.d = 0 → x = y
 | [], _, _, _, hx, _, _ => by simp at hx
 | a :: l, h, x, y, hx, hy, hc => by
  rcases List.mem_cons.1 hx with e1 | h1
  · rcases List.mem_cons.1 hy with e2 | h2
    · rw [e1, e2]
    · have := riseM_head h h2; rw [e1] at hc; omega
  · rcases List.mem_cons.1 hy with e2 | h2
    · have := riseM_head h h1; rw [e2, cmpD_neg] at hc; omega
    · exact riseM_uniq (riseM_tail h) h1 h2 hc
theorem mergeM_nil (a : List Mt) : mergeM a [] = a := by cases a <;> simp [mergeM]
theorem mergeM_nil' (b : List Mt) : mergeM [] b = b := by simp [mergeM]
theorem mergeM_mem : ∀ {a b : List Mt}, riseM a → riseM b → ∀ x, x ∈ mergeM a b ↔ x ∈ a ∨ (x ∈ b ∧ ∀ y ∈ a, cmpD y.d x.d ≠ 0)
 | [], b, _, _, x => by rw [mergeM_nil']; simp
 | u :: a, [], _, _, x => by rw [mergeM_nil]; simp
 | u :: a, v :: b, ha, hb, x => by
  by_cases h1 : cmpD u.d v.d < 0
  · rw [mergeM, if_pos h1, List.mem_cons, mergeM_mem (riseM_tail ha) hb x, List.mem_cons (a := x) (b := u)]
    have key : x ∈ v :: b → cmpD u.d x.d ≠ 0 := fun hx => by
     rcases List.mem_cons.1 hx with rfl | hx
     · omega
     · have := cmpD_trans h1 (riseM_head hb hx); omega
    constructor
    · rintro (h | h | ⟨h, k⟩)
      · exact .inl (.inl h)
      · exact .inl (.inr h)
      · refine .inr ⟨h, fun y hy => ?_⟩
        rcases List.mem_cons.1 hy with rfl | hy
        · exact key h
        · exact k y hy
    · rintro ((h | h) | ⟨h, k⟩)
      · exact .inl h
      · exact .inr (.inl h)
      · exact .inr (.inr ⟨h, fun y hy => k y (by simp [hy])⟩)
  by_cases h2 : 0 < cmpD u.d v.d
  · rw [mergeM, if_neg h1, if_pos h2, List.mem_cons, mergeM_mem ha (riseM_tail hb) x, List.mem_cons (a := x) (b := v)]
    have key : x = v → ∀ y ∈ u :: a, cmpD y.d x.d ≠ 0 := fun hx y hy => by
     subst hx
     have h3 : cmpD x.d u.d < 0 := by rw [cmpD_neg]; omega
     rcases List.mem_cons.1 hy with rfl | hy
     · omega
     · have := cmpD_trans h3 (riseM_head ha hy); rw [cmpD_neg]; omega
    constructor
    · rintro (h | h | ⟨h, k⟩)
      · exact .inr ⟨.inl h, key h⟩
      · exact .inl h
      · exact .inr ⟨.inr h, k⟩
    · rintro (h | ⟨h | h, k⟩)
      · exact .inr (.inl h)
      · exact .inl h
      · exact .inr (.inr ⟨h, k⟩)
  · have h3 : cmpD u.d v.d = 0 := by omega
    have h4 : u.d = v.d := cmpD_eq.1 h3
    rw [mergeM, if_neg h1, if_neg h2, List.mem_cons, mergeM_mem (riseM_tail ha) (riseM_tail hb) x, List.mem_cons (a := x) (b := u), List.mem_cons (a := x) (b := v)]
    constructor
    · rintro (h | h | ⟨h, k⟩)
      · exact .inl (.inl h)
      · exact .inl (.inr h)
      · refine .inr ⟨.inr h, fun y hy => ?_⟩
        rcases List.mem_cons.1 hy with rfl | hy
        · have := riseM_head hb h; rw [h4]; omega
        · exact k y hy
    · rintro ((h | h) | ⟨h | h, k⟩)
      · exact .inl h
      · exact .inr (.inl h)
      · subst h; exact absurd h3 (k u (by simp))
      · exact .inr (.inr ⟨h, fun y hy => k y (by simp [hy])⟩)
termination_by a b => a.length + b.length
theorem mergeM_rise : ∀ {a b : List Mt}, riseM a → riseM b → riseM (mergeM a b)
 | [], b, _, hb => by rw [mergeM_nil']; exact hb
 | u :: a, [], ha, _ => by rw [mergeM_nil]; exact ha
 | u :: a, v :: b, ha, hb => by
  by_cases h1 : cmpD u.d v.d < 0
  · rw [mergeM, if_pos h1]
    refine riseM_cons (mergeM_rise (riseM_tail ha) hb) fun x hx => ?_
    rcases (mergeM_mem (riseM_tail ha) hb x).1 hx with h | ⟨h, _⟩
    · exact riseM_head ha h
    · rcases List.mem_cons.1 h with rfl | h
      · exact h1
      · exact cmpD_trans h1 (riseM_head hb h)
  by_cases h2 : 0 < cmpD u.d v.d
  · rw [mergeM, if_neg h1, if_pos h2]
    have h3 : cmpD v.d u.d < 0 := by rw [cmpD_neg]; omega
    refine riseM_cons (mergeM_rise ha (riseM_tail hb)) fun x hx => ?_
    rcases (mergeM_mem ha (riseM_tail hb) x).1 hx with h | ⟨h, _⟩
    · rcases List.mem_cons.1 h with rfl | h
      · exact h3
      · exact cmpD_trans h3 (riseM_head ha h)
    · exact riseM_head hb h
  · have h4 : u.d = v.d := cmpD_eq.1 (by omega)
    rw [mergeM, if_neg h1, if_neg h2]
    refine riseM_cons (mergeM_rise (riseM_tail ha) (riseM_tail hb)) fun x hx => ?_
    rcases (mergeM_mem (riseM_tail ha) (riseM_tail hb) x).1 hx with h | ⟨h, _⟩
    · exact riseM_head ha h
    · rw [h4]; exact riseM_head hb h
termination_by a b => a.length + b.length
theorem agreeM_mem {a b : List Mt} (ha : riseM a) (hb : riseM b) (hg : agreeM a b) (x : Mt) : x ∈ mergeM a b ↔ x ∈ a ∨ x ∈ b := by
 rw [mergeM_mem ha hb]
 constructor
 · rintro (h | ⟨h, _⟩)
   · exact .inl h
   · exact .inr h
 · rintro (h | h)
   · exact .inl h
   · by_cases k : ∃ y ∈ a, cmpD y.d x.d = 0
     · obtain ⟨y, hy, hc⟩ := k
       exact .inl (hg y hy x h hc ▸ hy)
     · exact .inr ⟨h, fun y hy hc => k ⟨y, hy, hc⟩⟩
theorem agreeM_symm {a b : List Mt} (h : agreeM a b) : agreeM b a := fun x hx y hy hc => (h y hy x hx (by rw [cmpD_neg]; omega)).symm
def zipN : List Mt → List Mt → Nat → Nat → List (Option Nat × Option Nat)
 | [], [], _, _ => []
 | [], _ :: b, i, k => (none, some k) :: zipN [] b i (k + 1)
 | _ :: a, [], i, k => (some i, none) :: zipN a [] (i + 1) k
 | x :: a, y :: b, i, k => if cmpD x.d y.d < 0 then (some i, none) :: zipN a (y :: b) (i + 1) k else if 0 < cmpD x.d y.d then (none, some k) :: zipN (x :: a) b i (k + 1) else (some i, some k) :: zipN a b (i + 1) (k + 1)
termination_by a b => a.length + b.length
def pickN (a b : List Mt) (z : Option Nat × Option Nat) : Mt := match z with | (some i, _) => (a[i]?).getD ⟨⟨[], 0, 0⟩, 0, 0, 0, 0, []⟩ | (none, some k) => (b[k]?).getD ⟨⟨[], 0, 0⟩, 0, 0, 0, 0, []⟩ | _ => ⟨⟨[], 0, 0⟩, 0, 0, 0, 0, []⟩
theorem drop_head {α : Type} {l r : List α} {i : Nat} {x : α} (h : l.drop i = x :: r) : l[i]? = some x ∧ l.drop (i + 1) = r := by
 have h1 : (l.drop i)[0]? = some x := by rw [h]; rfl
 have h2 : (l.drop i).drop 1 = r := by rw [h]; rfl
 exact ⟨by simpa using h1, by simpa using h2⟩
theorem zipN_pick (A B : List Mt) : ∀ (a b : List Mt) (i k : Nat), A.drop i = a → B.drop k = b → (zipN a b i k).map (pickN A B) = mergeM a b
 | [], [], i, k, _, _ => by simp [zipN, mergeM]
 | [], y :: b, i, k, h1, h2 => by
  obtain ⟨e1, e2⟩ := drop_head h2
  rw [zipN, List.map_cons, zipN_pick A B [] b i (k + 1) h1 e2, mergeM_nil', mergeM_nil']
  simp [pickN, e1]
 | x :: a, [], i, k, h1, h2 => by
  obtain ⟨e1, e2⟩ := drop_head h1
  rw [zipN, List.map_cons, zipN_pick A B a [] (i + 1) k e2 h2, mergeM_nil, mergeM_nil]
  simp [pickN, e1]
 | x :: a, y :: b, i, k, h1, h2 => by
  obtain ⟨e1, e2⟩ := drop_head h1
  obtain ⟨e3, e4⟩ := drop_head h2
  rw [zipN, mergeM]
  by_cases h3 : cmpD x.d y.d < 0
  · rw [if_pos h3, if_pos h3, List.map_cons, zipN_pick A B a (y :: b) (i + 1) k e2 h2]; simp [pickN, e1]
  by_cases h4 : 0 < cmpD x.d y.d
  · rw [if_neg h3, if_neg h3, if_pos h4, if_pos h4, List.map_cons, zipN_pick A B (x :: a) b i (k + 1) h1 e4]; simp [pickN, e3]
  · rw [if_neg h3, if_neg h3, if_neg h4, if_neg h4, List.map_cons, zipN_pick A B a b (i + 1) (k + 1) e2 e4]; simp [pickN, e1]
termination_by a b => a.length + b.length
end Go.Proofs.YtcgglolckkeeiaaGreat
namespace Go.Proofs.YtcgglolckkeeiaaGreat
set_option linter.unusedVariables false
open Go.RowKit Go.Deep
set_option maxRecDepth 100000 in
set_option maxHeartbeats 2000000 in
theorem refInts_any (A B : Option Addr) (c d na nb : Nat) (a b : List Int) (w : World) (hna : na = a.length) (hnb : nb = b.length) (ha : Rd w A (ints a)) (hb : Rd w B (ints b)) (hla : a.length ≤ 1000000) :
 Calls Tryz.prog 105 #[.slice A na c, .slice B nb d] w fun e w' => e = .returned (.bool (decide (a = b))) ∧ Below w.heap.size w w' := by
 by_cases hl : na = nb
 rotate_left
 · have hlI : ((na : Int) != (nb : Int)) = true := by simp; omega
   have hne : a ≠ b := fun e => hl (by rw [hna, hnb, e])
   have Hne : Hid (decide (a = b) = false) := by show _ = _; simp [hne]
   clear hl hna hnb hne ha hb hla
   go_enter Tryz.func105, Tryz.ntmps105
   go_wp2
   go_ret
   exact ⟨ret_b Hne.out, Below.refl _ _⟩
 subst hl
 have Ha := Lib.hid hna
 have Hb := Lib.hid hnb
 have hn6 : (na : Int) ≤ 1000000 := by omega
 clear hna hnb hla
 obtain ⟨S, hSd⟩ : ∃ S, S = (fun W => Rd W A (ints a) ∧ Rd W B (ints b) ∧ Below w.heap.size w W) := ⟨_, rfl⟩
 have stS : St S := by rw [hSd]; infer_instance
 have S0' : Hid (∀ W, S W → Rd W A (ints a)) := by show ∀ W, _; rw [hSd]; exact fun W h => h.1
 have S1' : Hid (∀ W, S W → Rd W B (ints b)) := by show ∀ W, _; rw [hSd]; exact fun W h => h.2.1
 have S2' : Hid (∀ W, S W → Below w.heap.size w W) := by show ∀ W, _; rw [hSd]; exact fun W h => h.2.2
 have hS : S w := by rw [hSd]; exact ⟨ha, hb, Below.refl _ _⟩
 clear hSd ha hb
 go_enter Tryz.func105, Tryz.ntmps105
 go_wp2
 go_loopw [5] (fun i wr => ∃ k : Nat, i = .int .i64 (k : Int) ∧ k ≤ na ∧ Hid (a.take k = b.take k) ∧ S wr) (fun i _ => na - (intOf i).toNat)
 case atStart => exact ⟨0, by simp, Nat.zero_le _, by simp [Hid], hS⟩
 case round =>
  clear hS
  obtain ⟨k, rfl, hk, Hk, hS⟩ := hrel
  by_cases hkn : k < na
  · obtain ⟨e, he⟩ : ∃ e, a[k]? = some e := ⟨_, List.getElem?_eq_getElem (by have := Ha.out; omega)⟩
    obtain ⟨f, hf⟩ : ∃ f, b[k]? = some f := ⟨_, List.getElem?_eq_getElem (by have := Hb.out; omega)⟩
    obtain ⟨ad, had, _⟩ := int_at (S0'.out _ hS) he
    obtain ⟨bd, hbd, _⟩ := int_at (S1'.out _ hS) hf
    subst had hbd
    have Hca : Hid (∀ W, S W → W.cell? (ad.add k) = some (.int .i64 e)) := fun W h => by
     obtain ⟨ad', h1, h2⟩ := int_at (S0'.out _ h) he
     injection h1 with h1; subst h1; exact h2
    have Hcb : Hid (∀ W, S W → W.cell? (bd.add k) = some (.int .i64 f)) := fun W h => by
     obtain ⟨ad', h1, h2⟩ := int_at (S1'.out _ h) hf
     injection h1 with h1; subst h1; exact h2
    have He := Lib.hid he
    have Hf := Lib.hid hf
    have hkn' : (k : Int) < (na : Int) := by omega
    have ewk : IntKind.i64.wrap ((k : Int) + 1) = (k : Int) + 1 := IntWalk.i64_in _ (by omega)
    clear he hf
    go_wp2
    refine region_hold S (by kernel_rfl) (by kernel_rfl) (St.drew hS) ?_
    clear hS
    iterate 3 (refine hold_value rfl ?_ (fun W hW => ?_) ?_; rotate_left; (focus (go_simp; exact rfl)); simp only [Act.put, List.setIfInBounds_toArray, List.set_cons_zero, List.set_cons_succ])
    (refine hold_value rfl ?_ (fun W hW => ?_) ?_; rotate_left; (focus (have c := Hca.out W hW; go_simp; exact rfl)); simp only [Act.put, List.setIfInBounds_toArray, List.set_cons_zero, List.set_cons_succ])
    iterate 3 (refine hold_value rfl ?_ (fun W hW => ?_) ?_; rotate_left; (focus (go_simp; exact rfl)); simp only [Act.put, List.setIfInBounds_toArray, List.set_cons_zero, List.set_cons_succ])
    (refine hold_value rfl ?_ (fun W hW => ?_) ?_; rotate_left; (focus (have c := Hcb.out W hW; go_simp; exact rfl)); simp only [Act.put, List.setIfInBounds_toArray, List.set_cons_zero, List.set_cons_succ])
    (refine hold_value rfl ?_ (fun W hW => ?_) ?_; rotate_left; (focus (go_simp; exact rfl)); simp only [Act.put, List.setIfInBounds_toArray, List.set_cons_zero, List.set_cons_succ])
    refine wpHold_nil fun W hS => ?_
    by_cases hef : e = f
    · subst hef
      have hnn : (e != e) = false := by simp
      have Hst : Hid (a.take (k + 1) = b.take (k + 1)) := by
       show _ = _
       rw [List.take_add_one, List.take_add_one, Hk.out, He.out, Hf.out]
      clear Hca Hcb He Hf Hk
      go_wp2
      go_roundw
      case rel => exact ⟨k + 1, by go_num, by omega, Hst, hS⟩
      case measure => simp [intOf]; omega
    · have hnn : (e != f) = true := by simpa using hef
      have Hne : Hid (decide (a = b) = false) := by
       show _ = _
       have : a ≠ b := fun h => hef (by
        have h1 := He.out
        rw [h, Hf.out] at h1
        exact (Option.some.inj h1).symm)
       simp [this]
      clear Hca Hcb He Hf Hk hef
      go_wp2
      go_ret
      exact ⟨ret_b Hne.out, S2'.out _ hS⟩
  · obtain rfl : k = na := by omega
    have Heq : Hid (decide (a = b) = true) := by
     show _ = _
     have h1 := Hk.out
     rw [List.take_of_length_le (by have := Ha.out; omega), List.take_of_length_le (by have := Hb.out; omega)] at h1
     simp [h1]
    clear hkn hk
    go_wp2
    go_ret
    exact ⟨ret_b Heq.out, S2'.out _ hS⟩
end Go.Proofs.YtcgglolckkeeiaaGreat
namespace Go.Proofs.YtcgglolckkeeiaaGreat
set_option linter.unusedVariables false
open Go.RowKit Go.Deep
theorem own_emptyS {W' : World} {B g size : Nat} {e : TypeId} (hB : B ≤ g) (h : Row W' g e #[]) : W'.ownsRow B e size (.slice (some ⟨g, 0, none⟩) 0 0) 0 [] :=
 ⟨by simp, .inr ⟨g, 0, #[], rfl, hB, h, Nat.le_refl _, Nat.zero_le _, by simp, by simp⟩⟩
theorem run_exec_bslice {P : Program} {o : Oper} {w w1 : World} {ρ : Operand → Value} {t : TypeId} {n : Nat} (ps : List (Nat × Operand)) (ho : o.op = .buildSlice t n ps.toArray) {v : Value} (hv : (Instr.buildSlice t n (ps.map fun (i, x) => (i, ρ x)).toArray).run P w = .ok v w1) : (execOp ρ o).run P w = .ok (.value v) w1 := by
 simp only [execOp, ho, Sem.run_bind, List.map_toArray, hv, Result.andThen_ok, Sem.run_pure]
theorem run_exec_append {P : Program} {o : Oper} {w w1 : World} {ρ : Operand → Value} {s x : Operand} {t : TypeId} (ho : o.op = .call { callee := .builtin .append, args := #[s, x], argTypes := #[t, t] }) {v : Value} (hv : (Builtin.append_ #[t, t] o.type #[ρ s, ρ x]).run P w = .ok v w1) : (execOp ρ o).run P w = .ok (.value v) w1 := by
 unfold execOp
 simp only [ho, resolve, invoke, builtin, Sem.run_bind, Sem.run_pure, Result.andThen_ok, List.map_toArray, List.map_cons, List.map_nil, hv]
theorem run_append_nil {P : Program} {w : World} {base size n c : Nat} {t ty e : TypeId} {i : TypeInfo} {v : Value} {xs : List Value} (ht : P.underlying t = some (.slice e)) (hi : P.info? e = some i) (hown : w.ownsRow base e size v n xs) : (Builtin.append_ #[t, t] ty #[v, .slice none 0 c]).run P w = .ok v w := by
 rcases hown.2 with ⟨rfl, rfl⟩ | ⟨g, cap, cur, rfl, _, _, hnc, _⟩
 · simp [Builtin.append_, run_underlying ht, sizeOf, typeInfo, hi, Builtin.lenOf, Builtin.firstCells]
 · simp [Builtin.append_, run_underlying ht, sizeOf, typeInfo, hi, Builtin.lenOf, Builtin.firstCells, hnc, storeCells]
theorem append_rd {P : Program} (t e : TypeId) (z : Value) (size bytes : Nat) (ht : P.underlying t = some (.slice e)) (hinf : (P.info? e).map (fun i => (i.zero, i.size, i.bytes)) = some (some z, size, bytes)) (hzs : z.cells.size = size) (hsz : 0 < size) (hby : bytes ≤ 100)
 {W : World} {B n m cap : Nat} {v : Value} {xs cs : List Value} {A : Option Addr} (hown : W.ownsRow B e size v n xs) (hB : B ≤ W.heap.size) (hr : Rd W A cs) (hlen : cs.length = m * size) (h1 : ∀ u ∈ cs, u.oneCell' = true) (hA : A = none → m = 0) (hb : n + m ≤ 1000000) :
 ∃ v' W', (Builtin.append_ #[t, t] t #[v, .slice A m cap]).run P W = .ok v' W' ∧ W'.ownsRow B e size v' (n + m) (xs ++ cs) ∧ W.grownBy W' v.ownBlock ∧ (v'.ownBlock = v.ownBlock ∨ v'.ownBlock = some W.heap.size) := by
 obtain ⟨i0, hi0, hz0, hz1, hz2⟩ := info_parts hinf
 rcases A with _ | ad
 · have h0 := hA rfl
   subst h0
   have hl : cs = [] := List.eq_nil_of_length_eq_zero (by simpa using hlen)
   subst hl
   exact ⟨v, W, run_append_nil ht hi0 hown, by simpa using hown, World.grownBy.refl _ _, .inl rfl⟩
 · obtain ⟨v', W', h1, h2, h3, _, h5⟩ := run_append_own_at (P := P) W B t t e i0 z size bytes ht hi0 hz0 hz1 hz2 hzs hsz v n xs hown ad m cap cs hlen
    (fun j u hj => by obtain ⟨ad', e, hc⟩ := hr j u hj; injection e with e; subst e; exact hc) h1 (by unfold maxLen; omega) (by have := Nat.mul_le_mul hb hby; omega) hB
   exact ⟨v', W', h1, h2, h3, h5⟩
end Go.Proofs.YtcgglolckkeeiaaGreat
namespace Go.Proofs.YtcgglolckkeeiaaGreat
set_option linter.unusedVariables false
open Go.RowKit Go.Deep
theorem info_nd : (Tryz.prog.info? 74).map (fun i => (i.zero, i.size, i.bytes)) = some (some (.agg #[.int .i64 0, .int .i64 0]), 2, 16) := by kernel_rfl
theorem at_stopC {ops : Array Oper} {rest : List Oper} {o : Oper} {a : Act} {w : World} {Q : Exit → Act → World → Prop} (h : Stop (wpList Tryz.prog ops Q (o :: rest) a w) id) : wpList Tryz.prog ops Q (o :: rest) a w := h.out
theorem wpList_res {P : Program} {ops : Array Oper} {rest : List Oper} {o : Oper} {a : Act} {w w1 : World} {Q : Exit → Act → World → Prop} (hgd : o.guard = none) (v : Value) (hv : (execOp a.eval o).run P w = .ok (.value v) w1) (h : wpList P ops Q rest (a.put o.dst v) w1) : wpList P ops Q (o :: rest) a w :=
 wpList_plain hgd fun _ hK => by unfold Oper.wp; rw [hv]; exact hK _ _ h
theorem run_exec_append2 {P : Program} {o : Oper} {w w1 : World} {ρ : Operand → Value} {s x : Operand} {t u : TypeId} (ho : o.op = .call { callee := .builtin .append, args := #[s, x], argTypes := #[t, u] }) {v : Value} (hv : (Builtin.append_ #[t, u] o.type #[ρ s, ρ x]).run P w = .ok v w1) : (execOp ρ o).run P w = .ok (.value v) w1 := by
 unfold execOp
 simp only [ho, resolve, invoke, builtin, Sem.run_bind, Sem.run_pure, Result.andThen_ok, List.map_toArray, List.map_cons, List.map_nil, hv]
set_option maxRecDepth 100000 in
set_option maxHeartbeats 2000000 in
theorem growN_any (n : Nat) (hn : n ≤ 1000000) (w : World) : Calls Tryz.prog 245 #[.slice none 0 0, .int .i64 (n : Int)] w fun e w' => ∃ A cap, e = .returned (.slice A 0 cap) ∧ w'.ownsRow w.heap.size 74 2 (.slice A 0 cap) 0 [] ∧ Below w.heap.size w w' := by
 have h1 : ¬ ((n : Int) < 0) := by omega
 have h2 : wrap64 ((0 : Int) - 0) = 0 := by unfold wrap64; omega
 have h3 : wrap64 ((n : Int) - 0) = (n : Int) := by unfold wrap64; omega
 have h4 : IntKind.i64.wrap (n : Int) = (n : Int) := IntWalk.i64_in _ (by omega)
 by_cases h0 : n = 0
 · subst h0
   go_enter Tryz.func245, Tryz.ntmps245
   go_wp2
   go_ret
   exact ⟨_, _, rfl, World.ownsRow_nil _ _ _ _, Below.refl _ _⟩
 · have hp : (0 : Int) < (n : Int) := by omega
   obtain ⟨i0, hi0, hz0, hz1, hz2⟩ := info_parts info_nd
   have hold : (Builtin.firstCells i0.size 0 (.slice none 0 0)).run Tryz.prog w.drew = .ok ([] : List Value).toArray w.drew := run_firstCells_none w.drew i0.size 0 0 0
   have hrz := fun ty => Lib.run_append_grow_zeros (P := Tryz.prog) w 23 3 ty 74 i0 _ .i64 .i64 Tryz.underlying23 Tryz.underlying3 hi0 hz0 none 0 0 [] hold n (by omega) (by rw [hz1]; omega) (by omega) (by omega) (by rw [hz2]; omega) (growslice_fits (by omega) (by rw [hz2]; omega))
   simp only [Nat.zero_add] at hrz
   have hG1 := grownCap_ge w n 0 74
   have hG2 := grownCap_le_maxLen w n 0 74 (by unfold maxLen; omega)
   generalize grownCap w n 0 74 = G at hrz hG1 hG2
   have hcs : ((([] : List Value).toArray ++ Builtin.zeroCells (Value.agg #[.int .i64 0, .int .i64 0]).cells n ++ Builtin.zeroCells (Value.agg #[.int .i64 0, .int .i64 0]).cells (G - n)) : Array Value).size = G * 2 := by
    simp only [Array.size_append, size_zeroCells]
    show 0 + n * 2 + (G - n) * 2 = G * 2
    omega
   generalize (([] : List Value).toArray ++ Builtin.zeroCells (Value.agg #[.int .i64 0, .int .i64 0]).cells n ++ Builtin.zeroCells (Value.agg #[.int .i64 0, .int .i64 0]).cells (G - n)) = cs at hrz hcs
   have Hrz := Lib.hid hrz
   have hG3 : G ≤ 9223372036854775807 := by unfold maxLen at hG2; omega
   clear hrz hi0 hz0 hz1 hz2 hold h0
   go_enter Tryz.func245, Tryz.ntmps245
   go_wp2_with (at_builtin; refine at_stopC ?_)
   refine Stop.to ?_
   refine wpList_res rfl _ (run_exec_append2 rfl (Hrz.out _)) ?_
   have rn : Row (w.drew.alloc (.cells cs 74)) w.heap.size 74 cs := Row.new w.drew _ _
   have bn : Below w.heap.size w (w.drew.alloc (.cells cs 74)) := (⟨rfl, rfl, rfl, Nat.le_refl _, fun _ _ => rfl⟩ : Below w.heap.size w w.drew).trans ((Below.refl _ w.drew).alloc (Nat.le_refl _) _)
   generalize w.drew.alloc (.cells cs 74) = w1 at rn bn ⊢
   clear Hrz
   go_wp2
   go_ret
   exact ⟨_, _, rfl, ⟨by simp, .inr ⟨w.heap.size, G, cs, rfl, Nat.le_refl _, rn, Nat.zero_le _, hG2, hcs, by simp⟩⟩, bn⟩
structure PtV where
 addr : Option Addr
 cap : Nat
 body : List Nd
def PtV.val (q : PtV) : Value := .slice q.addr q.body.length q.cap
def PtV.rd (q : PtV) (w : World) : Prop := Rd w q.addr (q.body.flatMap Nd.cells) ∧ (q.addr = none → q.body = [])
def partsL (ps : List PtV) : List Nd := ps.flatMap PtV.body
theorem PtV.rd.go {q : PtV} {w w' : World} (h : q.rd w) (b : Below w.heap.size w w') : q.rd w' := ⟨h.1.go b, h.2⟩
theorem ndc_len (l : List Nd) : (l.flatMap Nd.cells).length = l.length * 2 := by
 induction l with
 | nil => rfl
 | cons a l ih => simp only [List.flatMap_cons, List.length_append, ih, List.length_cons]; simp [Nd.cells]; omega
theorem ndc_one (l : List Nd) : ∀ u ∈ l.flatMap Nd.cells, u.oneCell' = true := by
 intro u hu
 simp only [List.mem_flatMap, Nd.cells, List.mem_cons, List.not_mem_nil, or_false] at hu
 obtain ⟨a, _, rfl | rfl⟩ := hu <;> rfl
theorem append_nds {W : World} {B n m cap : Nat} {v : Value} {xs : List Value} {A : Option Addr} {l : List Nd} (hown : W.ownsRow B 74 2 v n xs) (hB : B ≤ W.heap.size) (hr : Rd W A (l.flatMap Nd.cells)) (hm : m = l.length) (hA : A = none → m = 0) (hb : n + m ≤ 1000000) :
 ∃ v' W', (Builtin.append_ #[23, 23] 23 #[v, .slice A m cap]).run Tryz.prog W = .ok v' W' ∧ W'.ownsRow B 74 2 v' (n + m) (xs ++ l.flatMap Nd.cells) ∧ W.grownBy W' v.ownBlock ∧ (v'.ownBlock = v.ownBlock ∨ v'.ownBlock = some W.heap.size) :=
 append_rd 23 74 _ 2 16 Tryz.underlying23 info_nd rfl (by decide) (by decide) hown hB hr (by rw [ndc_len, hm]) (ndc_one l) hA hb
theorem own_sl {w : World} {base n size : Nat} {e : TypeId} {v : Value} {xs : List Value} (h : w.ownsRow base e size v n xs) : ∃ A cap, v = .slice A n cap := by
 rcases h.2 with ⟨rfl, h0⟩ | ⟨g, cap, cur, rfl, _⟩
 · subst h0; exact ⟨_, _, rfl⟩
 · exact ⟨_, _, rfl⟩
theorem partsL_succ {ps : List PtV} {k : Nat} {q : PtV} (h : ps[k]? = some q) : partsL (ps.take (k + 1)) = partsL (ps.take k) ++ q.body := by
 unfold partsL
 rw [List.take_add_one, h]
 simp
theorem partsL_le (ps : List PtV) (k : Nat) : (partsL (ps.take k)).length ≤ (partsL ps).length := by
 have : partsL ps = partsL (ps.take k) ++ partsL (ps.drop k) := by
  unfold partsL
  rw [← List.flatMap_append, List.take_append_drop]
 rw [this]; simp
set_option maxRecDepth 100000 in
set_option maxHeartbeats 4000000 in
theorem concat_any (A : Option Addr) (m cp : Nat) (ps : List PtV) (w : World) (hm : m = ps.length) (hr : Rd w A (ps.map PtV.val)) (hps : ∀ q ∈ ps, q.rd w) (hl : (partsL ps).length ≤ 1000000) (hml : m ≤ 1000) :
 Calls Tryz.prog 240 #[.slice A m cp] w fun e w' => ∃ v, e = .returned v ∧ w'.ownsRow w.heap.size 74 2 v (partsL ps).length ((partsL ps).flatMap Nd.cells) ∧ Below w.heap.size w w' := by
 have Hr := Lib.hid hr
 have Hps := Lib.hid hps
 have Hm := Lib.hid hm
 have hl' := hl
 clear hr hps hm
 go_enter Tryz.func240, Tryz.ntmps240
 go_wp2
 go_loopw [3, 11] (fun s i wr => ∃ k : Nat, i = .int .i64 (k : Int) ∧ s = .int .i64 ((partsL (ps.take k)).length : Int) ∧ k ≤ m ∧ w = wr) (fun _ i _ => m - (intOf i).toNat)
 case atStart => exact ⟨0, rfl, by simp [partsL], Nat.zero_le _, rfl⟩
 case round =>
  obtain ⟨k, rfl, rfl, hk, rfl⟩ := hrel
  by_cases hlt : k < m
  · obtain ⟨q, hq⟩ : ∃ q, ps[k]? = some q := ⟨_, List.getElem?_eq_getElem (by have := Hm.out; omega)⟩
    obtain ⟨ad, rfl, hc⟩ := Hr.out k q.val (by simp [hq])
    have hkI : (k : Int) < (m : Int) := by omega
    have hs := partsL_succ hq
    have hle := partsL_le ps (k + 1)
    rw [hs, List.length_append] at hle
    have e1 : IntKind.i64.wrap (((partsL (ps.take k)).length : Int) + (q.body.length : Int)) = ((partsL (ps.take k)).length : Int) + (q.body.length : Int) := IntWalk.i64_in _ (by omega)
    have e2 : ¬ (((partsL (ps.take k)).length : Int) + (q.body.length : Int) < 0) := by omega
    have ewk : IntKind.i64.wrap ((k : Int) + 1) = (k : Int) + 1 := IntWalk.i64_in _ (by omega)
    have Hs : Hid ((((partsL (ps.take k)).length : Int) + (q.body.length : Int)) = ((partsL (ps.take (k + 1))).length : Int)) := by show _ = _; rw [hs, List.length_append]; omega
    unfold PtV.val at hc
    clear hs hle hq
    generalize (partsL (ps.take k)).length = sk at *
    go_wp2
    go_roundw
    case rel => exact ⟨k + 1, by go_num, by rw [← Hs.out], by omega, by trivial⟩
    case measure => simp [intOf]; omega
  · obtain rfl : k = m := by omega
    have ht : ps.take k = ps := by rw [Hm.out]; exact List.take_length
    rw [ht]
    obtain ⟨n, hn⟩ : ∃ n, n = (partsL ps).length := ⟨_, rfl⟩
    have Hn := Lib.hid hn
    rw [← hn] at hl ⊢
    clear hlt hk ht hn hl'
    go_wp2_with fail
    refine (growN_any n hl w).mono ?_
    rintro e w1 ⟨A1, c1, rfl, hown, b1⟩
    have Hown := Lib.hid hown
    have Hb1 := Lib.hid b1
    clear hown b1
    go_wp2
    go_loopw [6, 27] (fun s i W => ∃ (k' : Nat) (v : Value), s = v ∧ i = .int .i64 (k' : Int) ∧ k' ≤ k ∧ Hid (W.ownsRow w.heap.size 74 2 v (partsL (ps.take k')).length ((partsL (ps.take k')).flatMap Nd.cells)) ∧ Hid (Below w.heap.size w W)) (fun _ i _ => k - (intOf i).toNat)
    case atStart => exact ⟨0, _, rfl, rfl, Nat.zero_le _, by simpa [partsL] using Hown, Hb1⟩
    case round =>
     clear Hown Hb1
     obtain ⟨j, v, rfl, rfl, hj, Hown, Hb⟩ := hrel
     by_cases hlt : j < k
     · obtain ⟨q, hq⟩ : ∃ q, ps[j]? = some q := ⟨_, List.getElem?_eq_getElem (by have := Hm.out; omega)⟩
       obtain ⟨ad, rfl, hc⟩ := (Hr.out.go Hb.out) j q.val (by simp [hq])
       have hqr := (Hps.out q (List.mem_of_getElem? hq)).go Hb.out
       have hjI : (j : Int) < (k : Int) := by omega
       have hs := partsL_succ hq
       have hle := partsL_le ps (j + 1)
       rw [hs, List.length_append, ← Hn.out] at hle
       have ewj : IntKind.i64.wrap ((j : Int) + 1) = (j : Int) + 1 := IntWalk.i64_in _ (by omega)
       obtain ⟨v2, W2, hrun, hown2, hgr, _⟩ := append_nds (cap := q.cap) Hown.out Hb.out.size hqr.1 (rfl : q.body.length = q.body.length) (fun h => by rw [hqr.2 h]; rfl) (by omega)
       have b2 := below_grown_own (Below.refl w.heap.size _) Hown.out hgr Hb.out.size (Nat.le_refl _)
       have Hown2 : Hid (W2.ownsRow w.heap.size 74 2 v2 (partsL (ps.take (j + 1))).length ((partsL (ps.take (j + 1))).flatMap Nd.cells)) := by
        show W2.ownsRow _ _ _ _ _ _
        rw [hs, List.length_append, List.flatMap_append]; exact hown2
       have Hb2 := Lib.hid (Hb.out.trans b2)
       have Hrun := Lib.hid hrun
       obtain ⟨A2, c2, rfl⟩ := own_sl hown2
       obtain ⟨A3, c3, rfl⟩ := own_sl Hown.out
       unfold PtV.val at hc
       clear hs hle hq hrun hown2 hgr b2 hqr Hown Hb
       go_wp2_with (at_builtin; refine at_stopC ?_)
       refine Stop.to ?_
       refine wpList_res rfl _ (run_exec_append rfl Hrun.out) ?_
       clear Hrun hc
       go_wp2
       go_roundw
       case rel => exact ⟨j + 1, _, rfl, by go_num, by omega, Hown2, Hb2⟩
       case measure => simp [intOf]; omega
     · obtain rfl : j = k := by omega
       have ht : ps.take j = ps := by rw [Hm.out]; exact List.take_length
       rw [ht] at Hown
       obtain ⟨A3, c3, rfl⟩ := own_sl Hown.out
       clear hlt hj ht
       go_wp2
       go_ret
       exact ⟨_, rfl, Hown.out, Hb.out⟩
end Go.Proofs.YtcgglolckkeeiaaGreat
namespace Go.Proofs.YtcgglolckkeeiaaGreat
set_option linter.unusedVariables false
open Go.ChangeShapes Go.WideShapes Go.RowKit Go.Deep
theorem cells_int : Tryz.prog.cellsOf 3 = 1 := by kernel_rfl
end Go.Proofs.YtcgglolckkeeiaaGreat
namespace Go.Proofs.YtcgglolckkeeiaaGreat
set_option linter.unusedVariables false
open Go.RowKit Go.Deep
theorem hold_load_at {P : Program} {ops : Array Oper} {S : World → Prop} {Q : Act → Prop} {a : Act} {o : Oper} {rest : List Oper} (hw : Region.wanted o (yielded ops a.tmps) = true) (ty : TypeId) (x : Operand) (ho : o.op = .load ty x) (ad : Addr) (hx : a.eval x = .pointer (some ad)) (cs : List Value) (d : TypeDesc)
 (hr : ∀ W, S W → ∀ j v, cs[j]? = some v → W.cell? (ad.add j) = some v) (hu : P.underlying ty = some d) (hd : (match d with | .struct _ | .array _ _ => true | _ => false) = true) (hi : (P.info? ty).map (·.size) = some cs.length)
 (h : wpHold P ops S Q rest (a.put o.dst (.agg cs.toArray))) : wpHold P ops S Q (o :: rest) a :=
 hold_value hw (.agg cs.toArray) (fun W hW => by
  simp only [execOp, ho, hx, Instr.loadAt, Instr.sureAddr, Sem.run_bind, Sem.run_pure, Result.andThen_ok, run_loadVar_at W ad ty cs d (hr W hW) hu hd hi]) h
end Go.Proofs.YtcgglolckkeeiaaGreat
namespace Go.Proofs.YtcgglolckkeeiaaGreat
set_option linter.unusedVariables false
open Go.RowKit
section
variable {P : Program} {ops : Array Oper} {rest : List Oper} {o : Oper} {a : Act} {w : World} {Q : Exit → Act → World → Prop}
theorem wpList_hold (S : World → Prop) (hS : S w) : ∀ (n : Nat) (l : List Oper) (a : Act) (w : World), S w → wpHold P ops S (fun a' => ∀ W, S W → wpList P ops Q (l.drop n) a' W) (l.take n) a → wpList P ops Q l a w := by
 intro n
 induction n with
 | zero => intro l a w hS h; exact h w hS
 | succ n ih =>
  intro l a w hS h
  cases l with
  | nil => exact h w hS
  | cons o l =>
   obtain ⟨v, hy, hh⟩ := h
   refine wpList_step fun K hK => ?_
   rcases hy with ⟨hw, hv⟩ | ⟨hw, rfl⟩
   · rw [if_pos hw]
     have h1 := hv w hS
     unfold Oper.wp
     generalize (execOp a.eval o).run P w = r at h1
     cases r with
     | ok n' w' =>
      cases n' <;> simp only [holdUpon] at h1 <;> simp only [Oper.upon]
      case value u => obtain ⟨rfl, h2⟩ := h1; exact hK _ _ (ih l _ _ h2 hh)
      case skip => obtain ⟨rfl, h2⟩ := h1; exact hK _ _ (ih l _ _ h2 hh)
      case enter f args => exact h1.mono fun e w'' ⟨he, hs⟩ => by subst he; exact hK _ _ (ih l _ _ hs hh)
     | halt x w' => simp only [holdUpon] at h1
   · rw [if_neg (by rw [hw]; simp)]
     exact hK _ _ (ih l _ _ hS hh)
theorem wpList_holdN (S : World → Prop) (n : Nat) {l : List Oper} (hS : S w) (h : wpHold P ops S (fun a' => ∀ W, S W → wpList P ops Q (l.drop n) a' W) (l.take n) a) : wpList P ops Q l a w := wpList_hold S hS n l a w hS h
theorem at_load (ty : TypeId) (x : Operand) (_ : o.op = .load ty x) (h : Stop (wpList P ops Q (o :: rest) a w) id) : wpList P ops Q (o :: rest) a w := h.out
theorem at_slice (t : TypeId) (n : Nat) (ps : Array (Nat × Operand)) (_ : o.op = .buildSlice t n ps) (h : Stop (wpList P ops Q (o :: rest) a w) id) : wpList P ops Q (o :: rest) a w := h.out
theorem at_any (h : Stop (wpList P ops Q (o :: rest) a w) id) : wpList P ops Q (o :: rest) a w := h.out
theorem wpList_slice_gen (hw : Region.wanted o (yielded ops a.tmps) = true) (t : TypeId) (n : Nat) (ps : Array (Nat × Operand)) (ho : o.op = .buildSlice t n ps) (e : TypeId) (cells : Array Value)
 (hx : ∀ W, (Instr.buildSlice t n (ps.map fun (i, x) => (i, a.eval x))).run P W = .ok (.slice (some ⟨W.heap.size, 0, none⟩) n n) (W.alloc (.cells cells e)))
 (h : ∀ g w', w.heap.size ≤ g → Row w' g e cells → Below g w w' → wpList P ops Q rest (a.put o.dst (.slice (some ⟨g, 0, none⟩) n n)) w') : wpList P ops Q (o :: rest) a w := by
 refine BigFrame.wpList_want hw fun K hK => ?_
 unfold Oper.wp execOp
 simp only [ho, Sem.run_bind, hx, Result.andThen_ok, Sem.run_pure]
 exact hK _ _ (h _ _ (Nat.le_refl _) (Row.new _ _ _) ((Below.refl _ _).alloc (Nat.le_refl _) _))
theorem bs_run {t e : TypeId} {n sz : Nat} {z : Value} {parts : Array (Nat × Value)} {cells : Array Value} (hu : P.underlying t = some (.slice e)) (hi : (P.info? e).map (fun i => (i.zero, i.size)) = some (some z, sz)) (h1 : n * sz ≤ 2 ^ 24) (h2 : n * sz ≠ 0)
 (hf : Instr.fill (fun i => some (i * sz, sz)) ((Array.range (n * sz)).map (z.cells[· % z.cells.size]!)) parts.toList = some cells) : ∀ W, (Instr.buildSlice t n parts).run P W = .ok (.slice (some ⟨W.heap.size, 0, none⟩) n n) (W.alloc (.cells cells e)) := by
 intro W
 cases hq : P.info? e with
 | none => rw [hq] at hi; cases hi
 | some ie =>
  rw [hq] at hi
  simp only [Option.map_some, Option.some.injEq, Prod.mk.injEq] at hi
  obtain ⟨hz, rfl⟩ := hi
  exact run_buildSlice W t e n parts cells ie z hu hq hz (by omega) h2 hf
end
end Go.Proofs.YtcgglolckkeeiaaGreat
