/- Lemmas for CoAll. -/
import Derived.Test.YtcgglolckkeeiaaGreatZo6
import Derived.Test.YtcgglolckkeeiaaGreatZo3
import Derived.Test.YtcgglolckkeeiaaGreatZo1
import Derived.Maps.AppendAt
import Derived.Deep.Cut
set_option linter.unusedVariables false
set_option linter.unusedSimpArgs false
namespace Go.Proofs.YtcgglolckkeeiaaGreat
open Go.RowKit Go.Deep
theorem DlOk.go {W W' : World} {x : DlV} (h : DlOk W x) (b : Below W.heap.size W W') : DlOk W' x := ⟨Rd.go h.rd b, h.len⟩
set_option maxRecDepth 100000 in
set_option maxHeartbeats 2000000 in
theorem dlSame_any (x y : DlV) (w : World) (hx : DlOk w x) (hy : DlOk w y) :
 Calls Tryz.prog 23 #[.agg x.cells, .agg y.cells] w fun e w' => e = .returned (.bool (decide (cmpD x.d y.d = 0))) ∧ Below w.heap.size w w' := by
 have Ha := Lib.hid hx.rd
 have Hb := Lib.hid hy.rd
 have hla := hx.len
 have hlb := hy.len
 clear hx hy
 go_enter Tryz.func23, Tryz.ntmps23
 go_wp2_with (refine at_box _ _ rfl ?_)
 refine Stop.to ?_
 refine wpList_box_gen rfl 42 _ rfl x.cells rfl ?_
 intro G Gw Gh Gr Gb
 go_wp2_with (refine at_box _ _ rfl ?_)
 refine Stop.to ?_
 refine wpList_box_gen rfl 42 _ rfl y.cells rfl ?_
 intro J Jw Jh Jr Jb
 have rG := Gr.below Jb (Nat.lt_of_lt_of_le Gr.lt Jh)
 have b1 := (Below.refl w.heap.size w).trans (Gb.mono Gh)
 have b2 := b1.trans ((Jb.mono Jh).mono b1.size)
 obtain ⟨S, hSd⟩ : ∃ S, S = (fun W => (Row W G 42 x.cells ∧ Row W J 42 y.cells) ∧ (Rd W x.A (ints x.d.path) ∧ Rd W y.A (ints y.d.path)) ∧ Below w.heap.size w W) := ⟨_, rfl⟩
 have stS : St S := by rw [hSd]; infer_instance
 have T0 : Hid (∀ W, S W → Row W G 42 x.cells) := by show ∀ W, _; rw [hSd]; exact fun W h => h.1.1
 have T1 : Hid (∀ W, S W → Row W J 42 y.cells) := by show ∀ W, _; rw [hSd]; exact fun W h => h.1.2
 have T2 : Hid (∀ W, S W → Rd W x.A (ints x.d.path)) := by show ∀ W, _; rw [hSd]; exact fun W h => h.2.1.1
 have T3 : Hid (∀ W, S W → Rd W y.A (ints y.d.path)) := by show ∀ W, _; rw [hSd]; exact fun W h => h.2.1.2
 have T4 : Hid (∀ W, S W → Below w.heap.size w W) := by show ∀ W, _; rw [hSd]; exact fun W h => h.2.2
 have hS : S Jw := by rw [hSd]; exact ⟨⟨rG, Jr⟩, ⟨Rd.go Ha.out b2, Rd.go Hb.out b2⟩, b2⟩
 clear hSd rG Gr Jr Gb Jb b1 b2 Gh Jh Ha Hb
 go_wp2_with (refine at_load _ _ rfl ?_)
 refine Stop.to ?_
 refine wpList_holdN S 4 hS ?_
 clear hS
 simp only [List.take_succ_cons, List.take_zero, List.drop_succ_cons, List.drop_zero]
 (refine hold_load_row rfl 42 _ rfl (G) rfl 42 _ _ (fun W hW => T0.out W hW) Tryz.underlying42 rfl (by kernel_rfl) ?_; simp only [Act.put, List.setIfInBounds_toArray, List.set_cons_zero, List.set_cons_succ])
 (refine hold_load_row rfl 42 _ rfl (J) rfl 42 _ _ (fun W hW => T1.out W hW) Tryz.underlying42 rfl (by kernel_rfl) ?_; simp only [Act.put, List.setIfInBounds_toArray, List.set_cons_zero, List.set_cons_succ])
 (refine hold_call_new rfl 25 _ (fun W => by (go_simp; try rfl)) (.int .i64 (cmpD x.d y.d)) (fun W hW => dlCmp_any x y W ⟨T2.out W hW, hla⟩ ⟨T3.out W hW, hlb⟩) ?_; simp only [Act.put, List.setIfInBounds_toArray, List.set_cons_zero, List.set_cons_succ])
 (refine hold_value rfl ?_ (fun W hW => ?_) ?_; rotate_left; (focus (go_simp; exact rfl)); simp only [Act.put, List.setIfInBounds_toArray, List.set_cons_zero, List.set_cons_succ])
 refine wpHold_nil fun W hS => ?_
 go_wp2_with fail
 go_ret
 exact ⟨ret_b (by by_cases h : cmpD x.d y.d = 0 <;> simp [h]), T4.out _ hS⟩
set_option maxRecDepth 100000 in
set_option maxHeartbeats 2000000 in
theorem refDlCmp_any (x y : DlV) (w : World) (hx : DlOk w x) (hy : DlOk w y) :
 Calls Tryz.prog 57 #[.agg x.cells, .agg y.cells] w fun e w' => e = .returned (.int .i64 (cmpD x.d y.d)) ∧ Below w.heap.size w w' := by
 have Ha := Lib.hid hx.rd
 have Hb := Lib.hid hy.rd
 have hla := hx.len
 have hlb := hy.len
 clear hx hy
 go_enter Tryz.func57, Tryz.ntmps57
 go_wp2_with (refine at_box _ _ rfl ?_)
 refine Stop.to ?_
 refine wpList_box_gen rfl 42 _ rfl x.cells rfl ?_
 intro G Gw Gh Gr Gb
 go_wp2_with (refine at_box _ _ rfl ?_)
 refine Stop.to ?_
 refine wpList_box_gen rfl 42 _ rfl y.cells rfl ?_
 intro J Jw Jh Jr Jb
 have rG := Gr.below Jb (Nat.lt_of_lt_of_le Gr.lt Jh)
 have b1 := (Below.refl w.heap.size w).trans (Gb.mono Gh)
 have b2 := b1.trans ((Jb.mono Jh).mono b1.size)
 obtain ⟨S, hSd⟩ : ∃ S, S = (fun W => (Row W G 42 x.cells ∧ Row W J 42 y.cells) ∧ (Rd W x.A (ints x.d.path) ∧ Rd W y.A (ints y.d.path)) ∧ Below w.heap.size w W) := ⟨_, rfl⟩
 have stS : St S := by rw [hSd]; infer_instance
 have T0 : Hid (∀ W, S W → Row W G 42 x.cells) := by show ∀ W, _; rw [hSd]; exact fun W h => h.1.1
 have T1 : Hid (∀ W, S W → Row W J 42 y.cells) := by show ∀ W, _; rw [hSd]; exact fun W h => h.1.2
 have T2 : Hid (∀ W, S W → Rd W x.A (ints x.d.path)) := by show ∀ W, _; rw [hSd]; exact fun W h => h.2.1.1
 have T3 : Hid (∀ W, S W → Rd W y.A (ints y.d.path)) := by show ∀ W, _; rw [hSd]; exact fun W h => h.2.1.2
 have T4 : Hid (∀ W, S W → Below w.heap.size w W) := by show ∀ W, _; rw [hSd]; exact fun W h => h.2.2
 have hS : S Jw := by rw [hSd]; exact ⟨⟨rG, Jr⟩, ⟨Rd.go Ha.out b2, Rd.go Hb.out b2⟩, b2⟩
 clear hSd rG Gr Jr Gb Jb b1 b2 Gh Jh Ha Hb
 go_wp2_with (refine at_any ?_)
 refine Stop.to ?_
 refine wpList_holdN S 6 hS ?_
 clear hS
 simp only [List.take_succ_cons, List.drop_succ_cons, List.drop_zero, List.take_nil]
 (refine hold_value rfl ?_ (fun W hW => ?_) ?_; rotate_left; (focus (go_simp; exact rfl)); simp only [Act.put, List.setIfInBounds_toArray, List.set_cons_zero, List.set_cons_succ])
 (refine hold_value rfl ?_ (fun W hW => ?_) ?_; rotate_left; (focus (have c := (T0.out W hW).cellv (i := 0) (v := .slice x.A x.d.path.length x.cap) rfl; go_simp; exact rfl)); simp only [Act.put, List.setIfInBounds_toArray, List.set_cons_zero, List.set_cons_succ])
 (refine hold_value rfl ?_ (fun W hW => ?_) ?_; rotate_left; (focus (go_simp; exact rfl)); simp only [Act.put, List.setIfInBounds_toArray, List.set_cons_zero, List.set_cons_succ])
 (refine hold_value rfl ?_ (fun W hW => ?_) ?_; rotate_left; (focus (have c := (T1.out W hW).cellv (i := 0) (v := .slice y.A y.d.path.length y.cap) rfl; go_simp; exact rfl)); simp only [Act.put, List.setIfInBounds_toArray, List.set_cons_zero, List.set_cons_succ])
 (refine hold_call_new rfl 109 _ (fun W => by (go_simp; try rfl)) (.int .i64 (cmpL x.d.path y.d.path)) (fun W hW => refCmp_any x.A y.A x.cap y.cap _ _ W (T2.out W hW) (T3.out W hW) hla hlb) ?_; simp only [Act.put, List.setIfInBounds_toArray, List.set_cons_zero, List.set_cons_succ])
 (refine hold_value rfl ?_ (fun W hW => ?_) ?_; rotate_left; (focus (go_simp; exact rfl)); simp only [Act.put, List.setIfInBounds_toArray, List.set_cons_zero, List.set_cons_succ])
 refine wpHold_nil fun W hS => ?_
 have c1 := (T0.out _ hS).cellv (i := 1) (v := .int .i64 x.d.op) rfl
 have c2 := (T0.out _ hS).cellv (i := 2) (v := .int .i64 x.d.n) rfl
 have d1 := (T1.out _ hS).cellv (i := 1) (v := .int .i64 y.d.op) rfl
 have d2 := (T1.out _ hS).cellv (i := 2) (v := .int .i64 y.d.n) rfl
 by_cases h1 : cmpL x.d.path y.d.path = 0
 · have hb1 : (cmpL x.d.path y.d.path != 0) = false := by simp [h1]
   by_cases h2 : x.d.op = y.d.op
   · have hb2 : (x.d.op != y.d.op) = false := by simp [h2]
     have he : cmpI x.d.n y.d.n = cmpD x.d y.d := by unfold cmpD orI; rw [h1, if_neg (by simp), cmpI_eq.2 h2, if_neg (by simp)]
     clear h1 h2
     go_wp2_with fail
     refine (less_any _ _ _).mono ?_
     rintro e w1 ⟨rfl, rfl⟩
     go_wp2_with fail
     go_ret
     exact ⟨ret_i' (by first | exact he | rfl), T4.out _ hS⟩
   · have hb2 : (x.d.op != y.d.op) = true := by simpa using h2
     have he : cmpI x.d.op y.d.op = cmpD x.d y.d := by unfold cmpD orI; rw [h1, if_neg (by simp), if_pos (fun h => h2 (cmpI_eq.1 h))]
     clear h1 h2
     go_wp2_with fail
     refine (less_any _ _ _).mono ?_
     rintro e w1 ⟨rfl, rfl⟩
     go_wp2_with fail
     go_ret
     exact ⟨ret_i' (by first | exact he | rfl), T4.out _ hS⟩
 · have hb1 : (cmpL x.d.path y.d.path != 0) = true := by simpa using h1
   have he : cmpL x.d.path y.d.path = cmpD x.d y.d := by unfold cmpD orI; rw [if_pos h1]
   clear h1
   go_wp2_with fail
   go_ret
   exact ⟨ret_i' he, T4.out _ hS⟩
end Go.Proofs.YtcgglolckkeeiaaGreat
namespace Go.Proofs.YtcgglolckkeeiaaGreat
open Go.RowKit
def riseI : List Int → Prop
 | [] => True
 | [_] => True
 | a :: b :: l => a < b ∧ riseI (b :: l)
theorem riseI_tail {a : Int} {l : List Int} (h : riseI (a :: l)) : riseI l := by
 cases l with
 | nil => trivial
 | cons b l => exact h.2
theorem riseI_head : ∀ {l : List Int} {a b : Int}, riseI (a :: l) → b ∈ l → a < b
 | [], _, _, _, h => by simp at h
 | c :: l, a, b, hr, h => by
  rcases List.mem_cons.1 h with rfl | h
  · exact hr.1
  · exact Int.lt_trans hr.1 (riseI_head hr.2 h)
theorem riseI_cons {a : Int} {l : List Int} (h : riseI l) (hl : ∀ b ∈ l, a < b) : riseI (a :: l) := by
 cases l with
 | nil => trivial
 | cons b l => exact ⟨hl b (by simp), h⟩
theorem riseI_ext : ∀ {l m : List Int}, riseI l → riseI m → (∀ x, x ∈ l ↔ x ∈ m) → l = m
 | [], [], _, _, _ => rfl
 | [], b :: m, _, _, h => absurd ((h b).2 (by simp)) (by simp)
 | a :: l, [], _, _, h => absurd ((h a).1 (by simp)) (by simp)
 | a :: l, b :: m, h1, h2, h => by
  have hab : a = b := by
   rcases List.mem_cons.1 ((h a).1 (by simp)) with e | ha
   · exact e
   · rcases List.mem_cons.1 ((h b).2 (by simp)) with e | hb
     · exact e.symm
     · have := riseI_head h1 hb; have := riseI_head h2 ha; omega
  subst hab
  rw [riseI_ext (riseI_tail h1) (riseI_tail h2) fun x => ?_]
  constructor
  · intro hx
    have hlt := riseI_head h1 hx
    rcases List.mem_cons.1 ((h x).1 (by simp [hx])) with e | hm
    · omega
    · exact hm
  · intro hx
    have hlt := riseI_head h2 hx
    rcases List.mem_cons.1 ((h x).2 (by simp [hx])) with e | hm
    · omega
    · exact hm
def insU (a : Int) : List Int → List Int
 | [] => [a]
 | b :: l => if a < b then a :: b :: l else if a = b then b :: l else b :: insU a l
theorem insU_mem (a x : Int) : ∀ l : List Int, x ∈ insU a l ↔ x = a ∨ x ∈ l
 | [] => by simp [insU]
 | b :: l => by
  rw [insU]
  split
  · simp
  · split
    · rename_i e; subst e; simp
    · rw [List.mem_cons, insU_mem a x l, List.mem_cons]
      constructor
      · rintro (h | h | h) <;> simp [h]
      · rintro (h | h | h) <;> simp [h]
theorem insU_rise (a : Int) : ∀ {l : List Int}, riseI l → riseI (insU a l)
 | [], _ => trivial
 | b :: l, h => by
  rw [insU]
  split
  · rename_i hab; exact ⟨hab, h⟩
  · split
    · exact h
    · rename_i h1 h2
      refine riseI_cons (insU_rise a (riseI_tail h)) fun x hx => ?_
      rcases (insU_mem a x l).1 hx with rfl | hx
      · omega
      · exact riseI_head h hx
def sortU : List Int → List Int
 | [] => []
 | a :: l => insU a (sortU l)
theorem sortU_mem (x : Int) : ∀ l : List Int, x ∈ sortU l ↔ x ∈ l
 | [] => by simp [sortU]
 | a :: l => by rw [sortU, insU_mem, sortU_mem x l, List.mem_cons]
theorem sortU_rise : ∀ l : List Int, riseI (sortU l)
 | [] => trivial
 | a :: l => insU_rise a (sortU_rise l)
theorem filter_rise (f : Int → Bool) : ∀ {l : List Int}, riseI l → riseI (l.filter f)
 | [], _ => trivial
 | a :: l, h => by
  rw [List.filter_cons]
  split
  · exact riseI_cons (filter_rise f (riseI_tail h)) fun b hb => riseI_head h ((List.mem_filter.1 hb).1)
  · exact filter_rise f (riseI_tail h)
def isC (x y : Nd) (op n : Int) : Bool :=
 if op = 1 then decide (7 ≤ x.tag ∧ x.tag ≤ 11 ∧ 7 ≤ n ∧ n ≤ 11 ∧ n ≠ x.tag) else if op = 2 then decide (12 ≤ x.tag ∧ x.tag ≤ 17 ∧ 12 ≤ n ∧ n ≤ 17 ∧ n ≠ x.tag)
 else if op = 3 then decide (18 ≤ x.tag ∧ x.tag ≤ 19 ∧ 18 ≤ n ∧ n ≤ 19 ∧ n ≠ x.tag)
 else if op = 4 then decide ((x.tag = 1 ∧ (n = 0 ∨ n = 1 ∨ n = -1 ∨ n = wrap64 (x.n + 1) ∨ n = wrap64 (x.n - 1)) ∧ n ≠ x.n) ∨ (x.tag = 2 ∧ n = wrap64 (1 - x.n)))
 else if op = 5 then decide ((x.tag = 21 ∨ x.tag = 22 ∨ x.tag = 23 ∨ x.tag = 24 ∨ x.tag = 25) ∧ n = 0)
 else if op = 6 then decide ((x.tag = 23 ∨ x.tag = 24) ∧ n = 0)
 else if op = 7 then decide (x.tag = 25 ∧ (n = 0 ∨ n = 1) ∧ ¬ (y.tag = 1 ∧ y.n = n)) else false
def triesZ (x : Nd) : List Int := sortU ([-1, 0, 1, wrap64 (x.n - 1), wrap64 (x.n + 1)] ++ (List.range 13).map fun i : Nat => (i : Int) + 7)
def choicesZ (x y : Nd) : List (Int × Int) := ((List.range 7).map fun i : Nat => (i : Int) + 1).flatMap fun op => ((triesZ x).filter (isC x y op)).map fun n => (op, n)
theorem isC_tries {x y : Nd} {op n : Int} (h : isC x y op n = true) (h2 : x.tag = 2 → x.n = 0 ∨ x.n = 1) : n ∈ triesZ x := by
 unfold triesZ
 rw [sortU_mem]
 have hr : ∀ k : Int, 7 ≤ k → k ≤ 19 → k ∈ (List.range 13).map fun i : Nat => (i : Int) + 7 := fun k h1 h2 => by
  rw [List.mem_map]
  exact ⟨(k - 7).toNat, List.mem_range.2 (by omega), by omega⟩
 unfold isC at h
 rw [List.mem_append]
 repeat' split at h
 all_goals (first | (cases h; done) | skip)
 all_goals (simp only [decide_eq_true_eq] at h)
 · exact .inr (hr n (by omega) (by omega))
 · exact .inr (hr n (by omega) (by omega))
 · exact .inr (hr n (by omega) (by omega))
 · refine .inl ?_
   rcases h with ⟨_, h, _⟩ | ⟨h1, h⟩
   · simp; omega
   · have : n = 0 ∨ n = 1 := by
      subst h
      unfold wrap64
      rcases h2 h1 with e | e <;> rw [e] <;> omega
     simp; omega
 · exact .inl (by simp; omega)
 · exact .inl (by simp; omega)
 · exact .inl (by simp; omega)
end Go.Proofs.YtcgglolckkeeiaaGreat
namespace Go.Proofs.YtcgglolckkeeiaaGreat
open Go.RowKit
mutual
def pathsT (own : List Int) (q : Nat) : Tr → List (Nat × List Int)
 | .node _ ks => (q, own) :: pathsK own (q + 1) 0 ks
def pathsK (own : List Int) (q : Nat) (i : Int) : List Tr → List (Nat × List Int)
 | [] => []
 | t :: ts => pathsT (own ++ [i]) q t ++ pathsK own (q + t.size) (i + 1) ts
end
mutual
theorem pathsT_len : ∀ (t : Tr) (own : List Int) (q : Nat), (pathsT own q t).length = t.size
 | .node x ks, own, q => by rw [pathsT, List.length_cons, pathsK_len ks, Tr.size, Tr.flat, List.length_cons]
theorem pathsK_len : ∀ (ts : List Tr) (own : List Int) (q : Nat) (i : Int), (pathsK own q i ts).length = (flats ts).length
 | [], _, _, _ => by simp [pathsK, flats]
 | t :: ts, own, q, i => by rw [pathsK, List.length_append, pathsT_len t, pathsK_len ts, flats, List.length_append]; rfl
end
mutual
theorem pathsT_at : ∀ (t : Tr) (own : List Int) (q j : Nat) (e : Nat × List Int), (pathsT own q t)[j]? = some e → e.1 = q + j
 | .node x ks, own, q, 0, e, h => by simp [pathsT] at h; subst h; rfl
 | .node x ks, own, q, j + 1, e, h => by
  rw [pathsT, List.getElem?_cons_succ] at h
  have := pathsK_at ks own (q + 1) 0 j e h
  omega
theorem pathsK_at : ∀ (ts : List Tr) (own : List Int) (q : Nat) (i : Int) (j : Nat) (e : Nat × List Int), (pathsK own q i ts)[j]? = some e → e.1 = q + j
 | [], _, _, _, _, _, h => by simp [pathsK] at h
 | t :: ts, own, q, i, j, e, h => by
  rw [pathsK] at h
  by_cases hj : j < t.size
  · rw [List.getElem?_append_left (by rw [pathsT_len]; exact hj)] at h
    exact pathsT_at t _ q j e h
  · rw [List.getElem?_append_right (by rw [pathsT_len]; omega), pathsT_len] at h
    have := pathsK_at ts own _ (i + 1) _ e h
    omega
end
def findP : List Int → Nat → Tr → Option (Nat × Tr)
 | [], q, t => some (q, t)
 | i :: π, q, .node _ ks => if i < 0 then none else match (spots (q + 1) ks)[i.toNat]?, ks[i.toNat]? with
  | some r, some k => findP π r k
  | _, _ => none
theorem findP_at {l : List Nd} : ∀ {π : List Int} {q r : Nat} {t k : Tr}, At l q t → findP π q t = some (r, k) → At l r k
 | [], q, r, t, k, h, e => by simp [findP] at e; obtain ⟨rfl, rfl⟩ := e; exact h
 | i :: π, q, r, .node x ks, k, h, e => by
  rw [findP] at e
  split at e
  · cases e
  · split at e
    · rename_i r1 k1 h1 h2
      exact findP_at (h.kids.spot i.toNat r1 k1 h1 h2).1 e
    · cases e
mutual
theorem pathsT_find : ∀ (t : Tr) (own : List Int) (q r : Nat) (π : List Int), (r, own ++ π) ∈ pathsT own q t ↔ ∃ k, findP π q t = some (r, k)
 | .node x ks, own, q, r, [] => by
  rw [pathsT, List.append_nil, List.mem_cons, findP]
  constructor
  · rintro (e | h)
    · injection e with e1 _; subst e1; exact ⟨_, rfl⟩
    · obtain ⟨j, ρ, e, _⟩ := pathsK_pre ks own (q + 1) 0 r own h
      have := congrArg List.length e
      simp at this
  · rintro ⟨k, e⟩
    injection e with e; injection e with e1 e2
    subst e1; exact .inl rfl
 | .node x ks, own, q, r, i :: π => by
  rw [pathsT, List.mem_cons, findP]
  have hne : (r, own ++ i :: π) ≠ (q, own) := fun e => by
   injection e with _ e
   have := congrArg List.length e
   simp at this
  rw [or_iff_right hne, pathsK_find ks own (q + 1) 0 r i π]
  constructor
  · rintro ⟨hi, s, k, h1, h2, k', h3⟩
    rw [Int.sub_zero] at h1 h2
    rw [if_neg (by omega), h1, h2]
    exact ⟨k', h3⟩
  · rintro ⟨k', h⟩
    split at h
    · cases h
    · split at h
      · rename_i s k h1 h2
        exact ⟨by omega, s, k, by rw [Int.sub_zero]; exact h1, by rw [Int.sub_zero]; exact h2, k', h⟩
      · cases h
theorem pathsK_pre : ∀ (ts : List Tr) (own : List Int) (q : Nat) (i : Int) (r : Nat) (σ : List Int), (r, σ) ∈ pathsK own q i ts → ∃ (j : Int) (ρ : List Int), σ = own ++ j :: ρ ∧ i ≤ j
 | [], _, _, _, _, _, h => by simp [pathsK] at h
 | t :: ts, own, q, i, r, σ, h => by
  rw [pathsK, List.mem_append] at h
  rcases h with h | h
  · obtain ⟨ρ, e⟩ := pathsT_pre t (own ++ [i]) q r σ h
    exact ⟨i, ρ, by rw [e]; simp, Int.le_refl _⟩
  · obtain ⟨j, ρ, e, hj⟩ := pathsK_pre ts own _ (i + 1) r σ h
    exact ⟨j, ρ, e, by omega⟩
theorem pathsT_pre : ∀ (t : Tr) (own : List Int) (q r : Nat) (σ : List Int), (r, σ) ∈ pathsT own q t → ∃ ρ, σ = own ++ ρ
 | .node x ks, own, q, r, σ, h => by
  rw [pathsT, List.mem_cons] at h
  rcases h with e | h
  · injection e with _ e; exact ⟨[], by rw [e]; simp⟩
  · obtain ⟨j, ρ, e, _⟩ := pathsK_pre ks own (q + 1) 0 r σ h
    exact ⟨j :: ρ, e⟩
theorem pathsK_find : ∀ (ts : List Tr) (own : List Int) (q : Nat) (i : Int) (r : Nat) (j : Int) (π : List Int), (r, own ++ j :: π) ∈ pathsK own q i ts ↔ i ≤ j ∧ ∃ s k, (spots q ts)[(j - i).toNat]? = some s ∧ ts[(j - i).toNat]? = some k ∧ ∃ k', findP π s k = some (r, k')
 | [], _, _, _, _, _, _ => by simp [pathsK]
 | t :: ts, own, q, i, r, j, π => by
  rw [pathsK, List.mem_append, pathsK_find ts own _ (i + 1) r j π]
  constructor
  · rintro (h | ⟨hi, s, k, h1, h2, h3⟩)
    · obtain ⟨ρ, e⟩ := pathsT_pre t (own ++ [i]) q r _ h
      rw [List.append_assoc, List.append_cancel_left_eq] at e
      injection e with e1 e2
      subst e1
      rw [show own ++ j :: π = (own ++ [j]) ++ π by simp] at h
      refine ⟨Int.le_refl _, q, t, by simp [spots], by simp, (pathsT_find t (own ++ [j]) q r π).1 h⟩
    · refine ⟨by omega, s, k, ?_, ?_, h3⟩
      · rw [show (j - i).toNat = (j - (i + 1)).toNat + 1 by omega, spots, List.getElem?_cons_succ]; exact h1
      · rw [show (j - i).toNat = (j - (i + 1)).toNat + 1 by omega, List.getElem?_cons_succ]; exact h2
  · rintro ⟨hi, s, k, h1, h2, h3⟩
    by_cases e : j = i
    · subst e
      rw [Int.sub_self] at h1 h2
      simp [spots] at h1 h2
      subst h1; subst h2
      refine .inl ?_
      rw [show own ++ j :: π = (own ++ [j]) ++ π by simp]
      exact (pathsT_find t (own ++ [j]) q r π).2 h3
    · refine .inr ⟨by omega, s, k, ?_, ?_, h3⟩
      · rw [show (j - i).toNat = (j - (i + 1)).toNat + 1 by omega, spots, List.getElem?_cons_succ] at h1; exact h1
      · rw [show (j - i).toNat = (j - (i + 1)).toNat + 1 by omega, List.getElem?_cons_succ] at h2; exact h2
end
theorem cmpL_app : ∀ (own a b : List Int), cmpL (own ++ a) (own ++ b) = cmpL a b
 | [], _, _ => rfl
 | x :: own, a, b => by rw [List.cons_append, List.cons_append, cmpL, cmpI_self, if_neg (by simp), cmpL_app own]
def riseL : List (Nat × List Int) → Prop
 | [] => True
 | a :: l => (∀ b ∈ l, cmpL a.2 b.2 < 0) ∧ riseL l
theorem riseL_append : ∀ {l m : List (Nat × List Int)}, riseL l → riseL m → (∀ a ∈ l, ∀ b ∈ m, cmpL a.2 b.2 < 0) → riseL (l ++ m)
 | [], m, _, h, _ => h
 | a :: l, m, h1, h2, h => ⟨fun b hb => by
  rcases List.mem_append.1 hb with hb | hb
  · exact h1.1 b hb
  · exact h a (by simp) b hb, riseL_append h1.2 h2 (fun x hx y hy => h x (by simp [hx]) y hy)⟩
mutual
theorem pathsT_rise : ∀ (t : Tr) (own : List Int) (q : Nat), riseL (pathsT own q t)
 | .node x ks, own, q => by
  rw [pathsT]
  refine ⟨fun b hb => ?_, pathsK_rise ks own (q + 1) 0⟩
  obtain ⟨r, σ⟩ := b
  obtain ⟨j, ρ, e, _⟩ := pathsK_pre ks own (q + 1) 0 r σ hb
  simp only
  rw [e, show cmpL own (own ++ j :: ρ) = cmpL (own ++ []) (own ++ j :: ρ) by rw [List.append_nil], cmpL_app]
  simp [cmpL]
theorem pathsK_rise : ∀ (ts : List Tr) (own : List Int) (q : Nat) (i : Int), riseL (pathsK own q i ts)
 | [], _, _, _ => trivial
 | t :: ts, own, q, i => by
  rw [pathsK]
  refine riseL_append (pathsT_rise t _ q) (pathsK_rise ts own _ (i + 1)) fun a ha b hb => ?_
  obtain ⟨r, σ⟩ := a
  obtain ⟨r', σ'⟩ := b
  obtain ⟨ρ, e⟩ := pathsT_pre t (own ++ [i]) q r σ ha
  obtain ⟨j, ρ', e', hj⟩ := pathsK_pre ts own _ (i + 1) r' σ' hb
  simp only
  have hij : cmpI i j < 0 := cmpI_lt.2 (by omega)
  rw [e, e', List.append_assoc, cmpL_app, List.cons_append, List.nil_append, cmpL, if_pos (by omega)]
  exact hij
end
end Go.Proofs.YtcgglolckkeeiaaGreat
namespace Go.Proofs.YtcgglolckkeeiaaGreat
open Go.RowKit
theorem riseI_pair : ∀ {l : List Int}, riseI l → l.Pairwise (· < ·)
 | [], _ => .nil
 | a :: l, h => .cons (fun b hb => riseI_head h hb) (riseI_pair (riseI_tail h))
theorem riseD_of {l : List Dl} (h : l.Pairwise fun a b => cmpD a b < 0) : riseD l := by
 induction h with
 | nil => trivial
 | @cons a l ha _ ih =>
  cases l with
  | nil => trivial
  | cons b l => exact ⟨ha b (by simp), ih⟩
theorem riseL_pair : ∀ {l : List (Nat × List Int)}, riseL l → l.Pairwise fun a b => cmpL a.2 b.2 < 0
 | [], _ => .nil
 | a :: l, h => .cons h.1 (riseL_pair h.2)
theorem choicesZ_rise (x y : Nd) : (choicesZ x y).Pairwise fun a b => a.1 < b.1 ∨ (a.1 = b.1 ∧ a.2 < b.2) := by
 unfold choicesZ
 rw [List.pairwise_flatMap]
 refine ⟨fun op _ => ?_, ?_⟩
 · rw [List.pairwise_map]
   exact (riseI_pair (filter_rise _ (sortU_rise _))).imp fun h => .inr ⟨rfl, h⟩
 · rw [List.pairwise_map]
   refine List.pairwise_lt_range.imp fun {i j} hij => ?_
   intro a ha b hb
   rw [List.mem_map] at ha hb
   obtain ⟨m, _, rfl⟩ := ha
   obtain ⟨n, _, rfl⟩ := hb
   exact .inl (by show (i : Int) + 1 < (j : Int) + 1; omega)
def ndAt (l : List Nd) (q : Nat) : Nd := (l[q]?).getD ⟨0, 0⟩
def choicesAt (l : List Nd) (q : Nat) : List (Int × Int) := choicesZ (ndAt l q) (ndAt l (q + 1))
def allZ (l : List Nd) (t : Tr) : List Dl := (pathsT [] 0 t).flatMap fun e => (choicesAt l e.1).map fun c => ⟨e.2, c.1, c.2⟩
theorem allZ_rise (l : List Nd) (t : Tr) : riseD (allZ l t) := by
 refine riseD_of ?_
 unfold allZ
 rw [List.pairwise_flatMap]
 refine ⟨fun e _ => ?_, ?_⟩
 · rw [List.pairwise_map]
   refine (choicesZ_rise _ _).imp fun {a b} h => ?_
   unfold cmpD orI
   simp only [cmpL_self]
   rw [if_neg (by simp)]
   rcases h with h | ⟨h1, h2⟩
   · have := cmpI_lt.2 h
     rw [if_pos (by omega)]; exact this
   · rw [if_neg (by simpa using cmpI_eq.2 h1)]; exact cmpI_lt.2 h2
 · refine (riseL_pair (pathsT_rise t [] 0)).imp fun {a b} h => ?_
   intro d hd e he
   rw [List.mem_map] at hd he
   obtain ⟨c, _, rfl⟩ := hd
   obtain ⟨c', _, rfl⟩ := he
   unfold cmpD orI
   simp only
   rw [if_pos (by omega)]; exact h
theorem rise_lo {l : List Dl} (h : riseD l) {m : Nat} {d e : Dl} (hm : l[m]? = some e) (hc : cmpD e d < 0) : ∀ i, l[i]? = some d → m < i := by
 intro i hi
 rcases Nat.lt_trichotomy m i with x | x | x
 · exact x
 · subst x; rw [hm] at hi; injection hi with hi; subst hi; rw [cmpD_self] at hc; omega
 · have := riseD_get h hi hm x
   rw [cmpD_neg] at this; omega
theorem rise_hi {l : List Dl} (h : riseD l) {m : Nat} {d e : Dl} (hm : l[m]? = some e) (hc : 0 < cmpD e d) : ∀ i, l[i]? = some d → i < m := by
 intro i hi
 rcases Nat.lt_trichotomy i m with x | x | x
 · exact x
 · subst x; rw [hm] at hi; injection hi with hi; subst hi; rw [cmpD_self] at hc; omega
 · have := riseD_get h hm hi x
   omega
end Go.Proofs.YtcgglolckkeeiaaGreat
namespace Go.Proofs.YtcgglolckkeeiaaGreat
open Go.RowKit Go.Deep
structure Good (p : PgV) (t : Tr) : Prop where
 hat : At p.body 0 t
 size : t.size = p.body.length
 vars : varsOk p.params p.V
 tag : t.root.tag = 20
 kind : ofT p.V t = 2
theorem At.uniq {l : List Nd} {q : Nat} {a b : Tr} (ha : At l q a) (hb : At l q b) : a = b := by
 have key : ∀ n, (∀ (a b : Tr) (r s : List Nd), a.size ≤ n → a.fits → b.fits → a.flat ++ r = b.flat ++ s → a = b) ∧ (∀ (ls ms : List Tr) (r s : List Nd), (flats ls).length ≤ n → ls.length = ms.length → (∀ t ∈ ls, t.fits) → (∀ t ∈ ms, t.fits) → flats ls ++ r = flats ms ++ s → ls = ms) := by
  intro n
  induction n with
  | zero =>
   refine ⟨fun a b r s h => by have := a.size_eq; omega, fun ls ms r s h hl _ _ _ => ?_⟩
   cases ls with
   | nil => exact (List.eq_nil_of_length_eq_zero (by simpa using hl.symm)).symm
   | cons t ts => rw [flats, List.length_append] at h; have := t.size_eq; have hsz : t.size = t.flat.length := rfl; omega
  | succ n ih =>
   have one : ∀ (a b : Tr) (r s : List Nd), a.size ≤ n + 1 → a.fits → b.fits → a.flat ++ r = b.flat ++ s → a = b := by
    rintro ⟨x, ks⟩ ⟨y, js⟩ r s h fa fb e
    have e' := e
    rw [Tr.flat_eq, Tr.flat_eq, List.cons_append, List.cons_append] at e'
    injection e' with e1 e2
    simp only [Tr.root, Tr.kids] at e1 e2
    subst e1
    have hl : ks.length = js.length := by
     have h1 := fa.arity
     have h2 := fb.arity
     simp only [Tr.root, Tr.kids] at h1 h2
     omega
    have h4 := (Tr.node x ks).size_eq
    simp only [Tr.kids] at h4
    rw [ih.2 ks js r s (by omega) hl fa.kid fb.kid e2]
   refine ⟨one, fun ls ms => ?_⟩
   induction ls generalizing ms with
   | nil => intro r s _ hl _ _ _; exact (List.eq_nil_of_length_eq_zero (by simpa using hl.symm)).symm
   | cons t ts iht =>
    intro r s h hl fa fb e
    cases ms with
    | nil => simp at hl
    | cons u us =>
     rw [flats, flats, List.append_assoc, List.append_assoc] at e
     rw [flats, List.length_append] at h
     have ht : t = u := one t u _ _ (by unfold Tr.size; omega) (fa t (by simp)) (fb u (by simp)) e
     subst ht
     rw [iht us r s (by omega) (by simpa using hl) (fun k hk => fa k (by simp [hk])) (fun k hk => fb k (by simp [hk])) (List.append_cancel_left e)]
 obtain ⟨r, hr⟩ := ha.here
 obtain ⟨s, hs⟩ := hb.here
 exact (key a.size).1 a b r s (Nat.le_refl _) ha.fits hb.fits (by rw [← hr, hs])
theorem not_good_tree {p : PgV} {t : Tr} (hat : At p.body 0 t) (h : ¬ (t.root.tag = 20 ∧ ofT p.V t = 2)) : ∀ t', ¬ Good p t' := fun t' g => by
 have := hat.uniq g.hat
 subst this
 exact h ⟨g.tag, g.kind⟩
theorem varsE_cases (a : Int) (V : List Int) : varsE a V = 0 ∧ varsOk a V ∨ varsE a V = 14 := by
 unfold varsE
 by_cases h : varsOk a V
 · rw [if_pos h]; exact .inl ⟨rfl, h⟩
 · rw [if_neg h]; exact .inr rfl
end Go.Proofs.YtcgglolckkeeiaaGreat
namespace Go.Proofs.YtcgglolckkeeiaaGreat
open Go.RowKit
structure Mt where
 d : Dl
 verdict : Int
 test : Int
 kind : Int
 value : Int
 digest : List UInt8
structure Sc where
 alive : Int
 killed : Int
 timeout : Int
def countV (l : List Mt) (v : Int) : Int := ((l.filter fun m => m.verdict == v).length : Int)
def scoreZ (l : List Mt) : Sc := ⟨countV l 0, countV l 1, countV l 2⟩
def suiteZ (params : Int) (tests : List (List Int)) (fuel : Int) : Int :=
 if tests.length < 1 ∨ 20 < tests.length then 18 else if ∀ l ∈ tests, (l.length : Int) = params then (if fuel < 1 ∨ 10000 < fuel then 19 else 0) else 18
def rightZ (m : Mt) : Bool :=
 if m.verdict = 0 then decide (m.test = -1 ∧ m.kind = 0 ∧ m.value = 0 ∧ m.digest = [])
 else if m.verdict = 1 then decide ((0 ≤ m.test ∧ m.test ≤ 19 ∧ m.digest.length = 32) ∧ 0 ≤ m.kind ∧ m.kind ≤ 3 ∧ (m.kind = 0 ∨ m.value = 0))
 else if m.verdict = 2 then decide ((0 ≤ m.test ∧ m.test ≤ 19 ∧ m.digest.length = 32) ∧ m.kind = 4 ∧ m.value = 0) else false
def riseM : List Mt → Prop
 | [] => True
 | [_] => True
 | a :: b :: l => cmpD a.d b.d < 0 ∧ riseM (b :: l)
def sameM (a b : Mt) : Bool := decide (cmpD a.d b.d = 0 ∧ a.verdict = b.verdict ∧ a.test = b.test ∧ (a.kind = b.kind ∧ a.value = b.value) ∧ a.digest = b.digest)
theorem sameM_iff {a b : Mt} : sameM a b = true ↔ a = b := by
 unfold sameM
 rw [decide_eq_true_eq, cmpD_eq]
 cases a; cases b
 simp only [Mt.mk.injEq]
 constructor
 · rintro ⟨h1, h2, h3, ⟨h4, h5⟩, h6⟩; exact ⟨h1, h2, h3, h4, h5, h6⟩
 · rintro ⟨h1, h2, h3, h4, h5, h6⟩; exact ⟨h1, h2, h3, ⟨h4, h5⟩, h6⟩
theorem riseM_iff : ∀ {l : List Mt}, riseM l ↔ riseD (l.map Mt.d)
 | [] => Iff.rfl
 | [_] => Iff.rfl
 | a :: b :: l => by
  show cmpD a.d b.d < 0 ∧ riseM (b :: l) ↔ cmpD a.d b.d < 0 ∧ riseD ((b :: l).map Mt.d)
  rw [riseM_iff]
end Go.Proofs.YtcgglolckkeeiaaGreat
namespace Go.Proofs.YtcgglolckkeeiaaGreat
open Go.RowKit Go.Deep
def Sc.cells (s : Sc) : Array Value := #[.int .i64 s.alive, .int .i64 s.killed, .int .i64 s.timeout]
theorem zero_counts (w : World) : (zeroValue 89).run Tryz.prog w = .ok (.agg #[.int .i64 0, .int .i64 0, .int .i64 0]) w := by kernel_rfl
theorem zero_score (w : World) : (zeroValue 29).run Tryz.prog w = .ok (.agg #[.int .i64 0, .int .i64 0, .int .i64 0]) w := by kernel_rfl
set_option maxHeartbeats 2000000 in
theorem scBack_any (s : Sc) (w : World) : Calls Tryz.prog 58 #[.agg s.cells] w fun e w' => e = .returned (.agg s.cells) ∧ Below w.heap.size w w' := by
 have zc := zero_score
 go_enter Tryz.func58, Tryz.ntmps58
 go_wp2_with (refine at_box _ _ rfl ?_)
 refine Stop.to ?_
 refine wpList_box_gen rfl 89 _ rfl s.cells rfl ?_
 intro G Gw Gh Gr Gb
 go_wp2_with (refine at_alloc _ rfl ?_)
 refine Stop.to ?_
 refine wpList_alloc_gen rfl 29 rfl _ _ (zc _) rfl ?_
 intro J Jw Jh Jr Jb
 have rG := Gr.below Jb (Nat.lt_of_lt_of_le Gr.lt Jh)
 have b1 := (Below.refl w.heap.size w).trans (Gb.mono Gh)
 have b2 := b1.trans ((Jb.mono Jh).mono b1.size)
 have hJ : w.heap.size ≤ J := Nat.le_trans b1.size Jh
 have c0 := rG.cellv (i := 0) (v := .int .i64 s.alive) rfl
 have c1 := rG.cellv (i := 1) (v := .int .i64 s.killed) rfl
 have c2 := rG.cellv (i := 2) (v := .int .i64 s.timeout) rfl
 clear Gr Gb Jb b1 Gh Jh
 go_wp2_with (refine at_store _ _ _ rfl ?_)
 refine Stop.to ?_
 refine wpList_store_gen rfl 29 _ _ rfl J s.cells rfl rfl 29 _ Jr (by kernel_rfl) rfl (by simp [Value.oneCell', Sc.cells]) ?_
 intro W9 r9 o9
 go_wp2_with fail
 refine bodyPost_ret (results_cell_row Tryz.results58 _ _ J 29 _ (0, 0) _ rfl r9 Tryz.underlying29 rfl (by kernel_rfl)) rfl ?_
 exact ⟨rfl, b2.trans (o9.below hJ)⟩
end Go.Proofs.YtcgglolckkeeiaaGreat
namespace Go.Proofs.YtcgglolckkeeiaaGreat
open Go.RowKit Go.Deep
structure MtV where
 A : Option Addr
 cap : Nat
 m : Mt
def MtV.dl (x : MtV) : DlV := ⟨x.A, x.cap, x.m.d⟩
def MtV.cells (x : MtV) : List Value := [.slice x.A x.m.d.path.length x.cap, .int .i64 x.m.d.op, .int .i64 x.m.d.n, .int .i64 x.m.verdict, .int .i64 x.m.test, .int .i64 x.m.kind, .int .i64 x.m.value, .string ⟨x.m.digest.toArray⟩]
structure MtOk (W : World) (x : MtV) : Prop where
 rd : Rd W x.A (ints x.m.d.path)
 len : x.m.d.path.length ≤ 1000000
 nil : x.A = none → x.m.d.path = []
 dig : x.m.digest.length ≤ 1000000
theorem MtOk.go {W W' : World} {x : MtV} (h : MtOk W x) (b : Below W.heap.size W W') : MtOk W' x := ⟨Rd.go h.rd b, h.len, h.nil, h.dig⟩
theorem MtOk.dl {W : World} {x : MtV} (h : MtOk W x) : DlOk W x.dl := ⟨h.rd, h.len⟩
instance St.mtok {x : MtV} : St (fun W => MtOk W x) := ⟨fun h b => h.go b⟩
instance St.mtsok {l : List MtV} : St (fun W => ∀ x ∈ l, MtOk W x) := ⟨fun h b x hx => (h x hx).go b⟩
theorem mt_dl {W : World} {G : Nat} {t : TypeId} {x : MtV} (h : Row W G t x.cells.toArray) : ∀ j v, x.dl.cells.toList[j]? = some v → W.cell? ((⟨G, 0, none⟩ : Addr).add j) = some v :=
 Row.from_ (cur := x.cells.toArray) h 0 (fun j v hj => by
  match j, hj with
  | 0, hj | 1, hj | 2, hj => exact hj
  | j + 3, hj => simp [DlV.cells] at hj)
theorem sameM_cases (a b : Mt) : (¬ cmpD a.d b.d = 0 → sameM a b = false) ∧ (¬ a.verdict = b.verdict → sameM a b = false) ∧ (¬ a.test = b.test → sameM a b = false) ∧ (¬ a.kind = b.kind → sameM a b = false) ∧ (¬ a.value = b.value → sameM a b = false) ∧ (cmpD a.d b.d = 0 → a.verdict = b.verdict → a.test = b.test → a.kind = b.kind → a.value = b.value → sameM a b = (a.digest == b.digest)) := by
 unfold sameM
 refine ⟨fun h => ?_, fun h => ?_, fun h => ?_, fun h => ?_, fun h => ?_, fun h1 h2 h3 h4 h5 => ?_⟩
 all_goals (first | simp [h]; done | (simp [h1, h2, h3, h4, h5]; by_cases e : a.digest = b.digest <;> simp [e]))
set_option maxRecDepth 100000 in
set_option maxHeartbeats 4000000 in
theorem mtSame_any (x y : MtV) (w : World) (hx : MtOk w x) (hy : MtOk w y) :
 Calls Tryz.prog 47 #[.agg x.cells.toArray, .agg y.cells.toArray] w fun e w' => e = .returned (.bool (sameM x.m y.m)) ∧ Below w.heap.size w w' := by
 have Ha := Lib.hid hx
 have Hb := Lib.hid hy
 clear hx hy
 go_enter Tryz.func47, Tryz.ntmps47
 go_wp2_with (refine at_box _ _ rfl ?_)
 refine Stop.to ?_
 refine wpList_box_gen rfl 47 _ rfl x.cells.toArray rfl ?_
 intro G Gw Gh Gr Gb
 go_wp2_with (refine at_box _ _ rfl ?_)
 refine Stop.to ?_
 refine wpList_box_gen rfl 47 _ rfl y.cells.toArray rfl ?_
 intro J Jw Jh Jr Jb
 have rG := Gr.below Jb (Nat.lt_of_lt_of_le Gr.lt Jh)
 have b1 := (Below.refl w.heap.size w).trans (Gb.mono Gh)
 have b2 := b1.trans ((Jb.mono Jh).mono b1.size)
 have Hs := Lib.hid (dlSame_any x.dl y.dl Jw (Ha.out.go b2).dl (Hb.out.go b2).dl)
 go_wp2_with (first | (refine wpList_load_at rfl 42 _ rfl ⟨G, 0, none⟩ rfl x.dl.cells.toList _ (mt_dl rG) Tryz.underlying42 rfl (by kernel_rfl) ?_) | (refine wpList_load_at rfl 42 _ rfl ⟨J, 0, none⟩ rfl y.dl.cells.toList _ (mt_dl Jr) Tryz.underlying42 rfl (by kernel_rfl) ?_))
 refine Hs.out.mono ?_
 rintro e w1 ⟨rfl, b3⟩
 have rG' := rG.below b3 (by have := rG.lt; exact rG.lt)
 have rJ' := Jr.below b3 Jr.lt
 have c1 := rG'.cellv (i := 3) (v := .int .i64 x.m.verdict) rfl
 have c2 := rG'.cellv (i := 4) (v := .int .i64 x.m.test) rfl
 have c3 := rG'.cellv (i := 7) (v := .string ⟨x.m.digest.toArray⟩) rfl
 have d1 := rJ'.cellv (i := 3) (v := .int .i64 y.m.verdict) rfl
 have d2 := rJ'.cellv (i := 4) (v := .int .i64 y.m.test) rfl
 have d3 := rJ'.cellv (i := 7) (v := .string ⟨y.m.digest.toArray⟩) rfl
 have c5 := rG'.cellv (i := 5) (v := .int .i64 x.m.kind) rfl
 have c6 := rG'.cellv (i := 6) (v := .int .i64 x.m.value) rfl
 have d5 := rJ'.cellv (i := 5) (v := .int .i64 y.m.kind) rfl
 have d6 := rJ'.cellv (i := 6) (v := .int .i64 y.m.value) rfl
 have hbb := b2.trans (b3.mono b2.size)
 clear Ha Hb Hs rG Gr Gb Jr Jb b1 b2 b3 Gh Jh rG' rJ'
 have Hall := Lib.hid (sameM_cases x.m y.m)
 by_cases h1 : cmpD x.dl.d y.dl.d = 0
 rotate_left
 · go_wp2_with fail
   go_ret
   exact ⟨ret_b (Hall.out.1 h1), hbb⟩
 by_cases h2 : x.m.verdict = y.m.verdict
 rotate_left
 · go_wp2_with fail
   go_ret
   exact ⟨ret_b (Hall.out.2.1 h2), hbb⟩
 by_cases h3 : x.m.test = y.m.test
 rotate_left
 · go_wp2_with fail
   go_ret
   exact ⟨ret_b (Hall.out.2.2.1 h3), hbb⟩
 by_cases h4 : x.m.kind = y.m.kind
 rotate_left
 · have h4' := Lib.hid h4
   have h5 : (x.m.kind == y.m.kind) = false := by simpa using h4
   clear h4
   go_wp2_with fail
   go_ret
   exact ⟨ret_b (Hall.out.2.2.2.1 h4'.out), hbb⟩
 by_cases h5 : x.m.value = y.m.value
 rotate_left
 · have h5' := Lib.hid h5
   have h6 : (x.m.value == y.m.value) = false := by simpa using h5
   clear h5
   go_wp2_with fail
   go_ret
   exact ⟨ret_b (Hall.out.2.2.2.2.1 h5'.out), hbb⟩
 · go_wp2_with fail
   go_ret
   exact ⟨ret_b (Hall.out.2.2.2.2.2 h1 h2 h3 h4 h5), hbb⟩
set_option maxRecDepth 100000 in
set_option maxHeartbeats 4000000 in
theorem refMtSame_any (x y : MtV) (w : World) (hx : MtOk w x) (hy : MtOk w y) :
 Calls Tryz.prog 52 #[.agg x.cells.toArray, .agg y.cells.toArray] w fun e w' => e = .returned (.bool (sameM x.m y.m)) ∧ Below w.heap.size w w' := by
 have Ha := Lib.hid hx
 have Hb := Lib.hid hy
 clear hx hy
 go_enter Tryz.func52, Tryz.ntmps52
 go_wp2_with (refine at_box _ _ rfl ?_)
 refine Stop.to ?_
 refine wpList_box_gen rfl 47 _ rfl x.cells.toArray rfl ?_
 intro G Gw Gh Gr Gb
 go_wp2_with (refine at_box _ _ rfl ?_)
 refine Stop.to ?_
 refine wpList_box_gen rfl 47 _ rfl y.cells.toArray rfl ?_
 intro J Jw Jh Jr Jb
 have rG := Gr.below Jb (Nat.lt_of_lt_of_le Gr.lt Jh)
 have b1 := (Below.refl w.heap.size w).trans (Gb.mono Gh)
 have b2 := b1.trans ((Jb.mono Jh).mono b1.size)
 have Hs := Lib.hid (refDlCmp_any x.dl y.dl Jw (Ha.out.go b2).dl (Hb.out.go b2).dl)
 go_wp2_with (first | (refine wpList_load_at rfl 42 _ rfl ⟨G, 0, none⟩ rfl x.dl.cells.toList _ (mt_dl rG) Tryz.underlying42 rfl (by kernel_rfl) ?_) | (refine wpList_load_at rfl 42 _ rfl ⟨J, 0, none⟩ rfl y.dl.cells.toList _ (mt_dl Jr) Tryz.underlying42 rfl (by kernel_rfl) ?_))
 refine Hs.out.mono ?_
 rintro e w1 ⟨rfl, b3⟩
 have rG' := rG.below b3 (by have := rG.lt; exact rG.lt)
 have rJ' := Jr.below b3 Jr.lt
 have c1 := rG'.cellv (i := 3) (v := .int .i64 x.m.verdict) rfl
 have c2 := rG'.cellv (i := 4) (v := .int .i64 x.m.test) rfl
 have c3 := rG'.cellv (i := 7) (v := .string ⟨x.m.digest.toArray⟩) rfl
 have d1 := rJ'.cellv (i := 3) (v := .int .i64 y.m.verdict) rfl
 have d2 := rJ'.cellv (i := 4) (v := .int .i64 y.m.test) rfl
 have d3 := rJ'.cellv (i := 7) (v := .string ⟨y.m.digest.toArray⟩) rfl
 have c5 := rG'.cellv (i := 5) (v := .int .i64 x.m.kind) rfl
 have c6 := rG'.cellv (i := 6) (v := .int .i64 x.m.value) rfl
 have d5 := rJ'.cellv (i := 5) (v := .int .i64 y.m.kind) rfl
 have d6 := rJ'.cellv (i := 6) (v := .int .i64 y.m.value) rfl
 have hbb := b2.trans (b3.mono b2.size)
 clear Ha Hb Hs rG Gr Gb Jr Jb b1 b2 b3 Gh Jh rG' rJ'
 have Hall := Lib.hid (sameM_cases x.m y.m)
 by_cases h1 : cmpD x.dl.d y.dl.d = 0
 rotate_left
 · have h1' : (cmpD x.dl.d y.dl.d == 0) = false := by simpa using h1
   go_wp2_with fail
   go_ret
   exact ⟨ret_b (Hall.out.1 h1), hbb⟩
 by_cases h2 : x.m.verdict = y.m.verdict
 rotate_left
 · go_wp2_with fail
   go_ret
   exact ⟨ret_b (Hall.out.2.1 h2), hbb⟩
 by_cases h3 : x.m.test = y.m.test
 rotate_left
 · go_wp2_with fail
   go_ret
   exact ⟨ret_b (Hall.out.2.2.1 h3), hbb⟩
 by_cases h4 : x.m.kind = y.m.kind
 rotate_left
 · have h4' := Lib.hid h4
   have h5 : (x.m.kind == y.m.kind) = false := by simpa using h4
   clear h4
   go_wp2_with fail
   go_ret
   exact ⟨ret_b (Hall.out.2.2.2.1 h4'.out), hbb⟩
 by_cases h5 : x.m.value = y.m.value
 rotate_left
 · have h5' := Lib.hid h5
   have h6 : (x.m.value == y.m.value) = false := by simpa using h5
   clear h5
   go_wp2_with fail
   go_ret
   exact ⟨ret_b (Hall.out.2.2.2.2.1 h5'.out), hbb⟩
 · go_wp2_with fail
   go_ret
   exact ⟨ret_b (Hall.out.2.2.2.2.2 h1 h2 h3 h4 h5), hbb⟩
end Go.Proofs.YtcgglolckkeeiaaGreat
namespace Go.Proofs.YtcgglolckkeeiaaGreat
open Go.RowKit Go.Deep
end Go.Proofs.YtcgglolckkeeiaaGreat
namespace Go.Proofs.YtcgglolckkeeiaaGreat
open Go.RowKit Go.Deep
theorem own_emptyS {W' : World} {B g size : Nat} {e : TypeId} (hB : B ≤ g) (h : Row W' g e #[]) : W'.ownsRow B e size (.slice (some ⟨g, 0, none⟩) 0 0) 0 [] :=
 ⟨by simp, .inr ⟨g, 0, #[], rfl, hB, h, Nat.le_refl _, Nat.zero_le _, by simp, by simp⟩⟩
theorem run_exec_bslice {P : Program} {o : Oper} {w w1 : World} {ρ : Operand → Value} {t : TypeId} {n : Nat} (ps : List (Nat × Operand)) (ho : o.op = .buildSlice t n ps.toArray) {v : Value} (hv : (Instr.buildSlice t n (ps.map fun (i, x) => (i, ρ x)).toArray).run P w = .ok v w1) : (execOp ρ o).run P w = .ok (.value v) w1 := by
 simp only [execOp, ho, Sem.run_bind, List.map_toArray, hv, Result.andThen_ok, Sem.run_pure]
theorem run_exec_append {P : Program} {o : Oper} {w w1 : World} {ρ : Operand → Value} {s x : Operand} {t : TypeId} (ho : o.op = .call { callee := .builtin .append, args := #[s, x], argTypes := #[t, t] }) {v : Value} (hv : (Builtin.append_ #[t, t] o.type #[ρ s, ρ x]).run P w = .ok v w1) : (execOp ρ o).run P w = .ok (.value v) w1 := by
 unfold execOp
 simp only [ho, resolve, invoke, builtin, Sem.run_bind, Sem.run_pure, Result.andThen_ok, List.map_toArray, List.map_cons, List.map_nil, hv]
theorem run_append_nil {P : Program} {w : World} {base size n c : Nat} {t ty e : TypeId} {i : TypeInfo} {v : Value} {xs : List Value} (ht : P.underlying t = some (.slice e)) (hi : P.info? e = some i) (hown : w.ownsRow base e size v n xs) : (Builtin.append_ #[t, t] ty #[v, .slice none 0 c]).run P w = .ok v w := by
 rcases hown.2 with ⟨rfl, rfl⟩ | ⟨g, cap, cur, rfl, _, _, hnc, _⟩
 · simp [Builtin.append_, run_underlying ht, sizeOf, typeInfo, hi, Builtin.lenOf, Builtin.firstCells]
 · simp [Builtin.append_, run_underlying ht, sizeOf, typeInfo, hi, Builtin.lenOf, Builtin.firstCells, hnc, storeCells]
theorem append_rd {P : Program} (t e : TypeId) (z : Value) (size bytes : Nat) (ht : P.underlying t = some (.slice e)) (hinf : (P.info? e).map (fun i => (i.zero, i.size, i.bytes)) = some (some z, size, bytes)) (hzs : z.cells.size = size) (hsz : 0 < size) (hby : bytes ≤ 100)
 {W : World} {B n m cap : Nat} {v : Value} {xs cs : List Value} {A : Option Addr} (hown : W.ownsRow B e size v n xs) (hB : B ≤ W.heap.size) (hr : Rd W A cs) (hlen : cs.length = m * size) (h1 : ∀ u ∈ cs, u.oneCell' = true) (hA : A = none → m = 0) (hb : n + m ≤ 1000000) :
 ∃ v' W', (Builtin.append_ #[t, t] t #[v, .slice A m cap]).run P W = .ok v' W' ∧ W'.ownsRow B e size v' (n + m) (xs ++ cs) ∧ W.grownBy W' v.ownBlock ∧ (v'.ownBlock = v.ownBlock ∨ v'.ownBlock = some W.heap.size) := by
 obtain ⟨i0, hi0, hz0, hz1, hz2⟩ := info_parts hinf
 rcases A with _ | ad
 · have h0 := hA rfl
   subst h0
   have hl : cs = [] := List.eq_nil_of_length_eq_zero (by simpa using hlen)
   subst hl
   exact ⟨v, W, run_append_nil ht hi0 hown, by simpa using hown, World.grownBy.refl _ _, .inl rfl⟩
 · obtain ⟨v', W', h1, h2, h3, _, h5⟩ := run_append_own_at (P := P) W B t t e i0 z size bytes ht hi0 hz0 hz1 hz2 hzs hsz v n xs hown ad m cap cs hlen
    (fun j u hj => by obtain ⟨ad', e, hc⟩ := hr j u hj; injection e with e; subst e; exact hc) h1 (by unfold maxLen; omega) (by have := Nat.mul_le_mul hb hby; omega) hB
   exact ⟨v', W', h1, h2, h3, h5⟩
end Go.Proofs.YtcgglolckkeeiaaGreat
