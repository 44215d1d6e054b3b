/- Lemmas for JnBll. -/
import Derived.Test.YtcgglolckkeeiaaGreatZk2
import Derived.Test.YtcgglolckkeeiaaGreatZk1
import Derived.ChangeMaps4
namespace Go.Proofs.YtcgglolckkeeiaaGreat
set_option linter.unusedVariables false
open Go.RowKit
mutual
def pathsT (own : List Int) (q : Nat) : Tr → List (Nat × List Int)
 | .node _ ks => (q, own) :: pathsK own (q + 1) 0 ks
def pathsK (own : List Int) (q : Nat) (i : Int) : List Tr → List (Nat × List Int)
 | [] => []
 | t :: ts => pathsT (own ++ [i]) q t ++ pathsK own (q + t.size) (i + 1) ts
end
mutual
theorem pathsT_len : ∀ (t : Tr) (own : List Int) (q : Nat), (pathsT own q t).length = t.size
 | .node x ks, own, q => by rw [pathsT, List.length_cons, pathsK_len ks, Tr.size, Tr.flat, List.length_cons]
theorem pathsK_len : ∀ (ts : List Tr) (own : List Int) (q : Nat) (i : Int), (pathsK own q i ts).length = (flats ts).length
 | [], _, _, _ => by simp [pathsK, flats]
 | t :: ts, own, q, i => by rw [pathsK, List.length_append, pathsT_len t, pathsK_len ts, flats, List.length_append]; rfl
end
mutual
theorem pathsT_at : ∀ (t : Tr) (own : List Int) (q j : Nat) (e : Nat × List Int), (pathsT own q t)[j]? = some e → e.1 = q + j
 | .node x ks, own, q, 0, e, h => by simp [pathsT] at h; subst h; rfl
 | .node x ks, own, q, j + 1, e, h => by
  rw [pathsT, List.getElem?_cons_succ] at h
  have := pathsK_at ks own (q + 1) 0 j e h
  omega
theorem pathsK_at : ∀ (ts : List Tr) (own : List Int) (q : Nat) (i : Int) (j : Nat) (e : Nat × List Int), (pathsK own q i ts)[j]? = some e → e.1 = q + j
 | [], _, _, _, _, _, h => by simp [pathsK] at h
 | t :: ts, own, q, i, j, e, h => by
  rw [pathsK] at h
  by_cases hj : j < t.size
  · rw [List.getElem?_append_left (by rw [pathsT_len]; exact hj)] at h
    exact pathsT_at t _ q j e h
  · rw [List.getElem?_append_right (by rw [pathsT_len]; omega), pathsT_len] at h
    have := pathsK_at ts own _ (i + 1) _ e h
    omega
end
def findP : List Int → Nat → Tr → Option (Nat × Tr)
 | [], q, t => some (q, t)
 | i :: π, q, .node _ ks => if i < 0 then none else match (spots (q + 1) ks)[i.toNat]?, ks[i.toNat]? with
  | some r, some k => findP π r k
  | _, _ => none
theorem findP_at {l : List Nd} : ∀ {π : List Int} {q r : Nat} {t k : Tr}, At l q t → findP π q t = some (r, k) → At l r k
 | [], q, r, t, k, h, e => by simp [findP] at e; obtain ⟨rfl, rfl⟩ := e; exact h
 | i :: π, q, r, .node x ks, k, h, e => by
  rw [findP] at e
  split at e
  · cases e
  · split at e
    · rename_i r1 k1 h1 h2
      exact findP_at (h.kids.spot i.toNat r1 k1 h1 h2).1 e
    · cases e
mutual
theorem pathsT_find : ∀ (t : Tr) (own : List Int) (q r : Nat) (π : List Int), (r, own ++ π) ∈ pathsT own q t ↔ ∃ k, findP π q t = some (r, k)
 | .node x ks, own, q, r, [] => by
  rw [pathsT, List.append_nil, List.mem_cons, findP]
  constructor
  · rintro (e | h)
    · injection e with e1 _; subst e1; exact ⟨_, rfl⟩
    · obtain ⟨j, ρ, e, _⟩ := pathsK_pre ks own (q + 1) 0 r own h
      have := congrArg List.length e
      simp at this
  · rintro ⟨k, e⟩
    injection e with e; injection e with e1 e2
    subst e1; exact .inl rfl
 | .node x ks, own, q, r, i :: π => by
  rw [pathsT, List.mem_cons, findP]
  have hne : (r, own ++ i :: π) ≠ (q, own) := fun e => by
   injection e with _ e
   have := congrArg List.length e
   simp at this
  rw [or_iff_right hne, pathsK_find ks own (q + 1) 0 r i π]
  constructor
  · rintro ⟨hi, s, k, h1, h2, k', h3⟩
    rw [Int.sub_zero] at h1 h2
    rw [if_neg (by omega), h1, h2]
    exact ⟨k', h3⟩
  · rintro ⟨k', h⟩
    split at h
    · cases h
    · split at h
      · rename_i s k h1 h2
        exact ⟨by omega, s, k, by rw [Int.sub_zero]; exact h1, by rw [Int.sub_zero]; exact h2, k', h⟩
      · cases h
theorem pathsK_pre : ∀ (ts : List Tr) (own : List Int) (q : Nat) (i : Int) (r : Nat) (σ : List Int), (r, σ) ∈ pathsK own q i ts → ∃ (j : Int) (ρ : List Int), σ = own ++ j :: ρ ∧ i ≤ j
 | [], _, _, _, _, _, h => by simp [pathsK] at h
 | t :: ts, own, q, i, r, σ, h => by
  rw [pathsK, List.mem_append] at h
  rcases h with h | h
  · obtain ⟨ρ, e⟩ := pathsT_pre t (own ++ [i]) q r σ h
    exact ⟨i, ρ, by rw [e]; simp, Int.le_refl _⟩
  · obtain ⟨j, ρ, e, hj⟩ := pathsK_pre ts own _ (i + 1) r σ h
    exact ⟨j, ρ, e, by omega⟩
theorem pathsT_pre : ∀ (t : Tr) (own : List Int) (q r : Nat) (σ : List Int), (r, σ) ∈ pathsT own q t → ∃ ρ, σ = own ++ ρ
 | .node x ks, own, q, r, σ, h => by
  rw [pathsT, List.mem_cons] at h
  rcases h with e | h
  · injection e with _ e; exact ⟨[], by rw [e]; simp⟩
  · obtain ⟨j, ρ, e, _⟩ := pathsK_pre ks own (q + 1) 0 r σ h
    exact ⟨j :: ρ, e⟩
theorem pathsK_find : ∀ (ts : List Tr) (own : List Int) (q : Nat) (i : Int) (r : Nat) (j : Int) (π : List Int), (r, own ++ j :: π) ∈ pathsK own q i ts ↔ i ≤ j ∧ ∃ s k, (spots q ts)[(j - i).toNat]? = some s ∧ ts[(j - i).toNat]? = some k ∧ ∃ k', findP π s k = some (r, k')
 | [], _, _, _, _, _, _ => by simp [pathsK]
 | t :: ts, own, q, i, r, j, π => by
  rw [pathsK, List.mem_append, pathsK_find ts own _ (i + 1) r j π]
  constructor
  · rintro (h | ⟨hi, s, k, h1, h2, h3⟩)
    · obtain ⟨ρ, e⟩ := pathsT_pre t (own ++ [i]) q r _ h
      rw [List.append_assoc, List.append_cancel_left_eq] at e
      injection e with e1 e2
      subst e1
      rw [show own ++ j :: π = (own ++ [j]) ++ π by simp] at h
      refine ⟨Int.le_refl _, q, t, by simp [spots], by simp, (pathsT_find t (own ++ [j]) q r π).1 h⟩
    · refine ⟨by omega, s, k, ?_, ?_, h3⟩
      · rw [show (j - i).toNat = (j - (i + 1)).toNat + 1 by omega, spots, List.getElem?_cons_succ]; exact h1
      · rw [show (j - i).toNat = (j - (i + 1)).toNat + 1 by omega, List.getElem?_cons_succ]; exact h2
  · rintro ⟨hi, s, k, h1, h2, h3⟩
    by_cases e : j = i
    · subst e
      rw [Int.sub_self] at h1 h2
      simp [spots] at h1 h2
      subst h1; subst h2
      refine .inl ?_
      rw [show own ++ j :: π = (own ++ [j]) ++ π by simp]
      exact (pathsT_find t (own ++ [j]) q r π).2 h3
    · refine .inr ⟨by omega, s, k, ?_, ?_, h3⟩
      · rw [show (j - i).toNat = (j - (i + 1)).toNat + 1 by omega, spots, List.getElem?_cons_succ] at h1; exact h1
      · rw [show (j - i).toNat = (j - (i + 1)).toNat + 1 by omega, List.getElem?_cons_succ] at h2; exact h2
end
theorem cmpL_app : ∀ (own a b : List Int), cmpL (own ++ a) (own ++ b) = cmpL a b
 | [], _, _ => rfl
 | x :: own, a, b => by rw [List.cons_append, List.cons_append, cmpL, cmpI_self, if_neg (by simp), cmpL_app own]
def riseL : List (Nat × List Int) → Prop
 | [] => True
 | a :: l => (∀ b ∈ l, cmpL a.2 b.2 < 0) ∧ riseL l
theorem riseL_append : ∀ {l m : List (Nat × List Int)}, riseL l → riseL m → (∀ a ∈ l, ∀ b ∈ m, cmpL a.2 b.2 < 0) → riseL (l ++ m)
 | [], m, _, h, _ => h
 | a :: l, m, h1, h2, h => ⟨fun b hb => by
  rcases List.mem_append.1 hb with hb | hb
  · exact h1.1 b hb
  · exact h a (by simp) b hb, riseL_append h1.2 h2 (fun x hx y hy => h x (by simp [hx]) y hy)⟩
mutual
theorem pathsT_rise : ∀ (t : Tr) (own : List Int) (q : Nat), riseL (pathsT own q t)
 | .node x ks, own, q => by
  rw [pathsT]
  refine ⟨fun b hb => ?_, pathsK_rise ks own (q + 1) 0⟩
  obtain ⟨r, σ⟩ := b
  obtain ⟨j, ρ, e, _⟩ := pathsK_pre ks own (q + 1) 0 r σ hb
  simp only
  rw [e, show cmpL own (own ++ j :: ρ) = cmpL (own ++ []) (own ++ j :: ρ) by rw [List.append_nil], cmpL_app]
  simp [cmpL]
theorem pathsK_rise : ∀ (ts : List Tr) (own : List Int) (q : Nat) (i : Int), riseL (pathsK own q i ts)
 | [], _, _, _ => trivial
 | t :: ts, own, q, i => by
  rw [pathsK]
  refine riseL_append (pathsT_rise t _ q) (pathsK_rise ts own _ (i + 1)) fun a ha b hb => ?_
  obtain ⟨r, σ⟩ := a
  obtain ⟨r', σ'⟩ := b
  obtain ⟨ρ, e⟩ := pathsT_pre t (own ++ [i]) q r σ ha
  obtain ⟨j, ρ', e', hj⟩ := pathsK_pre ts own _ (i + 1) r' σ' hb
  simp only
  have hij : cmpI i j < 0 := cmpI_lt.2 (by omega)
  rw [e, e', List.append_assoc, cmpL_app, List.cons_append, List.nil_append, cmpL, if_pos (by omega)]
  exact hij
end
end Go.Proofs.YtcgglolckkeeiaaGreat
namespace Go.Proofs.YtcgglolckkeeiaaGreat
set_option linter.unusedVariables false
open Go.RowKit
theorem riseI_pair : ∀ {l : List Int}, riseI l → l.Pairwise (· < ·)
 | [], _ => .nil
 | a :: l, h => .cons (fun b hb => riseI_head h hb) (riseI_pair (riseI_tail h))
theorem riseD_of {l : List Dl} (h : l.Pairwise fun a b => cmpD a b < 0) : riseD l := by
 induction h with
 | nil => trivial
 | @cons a l ha _ ih =>
  cases l with
  | nil => trivial
  | cons b l => exact ⟨ha b (by simp), ih⟩
theorem riseL_pair : ∀ {l : List (Nat × List Int)}, riseL l → l.Pairwise fun a b => cmpL a.2 b.2 < 0
 | [], _ => .nil
 | a :: l, h => .cons h.1 (riseL_pair h.2)
theorem choicesZ_rise (x y : Nd) : (choicesZ x y).Pairwise fun a b => a.1 < b.1 ∨ (a.1 = b.1 ∧ a.2 < b.2) := by
 unfold choicesZ
 rw [List.pairwise_flatMap]
 refine ⟨fun op _ => ?_, ?_⟩
 · rw [List.pairwise_map]
   exact (riseI_pair (filter_rise _ (sortU_rise _))).imp fun h => .inr ⟨rfl, h⟩
 · rw [List.pairwise_map]
   refine List.pairwise_lt_range.imp fun {i j} hij => ?_
   intro a ha b hb
   rw [List.mem_map] at ha hb
   obtain ⟨m, _, rfl⟩ := ha
   obtain ⟨n, _, rfl⟩ := hb
   exact .inl (by show (i : Int) + 1 < (j : Int) + 1; omega)
def ndAt (l : List Nd) (q : Nat) : Nd := (l[q]?).getD ⟨0, 0⟩
def choicesAt (l : List Nd) (q : Nat) : List (Int × Int) := choicesZ (ndAt l q) (ndAt l (q + 1))
def allZ (l : List Nd) (t : Tr) : List Dl := (pathsT [] 0 t).flatMap fun e => (choicesAt l e.1).map fun c => ⟨e.2, c.1, c.2⟩
theorem allZ_rise (l : List Nd) (t : Tr) : riseD (allZ l t) := by
 refine riseD_of ?_
 unfold allZ
 rw [List.pairwise_flatMap]
 refine ⟨fun e _ => ?_, ?_⟩
 · rw [List.pairwise_map]
   refine (choicesZ_rise _ _).imp fun {a b} h => ?_
   unfold cmpD orI
   simp only [cmpL_self]
   rw [if_neg (by simp)]
   rcases h with h | ⟨h1, h2⟩
   · have := cmpI_lt.2 h
     rw [if_pos (by omega)]; exact this
   · rw [if_neg (by simpa using cmpI_eq.2 h1)]; exact cmpI_lt.2 h2
 · refine (riseL_pair (pathsT_rise t [] 0)).imp fun {a b} h => ?_
   intro d hd e he
   rw [List.mem_map] at hd he
   obtain ⟨c, _, rfl⟩ := hd
   obtain ⟨c', _, rfl⟩ := he
   unfold cmpD orI
   simp only
   rw [if_pos (by omega)]; exact h
theorem allZ_mem {l : List Nd} {t : Tr} {d : Dl} : d ∈ allZ l t ↔ ∃ q k, findP d.path 0 t = some (q, k) ∧ (d.op, d.n) ∈ choicesAt l q := by
 unfold allZ
 rw [List.mem_flatMap]
 constructor
 · rintro ⟨⟨q, π⟩, h1, h2⟩
   rw [List.mem_map] at h2
   obtain ⟨c, hc, rfl⟩ := h2
   obtain ⟨k, hk⟩ := (pathsT_find t [] 0 q π).1 (by simpa using h1)
   exact ⟨q, k, hk, hc⟩
 · rintro ⟨q, k, h1, h2⟩
   refine ⟨(q, d.path), ?_, ?_⟩
   · have := (pathsT_find t [] 0 q d.path).2 ⟨k, h1⟩
     simpa using this
   · rw [List.mem_map]
     exact ⟨_, h2, rfl⟩
theorem rise_lo {l : List Dl} (h : riseD l) {m : Nat} {d e : Dl} (hm : l[m]? = some e) (hc : cmpD e d < 0) : ∀ i, l[i]? = some d → m < i := by
 intro i hi
 rcases Nat.lt_trichotomy m i with x | x | x
 · exact x
 · subst x; rw [hm] at hi; injection hi with hi; subst hi; rw [cmpD_self] at hc; omega
 · have := riseD_get h hi hm x
   rw [cmpD_neg] at this; omega
theorem rise_hi {l : List Dl} (h : riseD l) {m : Nat} {d e : Dl} (hm : l[m]? = some e) (hc : 0 < cmpD e d) : ∀ i, l[i]? = some d → i < m := by
 intro i hi
 rcases Nat.lt_trichotomy i m with x | x | x
 · exact x
 · subst x; rw [hm] at hi; injection hi with hi; subst hi; rw [cmpD_self] at hc; omega
 · have := riseD_get h hm hi x
   omega
end Go.Proofs.YtcgglolckkeeiaaGreat
namespace Go.Proofs.YtcgglolckkeeiaaGreat
set_option linter.unusedVariables false
open Go.RowKit Go.Deep
def MapB (w : World) (r : Nat) (es : List (Int × Value)) : Prop := ∃ (arr : Array MapEntry) (clock : Nat), w.heap[r]? = some (.map arr clock) ∧ arr.toList.map (fun e => (e.key, e.val)) = es.map (fun p => (Value.int .i64 p.1, p.2))
def assoc (k : Int) : List (Int × Value) → Option Value
 | [] => none
 | (k', v) :: es => if k = k' then some v else assoc k es
theorem MapB.lt {w : World} {r : Nat} {es : List (Int × Value)} (h : MapB w r es) : r < w.heap.size := by
 obtain ⟨arr, clock, he, _⟩ := h
 exact (Array.getElem?_eq_some_iff.1 he).1
theorem MapB.below {w w' : World} {r B : Nat} {es : List (Int × Value)} (h : MapB w r es) (b : Below B w w') (hr : r < B) : MapB w' r es := by
 obtain ⟨arr, clock, he, hm⟩ := h
 exact ⟨arr, clock, (b.block r hr).trans he, hm⟩
instance St.mapB {r : Nat} {es : List (Int × Value)} : St (fun W => MapB W r es) := ⟨fun h b => h.below b h.lt⟩
theorem findNow_int (k : Int) : ∀ (l : List MapEntry) (es : List (Int × Value)) (i : Nat), l.map (fun e => (e.key, e.val)) = es.map (fun p => (Value.int .i64 p.1, p.2)) →
 (match assoc k es with | some v => ∃ j, Instr.findNow (.int .i64) (.int .i64 k) l i = some (some (j, v)) | none => Instr.findNow (.int .i64) (.int .i64 k) l i = some none)
 | [], es, i, h => by
  have : es = [] := by simpa using h.symm
  subst this; rfl
 | e :: l, [], i, h => by simp at h
 | e :: l, (k', v) :: es, i, h => by
  simp only [List.map_cons, List.cons.injEq, Prod.mk.injEq] at h
  obtain ⟨⟨h1, h2⟩, h3⟩ := h
  have ih := findNow_int k l es (i + 1) h3
  have e1 : Instr.findNow (.int .i64) (.int .i64 k) (e :: l) i = match Instr.sameNow (.int .i64) (.int .i64 k) e.key with | some true => some (some (i, e.val)) | some false => Instr.findNow (.int .i64) (.int .i64 k) l (i + 1) | none => none := rfl
  rw [e1, h1]
  have e2 : Instr.sameNow (.int .i64) (.int .i64 k) (.int .i64 k') = some (k == k') := rfl
  rw [e2, assoc]
  by_cases hk : k = k'
  · rw [if_pos hk]
    refine ⟨i, ?_⟩
    rw [show (k == k') = true by simpa using hk, h2]
  · rw [if_neg hk, show (k == k') = false by simpa using hk]
    exact ih
section
variable {P : Program} {w : World} {t kt et : TypeId} {r : Nat} {es : List (Int × Value)}
theorem run_checkKey_int {b : Bool} {k : Int} (hk : P.underlying kt = some (.int .i64)) : (Instr.checkKey b 10000 kt (.int .i64 k)).run P w = .ok () w := by
 show (Instr.checkKey b (9999 + 1) kt (.int .i64 k)).run P w = .ok () w
 rw [Instr.checkKey]
 simp [run_underlying hk]
theorem run_lookup_map (ht : P.underlying t = some (.map kt et)) (hk : P.underlying kt = some (.int .i64)) (h : MapB w r es) (k : Int) {z : Value} (hz : (zeroValue et).run P w = .ok z w) :
 (Instr.lookup t (.map (some r)) (.int .i64 k) false).run P w = .ok ((assoc k es).getD z) w := by
 obtain ⟨arr, clock, he, hm⟩ := h
 have hf := findNow_int k arr.toList es 0 hm
 unfold Instr.lookup Instr.findKey
 cases ha : assoc k es with
 | some v =>
  rw [ha] at hf
  obtain ⟨j, hj⟩ := hf
  simp [run_underlying ht, run_underlying hk, run_checkKey_int hk, MapKept.run_getObj_map he, hj]
 | none =>
  rw [ha] at hf
  simp only at hf
  simp [run_underlying ht, run_underlying hk, run_checkKey_int hk, MapKept.run_getObj_map he, hf, hz]
theorem run_insert_map (ht : P.underlying t = some (.map kt et)) (hk : P.underlying kt = some (.int .i64)) (h : MapB w r es) (k : Int) (v : Value) (hn : assoc k es = none) :
 ∃ w', (Instr.mapUpdate t (.map (some r)) (.int .i64 k) v).run P w = .ok () w' ∧ MapB w' r (es ++ [(k, v)]) ∧ Only r w w' := by
 obtain ⟨arr, clock, he, hm⟩ := h
 have hf := findNow_int k arr.toList es 0 hm
 rw [hn] at hf
 simp only at hf
 have hlt : r < w.heap.size := (Array.getElem?_eq_some_iff.1 he).1
 refine ⟨{ w with heap := w.heap.setIfInBounds r (.map (arr.push { key := .int .i64 k, val := v, born := clock }) (clock + 1)) }, ?_, ⟨arr.push { key := .int .i64 k, val := v, born := clock }, clock + 1, ?_, ?_⟩, ⟨rfl, rfl, rfl, by simp, fun j hj => ?_⟩⟩
 · unfold Instr.mapUpdate Instr.findKey
   simp [run_underlying ht, run_underlying hk, run_checkKey_int hk, MapKept.run_getObj_map he, hf, MapKept.run_setObj_map _ he]
 · simp [hlt]
 · simp [hm]
 · simp [Array.getElem?_setIfInBounds]; intro e; exact absurd e.symm hj
theorem MapB.new (w : World) : MapB (w.alloc (.map #[] 0)) w.heap.size [] := ⟨#[], 0, heap_alloc_new w _, rfl⟩
end
section
variable {P : Program} {ops : Array Oper} {rest : List Oper} {o : Oper} {a : Act} {w : World} {Q : Exit → Act → World → Prop} {t kt et : TypeId} {r : Nat} {es : List (Int × Value)}
theorem run_exec_insert {ρ : Operand → Value} {m x y : Operand} (ho : o.op = .insert t m x y ∨ o.op = .mapUpdate t m x y) {k v : Value} {r : Value} (hm : ρ m = r) (hx : ρ x = k) (hy : ρ y = v) {w' : World} (h : (Instr.mapUpdate t r k v).run P w = .ok () w') : (execOp ρ o).run P w = .ok .skip w' := by
 rcases ho with ho | ho <;> simp [execOp, ho, hm, hx, hy, h]
theorem wpList_insert_map (hgd : o.guard = none) (m x y : Operand) (ho : o.op = .insert t m x y ∨ o.op = .mapUpdate t m x y) (ht : P.underlying t = some (.map kt et)) (hk : P.underlying kt = some (.int .i64)) (hb : MapB w r es) (hm : a.eval m = .map (some r)) (k : Int) (v : Value) (hx : a.eval x = .int .i64 k) (hy : a.eval y = v) (hn : assoc k es = none)
 (h : ∀ w', MapB w' r (es ++ [(k, v)]) → Only r w w' → wpList P ops Q rest (a.put o.dst undef) w') : wpList P ops Q (o :: rest) a w :=
 wpList_plain hgd fun _ hK => by
  obtain ⟨w', h1, h2, h3⟩ := run_insert_map ht hk hb k v hn
  unfold Oper.wp
  rw [run_exec_insert ho hm hx hy h1]
  exact hK _ _ (h w' h2 h3)
theorem wpList_lookup_map (hgd : o.guard = none) (m x : Operand) (ho : o.op = .lookup t m x false) (ht : P.underlying t = some (.map kt et)) (hk : P.underlying kt = some (.int .i64)) (hb : MapB w r es) (hm : a.eval m = .map (some r)) (k : Int) (hx : a.eval x = .int .i64 k) {z : Value} (hz : (zeroValue et).run P w = .ok z w)
 (h : wpList P ops Q rest (a.put o.dst ((assoc k es).getD z)) w) : wpList P ops Q (o :: rest) a w :=
 wpList_val hgd _ (by simp only [execOp, ho, hm, hx, Sem.run_bind, run_lookup_map ht hk hb k hz, Result.andThen_ok, Sem.run_pure]) h
end
end Go.Proofs.YtcgglolckkeeiaaGreat
