/- Lemmas for CoAll. -/
import Derived.Test.YtcgglolckkeeiaaGreatZo1
import Derived.Test.YtcgglolckkeeiaaGreatRows
import Derived.ChangeMaps4
import Derived.Lib.Hide
import Derived.IntWalk
set_option linter.unusedVariables false
set_option linter.unusedSimpArgs false
namespace Go.Proofs.YtcgglolckkeeiaaGreat
open Go.ChangeShapes Go.WideShapes Go.RowKit Go.Deep
theorem cells_int : Tryz.prog.cellsOf 3 = 1 := by kernel_rfl
end Go.Proofs.YtcgglolckkeeiaaGreat
namespace Go.Proofs.YtcgglolckkeeiaaGreat
open Go.RowKit Go.Deep
def MapB (w : World) (r : Nat) (es : List (Int × Value)) : Prop := ∃ (arr : Array MapEntry) (clock : Nat), w.heap[r]? = some (.map arr clock) ∧ arr.toList.map (fun e => (e.key, e.val)) = es.map (fun p => (Value.int .i64 p.1, p.2))
def assoc (k : Int) : List (Int × Value) → Option Value
 | [] => none
 | (k', v) :: es => if k = k' then some v else assoc k es
theorem MapB.lt {w : World} {r : Nat} {es : List (Int × Value)} (h : MapB w r es) : r < w.heap.size := by
 obtain ⟨arr, clock, he, _⟩ := h
 exact (Array.getElem?_eq_some_iff.1 he).1
theorem MapB.below {w w' : World} {r B : Nat} {es : List (Int × Value)} (h : MapB w r es) (b : Below B w w') (hr : r < B) : MapB w' r es := by
 obtain ⟨arr, clock, he, hm⟩ := h
 exact ⟨arr, clock, (b.block r hr).trans he, hm⟩
instance St.mapB {r : Nat} {es : List (Int × Value)} : St (fun W => MapB W r es) := ⟨fun h b => h.below b h.lt⟩
theorem findNow_int (k : Int) : ∀ (l : List MapEntry) (es : List (Int × Value)) (i : Nat), l.map (fun e => (e.key, e.val)) = es.map (fun p => (Value.int .i64 p.1, p.2)) →
 (match assoc k es with | some v => ∃ j, Instr.findNow (.int .i64) (.int .i64 k) l i = some (some (j, v)) | none => Instr.findNow (.int .i64) (.int .i64 k) l i = some none)
 | [], es, i, h => by
  have : es = [] := by simpa using h.symm
  subst this; rfl
 | e :: l, [], i, h => by simp at h
 | e :: l, (k', v) :: es, i, h => by
  simp only [List.map_cons, List.cons.injEq, Prod.mk.injEq] at h
  obtain ⟨⟨h1, h2⟩, h3⟩ := h
  have ih := findNow_int k l es (i + 1) h3
  have e1 : Instr.findNow (.int .i64) (.int .i64 k) (e :: l) i = match Instr.sameNow (.int .i64) (.int .i64 k) e.key with | some true => some (some (i, e.val)) | some false => Instr.findNow (.int .i64) (.int .i64 k) l (i + 1) | none => none := rfl
  rw [e1, h1]
  have e2 : Instr.sameNow (.int .i64) (.int .i64 k) (.int .i64 k') = some (k == k') := rfl
  rw [e2, assoc]
  by_cases hk : k = k'
  · rw [if_pos hk]
    refine ⟨i, ?_⟩
    rw [show (k == k') = true by simpa using hk, h2]
  · rw [if_neg hk, show (k == k') = false by simpa using hk]
    exact ih
section
variable {P : Program} {w : World} {t kt et : TypeId} {r : Nat} {es : List (Int × Value)}
theorem run_checkKey_int {b : Bool} {k : Int} (hk : P.underlying kt = some (.int .i64)) : (Instr.checkKey b 10000 kt (.int .i64 k)).run P w = .ok () w := by
 show (Instr.checkKey b (9999 + 1) kt (.int .i64 k)).run P w = .ok () w
 rw [Instr.checkKey]
 simp [run_underlying hk]
theorem run_lookup_map (ht : P.underlying t = some (.map kt et)) (hk : P.underlying kt = some (.int .i64)) (h : MapB w r es) (k : Int) {z : Value} (hz : (zeroValue et).run P w = .ok z w) :
 (Instr.lookup t (.map (some r)) (.int .i64 k) false).run P w = .ok ((assoc k es).getD z) w := by
 obtain ⟨arr, clock, he, hm⟩ := h
 have hf := findNow_int k arr.toList es 0 hm
 unfold Instr.lookup Instr.findKey
 cases ha : assoc k es with
 | some v =>
  rw [ha] at hf
  obtain ⟨j, hj⟩ := hf
  simp [run_underlying ht, run_underlying hk, run_checkKey_int hk, MapKept.run_getObj_map he, hj]
 | none =>
  rw [ha] at hf
  simp only at hf
  simp [run_underlying ht, run_underlying hk, run_checkKey_int hk, MapKept.run_getObj_map he, hf, hz]
theorem run_insert_map (ht : P.underlying t = some (.map kt et)) (hk : P.underlying kt = some (.int .i64)) (h : MapB w r es) (k : Int) (v : Value) (hn : assoc k es = none) :
 ∃ w', (Instr.mapUpdate t (.map (some r)) (.int .i64 k) v).run P w = .ok () w' ∧ MapB w' r (es ++ [(k, v)]) ∧ Only r w w' := by
 obtain ⟨arr, clock, he, hm⟩ := h
 have hf := findNow_int k arr.toList es 0 hm
 rw [hn] at hf
 simp only at hf
 have hlt : r < w.heap.size := (Array.getElem?_eq_some_iff.1 he).1
 refine ⟨{ w with heap := w.heap.setIfInBounds r (.map (arr.push { key := .int .i64 k, val := v, born := clock }) (clock + 1)) }, ?_, ⟨arr.push { key := .int .i64 k, val := v, born := clock }, clock + 1, ?_, ?_⟩, ⟨rfl, rfl, rfl, by simp, fun j hj => ?_⟩⟩
 · unfold Instr.mapUpdate Instr.findKey
   simp [run_underlying ht, run_underlying hk, run_checkKey_int hk, MapKept.run_getObj_map he, hf, MapKept.run_setObj_map _ he]
 · simp [hlt]
 · simp [hm]
 · simp [Array.getElem?_setIfInBounds]; intro e; exact absurd e.symm hj
theorem MapB.new (w : World) : MapB (w.alloc (.map #[] 0)) w.heap.size [] := ⟨#[], 0, heap_alloc_new w _, rfl⟩
end
section
variable {P : Program} {ops : Array Oper} {rest : List Oper} {o : Oper} {a : Act} {w : World} {Q : Exit → Act → World → Prop} {t kt et : TypeId} {r : Nat} {es : List (Int × Value)}
theorem run_exec_insert {ρ : Operand → Value} {m x y : Operand} (ho : o.op = .insert t m x y ∨ o.op = .mapUpdate t m x y) {k v : Value} {r : Value} (hm : ρ m = r) (hx : ρ x = k) (hy : ρ y = v) {w' : World} (h : (Instr.mapUpdate t r k v).run P w = .ok () w') : (execOp ρ o).run P w = .ok .skip w' := by
 rcases ho with ho | ho <;> simp [execOp, ho, hm, hx, hy, h]
theorem wpList_insert_map (hgd : o.guard = none) (m x y : Operand) (ho : o.op = .insert t m x y ∨ o.op = .mapUpdate t m x y) (ht : P.underlying t = some (.map kt et)) (hk : P.underlying kt = some (.int .i64)) (hb : MapB w r es) (hm : a.eval m = .map (some r)) (k : Int) (v : Value) (hx : a.eval x = .int .i64 k) (hy : a.eval y = v) (hn : assoc k es = none)
 (h : ∀ w', MapB w' r (es ++ [(k, v)]) → Only r w w' → wpList P ops Q rest (a.put o.dst undef) w') : wpList P ops Q (o :: rest) a w :=
 wpList_plain hgd fun _ hK => by
  obtain ⟨w', h1, h2, h3⟩ := run_insert_map ht hk hb k v hn
  unfold Oper.wp
  rw [run_exec_insert ho hm hx hy h1]
  exact hK _ _ (h w' h2 h3)
theorem wpList_lookup_map (hgd : o.guard = none) (m x : Operand) (ho : o.op = .lookup t m x false) (ht : P.underlying t = some (.map kt et)) (hk : P.underlying kt = some (.int .i64)) (hb : MapB w r es) (hm : a.eval m = .map (some r)) (k : Int) (hx : a.eval x = .int .i64 k) {z : Value} (hz : (zeroValue et).run P w = .ok z w)
 (h : wpList P ops Q rest (a.put o.dst ((assoc k es).getD z)) w) : wpList P ops Q (o :: rest) a w :=
 wpList_val hgd _ (by simp only [execOp, ho, hm, hx, Sem.run_bind, run_lookup_map ht hk hb k hz, Result.andThen_ok, Sem.run_pure]) h
end
end Go.Proofs.YtcgglolckkeeiaaGreat
namespace Go.Proofs.YtcgglolckkeeiaaGreat
structure Nd where
 tag : Int
 n : Int
def limitsZ (x : Nd) : Int × Int :=
 if x.tag = 2 then (1, 0) else if x.tag = 3 then (11, 0) else if x.tag = 4 ∨ x.tag = 21 then (11, 1) else if x.tag = 22 then (11, 2)
 else if x.tag = 5 ∨ x.tag = 6 ∨ x.tag = 25 then (0, 1) else if x.tag = 24 then (0, 2) else if x.tag = 20 then (200, x.n) else if x.tag = 23 then (0, 3)
 else if x.tag = 26 then (0, 0) else if 7 ≤ x.tag ∧ x.tag ≤ 19 then (0, 2) else (-1, -1)
def arityZ (x : Nd) : Int := if x.tag = 1 then 0 else if x.n < 0 ∨ (limitsZ x).1 < x.n then -1 else (limitsZ x).2
theorem limitsZ_bd (x : Nd) : (-1 ≤ (limitsZ x).2 ∧ (limitsZ x).2 ≤ 3) ∨ ((limitsZ x).1 = 200 ∧ (limitsZ x).2 = x.n) := by
 unfold limitsZ
 repeat' split
 all_goals (dsimp only; omega)
theorem arityZ_bd (x : Nd) : -1 ≤ arityZ x ∧ arityZ x ≤ 200 := by
 unfold arityZ
 have := limitsZ_bd x
 split
 · omega
 · split
   · omega
   · omega
def endW : List Nd → Nat → Option Nat
 | _, 0 => some 0
 | [], _ + 1 => none
 | x :: xs, w + 1 => if arityZ x < 0 then none else (endW xs (w + (arityZ x).toNat)).map (· + 1)
def endZ (l : List Nd) (at_ : Int) : Int := if at_ < 0 then -1 else match endW (l.drop at_.toNat) 1 with | none => -1 | some c => at_ + c
def placesZ (l : List Nd) : Nat → Int → List Int
 | 0, _ => []
 | k + 1, p => p :: placesZ l k (endZ l p)
def kidsZ (l : List Nd) (at_ : Int) : List Int := if endZ l at_ < 0 then [] else placesZ l (arityZ ((l[at_.toNat]?).getD ⟨0, 0⟩)).toNat (at_ + 1)
end Go.Proofs.YtcgglolckkeeiaaGreat
namespace Go.Proofs.YtcgglolckkeeiaaGreat
inductive Tr where
 | node (x : Nd) (kids : List Tr)
mutual
def Tr.flat : Tr → List Nd
 | .node x ks => x :: flats ks
def flats : List Tr → List Nd
 | [] => []
 | t :: ts => t.flat ++ flats ts
end
inductive Tr.fits : Tr → Prop
 | mk (x : Nd) (ks : List Tr) (h : arityZ x = (ks.length : Int)) (hk : ∀ k ∈ ks, k.fits) : Tr.fits (.node x ks)
theorem flats_append : ∀ (a b : List Tr), flats (a ++ b) = flats a ++ flats b
 | [], b => by simp [flats]
 | t :: a, b => by simp [flats, flats_append a b]
theorem endW_trees : ∀ (n : Nat) (l : List Nd) (w c : Nat), l.length ≤ n → endW l w = some c → ∃ ts : List Tr, ts.length = w ∧ (∀ t ∈ ts, t.fits) ∧ flats ts = l.take c
 | _, l, 0, c, _, h => by
  simp [endW] at h; subst h
  exact ⟨[], rfl, fun _ h => by simp at h, by simp [flats]⟩
 | _, [], w + 1, c, _, h => by simp [endW] at h
 | 0, x :: xs, w + 1, c, hn, h => by simp at hn
 | n + 1, x :: xs, w + 1, c, hn, h => by
  rw [endW] at h
  split at h
  · cases h
  · rename_i ha
    obtain ⟨c', h1, rfl⟩ := Option.map_eq_some_iff.1 h
    obtain ⟨ts, hl, hf, he⟩ := endW_trees n xs _ _ (by simpa using hn) h1
    refine ⟨.node x (ts.take (arityZ x).toNat) :: ts.drop (arityZ x).toNat, by simp [hl], fun t ht => ?_, ?_⟩
    · rcases List.mem_cons.1 ht with rfl | ht
      · refine .mk x _ (by rw [List.length_take, hl]; omega) (fun k hk => hf k (List.mem_of_mem_take hk))
      · exact hf t (List.mem_of_mem_drop ht)
    · rw [flats, Tr.flat, List.cons_append, ← flats_append, List.take_append_drop, he]; rfl
mutual
theorem endW_flat (x : Nd) (ks : List Tr) (h : (Tr.node x ks).fits) (w : Nat) (rest : List Nd) : endW ((Tr.node x ks).flat ++ rest) (w + 1) = (endW rest w).map (· + (Tr.node x ks).flat.length) := by
 cases h with
 | mk _ _ ha hk =>
  rw [Tr.flat, List.cons_append, endW, if_neg (by omega), ha, Int.toNat_natCast, Nat.add_comm w ks.length, endW_flats ks hk w rest]
  cases endW rest w with
  | none => rfl
  | some c => simp; omega
theorem endW_flats : ∀ (ks : List Tr), (∀ k ∈ ks, k.fits) → ∀ (w : Nat) (rest : List Nd), endW (flats ks ++ rest) (ks.length + w) = (endW rest w).map (· + (flats ks).length)
 | [], _, w, rest => by
  simp [flats]
 | .node x ks' :: ks, h, w, rest => by
  rw [flats, List.append_assoc, List.length_cons, show ks.length + 1 + w = (ks.length + w) + 1 by omega, endW_flat x ks' (h _ (by simp)) _ _, endW_flats ks (fun k hk => h k (by simp [hk])) w rest]
  cases endW rest w with
  | none => rfl
  | some c => simp; omega
end
end Go.Proofs.YtcgglolckkeeiaaGreat
namespace Go.Proofs.YtcgglolckkeeiaaGreat
def Tr.root : Tr → Nd
 | .node x _ => x
def Tr.kids : Tr → List Tr
 | .node _ ks => ks
def Tr.size (t : Tr) : Nat := t.flat.length
theorem Tr.flat_eq : ∀ t : Tr, t.flat = t.root :: flats t.kids
 | .node _ _ => by rw [Tr.flat]; rfl
theorem Tr.size_eq (t : Tr) : t.size = (flats t.kids).length + 1 := by rw [Tr.size, t.flat_eq]; simp
theorem Tr.fits.arity {t : Tr} (h : t.fits) : arityZ t.root = (t.kids.length : Int) := by cases h; assumption
theorem Tr.fits.kid {t : Tr} (h : t.fits) : ∀ k ∈ t.kids, k.fits := by cases h; assumption
theorem endW_tr (t : Tr) (h : t.fits) (w : Nat) (rest : List Nd) : endW (t.flat ++ rest) (w + 1) = (endW rest w).map (· + t.flat.length) := by
 cases t; exact endW_flat _ _ h w rest
structure At (l : List Nd) (p : Nat) (t : Tr) : Prop where
 fits : t.fits
 here : ∃ rest, l.drop p = t.flat ++ rest
structure Ats (l : List Nd) (p : Nat) (ts : List Tr) : Prop where
 fits : ∀ t ∈ ts, t.fits
 here : ∃ rest, l.drop p = flats ts ++ rest
section
variable {l : List Nd} {p : Nat} {t : Tr} {ts : List Tr}
theorem At.le (h : At l p t) : p + t.size ≤ l.length := by
 obtain ⟨rest, e⟩ := h.here
 have := congrArg List.length e
 rw [List.length_drop, List.length_append] at this
 have hs : t.size = t.flat.length := rfl
 have := t.size_eq
 omega
theorem At.lt (h : At l p t) : p < l.length := by have := h.le; have := t.size_eq; omega
theorem At.root (h : At l p t) : l[p]? = some t.root := by
 obtain ⟨rest, e⟩ := h.here
 have := congrArg List.head? e
 rw [List.head?_drop, t.flat_eq] at this
 simpa using this
theorem At.kids (h : At l p t) : Ats l (p + 1) t.kids := by
 obtain ⟨rest, e⟩ := h.here
 refine ⟨h.fits.kid, rest, ?_⟩
 rw [← List.drop_drop, e, t.flat_eq]; simp
theorem Ats.head {ts : List Tr} (h : Ats l p (t :: ts)) : At l p t := by
 obtain ⟨rest, e⟩ := h.here
 exact ⟨h.fits t (by simp), flats ts ++ rest, by rw [e, flats, List.append_assoc]⟩
theorem Ats.tail {ts : List Tr} (h : Ats l p (t :: ts)) : Ats l (p + t.size) ts := by
 obtain ⟨rest, e⟩ := h.here
 refine ⟨fun k hk => h.fits k (by simp [hk]), rest, ?_⟩
 rw [← List.drop_drop, e, flats, List.append_assoc]; simp [Tr.size]
theorem At.endZ (h : At l p t) : endZ l (p : Int) = ((p + t.size : Nat) : Int) := by
 obtain ⟨rest, e⟩ := h.here
 unfold Go.Proofs.YtcgglolckkeeiaaGreat.endZ
 rw [if_neg (by omega), Int.toNat_natCast, e, show (1 : Nat) = 0 + 1 from rfl, endW_tr t h.fits 0 rest]
 simp [endW, Tr.size]
theorem at_of_endZ {a : Int} (h : 0 ≤ endZ l a) : ∃ t, At l a.toNat t ∧ 0 ≤ a := by
 unfold Go.Proofs.YtcgglolckkeeiaaGreat.endZ at h
 by_cases h0 : a < 0
 · rw [if_pos h0] at h; omega
 · rw [if_neg h0] at h
   cases hw : endW (l.drop a.toNat) 1 with
   | none => rw [hw] at h; simp at h
   | some c =>
    obtain ⟨ts, hl, hf, he⟩ := endW_trees _ _ 1 c (Nat.le_refl _) hw
    match ts, hl with
    | [t], _ =>
     refine ⟨t, ⟨hf t (by simp), (l.drop a.toNat).drop c, ?_⟩, by omega⟩
     have : t.flat = (l.drop a.toNat).take c := by simpa [flats] using he
     rw [this, List.take_append_drop]
theorem endZ_neg {a : Int} (h : a < 0) : endZ l a = -1 := by unfold Go.Proofs.YtcgglolckkeeiaaGreat.endZ; rw [if_pos h]
def spots : Nat → List Tr → List Nat
 | _, [] => []
 | p, t :: ts => p :: spots (p + t.size) ts
theorem spots_len : ∀ (ts : List Tr) (p : Nat), (spots p ts).length = ts.length
 | [], _ => rfl
 | t :: ts, p => by simp [spots, spots_len ts]
theorem places_spots : ∀ {ts : List Tr} {p : Nat}, Ats l p ts → placesZ l ts.length (p : Int) = (spots p ts).map fun n : Nat => (n : Int)
 | [], _, _ => rfl
 | t :: ts, p, h => by
  rw [List.length_cons, placesZ, h.head.endZ, places_spots h.tail, spots]; rfl
theorem At.kidsZ (h : At l p t) : kidsZ l (p : Int) = (spots (p + 1) t.kids).map fun n : Nat => (n : Int) := by
 unfold Go.Proofs.YtcgglolckkeeiaaGreat.kidsZ
 rw [h.endZ, if_neg (by omega), Int.toNat_natCast, h.root, Option.getD_some, h.fits.arity, Int.toNat_natCast]
 have := places_spots h.kids
 rw [← this]; rfl
theorem Ats.spot : ∀ {ts : List Tr} {p : Nat}, Ats l p ts → ∀ (i q : Nat) (k : Tr), (spots p ts)[i]? = some q → ts[i]? = some k → At l q k ∧ p ≤ q
 | [], _, _, i, q, k, h, _ => by simp [spots] at h
 | t :: ts, p, h, 0, q, k, h1, h2 => by
  simp [spots] at h1 h2; subst h1 h2; exact ⟨h.head, Nat.le_refl _⟩
 | t :: ts, p, h, i + 1, q, k, h1, h2 => by
  simp [spots] at h1 h2
  obtain ⟨a, b⟩ := h.tail.spot i q k h1 h2
  exact ⟨a, by omega⟩
end
def sizeZ (t : Int) : Int := if 2 ≤ t ∧ t ≤ 9 then t - 1 else 0
def plainV (V : List Int) (n : Int) : Bool := match V[n.toNat]? with | some t => t == 0 || t == 1 | none => false
def arrayV (V : List Int) (n : Int) : Bool := match V[n.toNat]? with | some t => sizeZ t != 0 | none => false
def isZ (V : List Int) (x : Nd) : Int :=
 if x.tag = 1 then 0 else if x.tag = 2 then 1 else if x.tag = 3 then (if plainV V x.n then (V[x.n.toNat]?).getD 0 else -1)
 else if x.tag = 4 then (if arrayV V x.n then 0 else -1) else if x.tag = 5 then 0 else if x.tag = 6 then 1
 else if 7 ≤ x.tag ∧ x.tag ≤ 11 then 0 else if 12 ≤ x.tag ∧ x.tag ≤ 19 then 1
 else if x.tag = 21 then (if plainV V x.n then 2 else -1) else if x.tag = 22 then (if arrayV V x.n then 2 else -1) else 2
def wantZ (V : List Int) (x : Nd) (n : Nat) : List Int :=
 if x.tag = 4 ∨ x.tag = 5 ∨ x.tag = 25 then [0] else if x.tag = 6 then [1] else if 7 ≤ x.tag ∧ x.tag ≤ 17 ∨ x.tag = 22 then [0, 0] else if x.tag = 18 ∨ x.tag = 19 then [1, 1]
 else if x.tag = 21 then [(V[x.n.toNat]?).getD 0] else if x.tag = 23 then [1, 2, 2] else if x.tag = 24 then [1, 2]
 else if x.tag = 1 ∨ x.tag = 2 ∨ x.tag = 3 ∨ x.tag = 26 then [] else List.replicate n 2
def inner (x : Nd) : Bool := x.tag == 23 || x.tag == 24
mutual
def ofT (V : List Int) : Tr → Int
 | .node x ks => if isZ V x = -1 ∨ (wantZ V x ks.length).length ≠ ks.length then -1 else if okKids V (inner x) true ks (wantZ V x ks.length) then isZ V x else -1
def okKids (V : List Int) (inn : Bool) (first : Bool) : List Tr → List Int → Bool
 | [], _ => true
 | _ :: _, [] => true
 | t :: ts, k :: ks => ofT V t == k && (!(inn && !first) || t.root.tag == 20) && okKids V inn false ts ks
end
theorem plainV_get {V : List Int} {n : Int} (h : plainV V n = true) : ∃ t, V[n.toNat]? = some t ∧ (t = 0 ∨ t = 1) := by
 unfold plainV at h
 split at h
 · rename_i t ht; exact ⟨t, ht, by simpa using h⟩
 · cases h
end Go.Proofs.YtcgglolckkeeiaaGreat
namespace Go.Proofs.YtcgglolckkeeiaaGreat
open Go.RowKit
structure Ms where
 vals : List Int
 arrs : List (List Int)
 fuel : Nat
 steps : Nat
 evs : List EvV
 out : Option (Int × Int)
def Ms.stop (s : Ms) (k v : Int) : Ms := { s with out := some (k, v) }
def Ms.tick (s : Ms) : Ms := { s with fuel := s.fuel - 1, steps := s.steps + 1 }
def Ms.setv (s : Ms) (v a : Int) : Ms := { s with vals := s.vals.set v.toNat a, evs := s.evs ++ [⟨v, -1, a⟩] }
def Ms.arr (s : Ms) (v : Int) : List Int := (s.arrs[v.toNat]?).getD []
def Ms.seta (s : Ms) (v i a : Int) : Ms := { s with arrs := s.arrs.set v.toNat ((s.arr v).set i.toNat a), evs := s.evs ++ [⟨v, i, a⟩] }
def tr (b : Bool) : Int := if b then 1 else 0
def pairT (tag a b : Int) : Option Int :=
 if tag = 7 then some (wrap64 (a + b)) else if tag = 8 then some (wrap64 (a - b)) else if tag = 9 then some (wrap64 (a * b))
 else if tag = 10 then (if b = 0 then none else some (wrap64 (a.tdiv b))) else if tag = 11 then (if b = 0 then none else some (a.tmod b))
 else if tag = 12 then some (tr (decide (a = b))) else if tag = 13 then some (tr (decide (a ≠ b))) else if tag = 14 then some (tr (decide (a < b)))
 else if tag = 15 then some (tr (decide (a ≤ b))) else if tag = 16 then some (tr (decide (b < a))) else some (tr (decide (b ≤ a)))
theorem okKids_cons {V : List Int} {inn f : Bool} {t : Tr} {ts : List Tr} {k : Int} {ks : List Int} : okKids V inn f (t :: ts) (k :: ks) = (ofT V t == k && (!(inn && !f) || t.root.tag == 20) && okKids V inn false ts ks) := by rw [okKids]
theorem okKids_nil {V : List Int} {inn f : Bool} {ks : List Int} : okKids V inn f [] ks = true := by rw [okKids]
theorem arity_tag {x : Nd} (h : 0 ≤ arityZ x) : x.tag = 1 ∨ (0 ≤ x.n ∧ x.n ≤ (limitsZ x).1) := by
 unfold arityZ at h
 by_cases h1 : x.tag = 1
 · exact .inl h1
 · rw [if_neg h1] at h
   split at h
   · omega
   · right; omega
end Go.Proofs.YtcgglolckkeeiaaGreat
namespace Go.Proofs.YtcgglolckkeeiaaGreat
open Go.RowKit
def Ms.go (s : Ms) : Prop := s.out = none ∧ s.fuel ≠ 0
def deep (tag : Int) : Prop := ¬ (tag = 1 ∨ tag = 2 ∨ tag = 3 ∨ tag = 20 ∨ tag = 26)
def wide (tag : Int) : Prop := deep tag ∧ ¬ (tag = 4 ∨ tag = 5 ∨ tag = 6 ∨ tag = 18 ∨ tag = 19 ∨ tag = 21 ∨ tag = 23 ∨ tag = 24 ∨ tag = 25)
end Go.Proofs.YtcgglolckkeeiaaGreat
namespace Go.Proofs.YtcgglolckkeeiaaGreat
open Go.RowKit
end Go.Proofs.YtcgglolckkeeiaaGreat
namespace Go.Proofs.YtcgglolckkeeiaaGreat
open Go.RowKit
structure Fr where
 at_ : Nat
 t : Tr
 kid : Nat
 vals : List Int
structure Mm where
 s : Ms
 stack : List Fr
def enterM (p : Nat) (t : Tr) (m : Mm) : Mm := if m.s.fuel = 0 then ⟨m.s.stop 4 0, m.stack⟩ else ⟨m.s.tick, ⟨p, t, 0, []⟩ :: m.stack⟩
def Fr.told (f : Fr) (v : Int) : Fr := { f with vals := f.vals ++ [v] }
def Fr.more (f : Fr) : Fr := { f with kid := f.kid + 1 }
def told (k v : Int) : List Fr → List Fr
 | [] => []
 | f :: r => if k = 2 then f :: r else f.told v :: r
def short (tag v : Int) : Prop := tag = 18 ∧ v = 0 ∨ tag = 19 ∧ v = 1 ∨ tag = 24 ∧ v = 0
def asks (tag : Int) : Prop := tag = 18 ∨ tag = 19 ∨ tag = 24
structure NextK (f : Fr) (i : Nat) : Prop where
 lt : f.kid < f.t.kids.length
 how : (f.t.root.tag = 23 ∧ f.kid = 1 ∧ ∃ v vs, f.vals = v :: vs ∧ (v = 0 ∨ v = 1) ∧ (i : Int) = 2 - v) ∨ (i = f.kid ∧ ¬ (f.t.root.tag = 23 ∧ 1 ≤ f.kid) ∧ (f.kid = 1 → asks f.t.root.tag → ∃ v vs, f.vals = v :: vs ∧ ¬ short f.t.root.tag v))
structure NextNo (f : Fr) : Prop where
 how : (f.kid = 1 ∧ ∃ v vs, f.vals = v :: vs ∧ short f.t.root.tag v) ∨ (¬ (f.kid = 1 ∧ asks f.t.root.tag) ∧ ((f.t.root.tag = 23 ∧ 1 < f.kid) ∨ (f.t.root.tag ≠ 23 ∧ f.t.kids.length ≤ f.kid)))
inductive Fin : Fr → Ms → List Fr → Mm → Prop
 | lit (f : Fr) (s : Ms) (g : Fr) (r : List Fr) (h : f.t.root.tag = 1 ∨ f.t.root.tag = 2) : Fin f s (g :: r) ⟨s, g.told f.t.root.n :: r⟩
 | var (f : Fr) (s : Ms) (g : Fr) (r : List Fr) (v : Int) (h : f.t.root.tag = 3) (hn : 0 ≤ f.t.root.n) (hv : s.vals[f.t.root.n.toNat]? = some v) : Fin f s (g :: r) ⟨s, g.told v :: r⟩
 | atNo (f : Fr) (s : Ms) (r : List Fr) (i : Int) (vs : List Int) (h : f.t.root.tag = 4) (hn : 0 ≤ f.t.root.n) (hl : f.t.root.n.toNat < s.arrs.length) (hv : f.vals = i :: vs) (hb : i < 0 ∨ ((s.arr f.t.root.n).length : Int) ≤ i) : Fin f s r ⟨s.stop 2 0, r⟩
 | at_ (f : Fr) (s : Ms) (g : Fr) (r : List Fr) (i v : Int) (vs : List Int) (h : f.t.root.tag = 4) (hn : 0 ≤ f.t.root.n) (hl : f.t.root.n.toNat < s.arrs.length) (hv : f.vals = i :: vs) (hb : ¬ (i < 0 ∨ ((s.arr f.t.root.n).length : Int) ≤ i)) (hx : (s.arr f.t.root.n)[i.toNat]? = some v) : Fin f s (g :: r) ⟨s, g.told v :: r⟩
 | neg (f : Fr) (s : Ms) (g : Fr) (r : List Fr) (v : Int) (vs : List Int) (h : f.t.root.tag = 5) (hv : f.vals = v :: vs) : Fin f s (g :: r) ⟨s, g.told (wrap64 (-v)) :: r⟩
 | not (f : Fr) (s : Ms) (g : Fr) (r : List Fr) (v : Int) (vs : List Int) (h : f.t.root.tag = 6) (hv : f.vals = v :: vs) (h01 : v = 0 ∨ v = 1) : Fin f s (g :: r) ⟨s, g.told (1 - v) :: r⟩
 | logic (f : Fr) (s : Ms) (g : Fr) (r : List Fr) (v : Int) (vs : List Int) (h : f.t.root.tag = 18 ∨ f.t.root.tag = 19) (hv : f.vals = vs ++ [v]) : Fin f s (g :: r) ⟨s, g.told v :: r⟩
 | set (f : Fr) (s : Ms) (r : List Fr) (v : Int) (vs : List Int) (h : f.t.root.tag = 21) (hn : 0 ≤ f.t.root.n) (hl : f.t.root.n.toNat < s.vals.length) (hv : f.vals = v :: vs) : Fin f s r ⟨s.setv f.t.root.n v, r⟩
 | putNo (f : Fr) (s : Ms) (r : List Fr) (i v : Int) (vs : List Int) (h : f.t.root.tag = 22) (hn : 0 ≤ f.t.root.n) (hl : f.t.root.n.toNat < s.arrs.length) (hv : f.vals = i :: v :: vs) (hb : i < 0 ∨ ((s.arr f.t.root.n).length : Int) ≤ i) : Fin f s r ⟨s.stop 2 0, r⟩
 | put (f : Fr) (s : Ms) (r : List Fr) (i v : Int) (vs : List Int) (h : f.t.root.tag = 22) (hn : 0 ≤ f.t.root.n) (hl : f.t.root.n.toNat < s.arrs.length) (hv : f.vals = i :: v :: vs) (hb : ¬ (i < 0 ∨ ((s.arr f.t.root.n).length : Int) ≤ i)) : Fin f s r ⟨s.seta f.t.root.n i v, r⟩
 | while1 (f : Fr) (s : Ms) (r : List Fr) (vs : List Int) (h : f.t.root.tag = 24) (hv : f.vals = 1 :: vs) : Fin f s r (enterM f.at_ f.t ⟨s, r⟩)
 | while0 (f : Fr) (s : Ms) (r : List Fr) (v : Int) (vs : List Int) (h : f.t.root.tag = 24) (hv : f.vals = v :: vs) (h1 : v ≠ 1) : Fin f s r ⟨s, r⟩
 | ret (f : Fr) (s : Ms) (r : List Fr) (v : Int) (vs : List Int) (h : f.t.root.tag = 25) (hv : f.vals = v :: vs) : Fin f s r ⟨s.stop 0 v, r⟩
 | nothing (f : Fr) (s : Ms) (r : List Fr) (h : f.t.root.tag = 20 ∨ f.t.root.tag = 23 ∨ f.t.root.tag = 26) : Fin f s r ⟨s, r⟩
 | pairNo (f : Fr) (s : Ms) (r : List Fr) (a b : Int) (vs : List Int) (h : 7 ≤ f.t.root.tag ∧ f.t.root.tag ≤ 17) (hv : f.vals = a :: b :: vs) (hp : pairT f.t.root.tag a b = none) : Fin f s r ⟨s.stop 1 0, r⟩
 | pair (f : Fr) (s : Ms) (g : Fr) (r : List Fr) (a b c : Int) (vs : List Int) (h : 7 ≤ f.t.root.tag ∧ f.t.root.tag ≤ 17) (hv : f.vals = a :: b :: vs) (hp : pairT f.t.root.tag a b = some c) : Fin f s (g :: r) ⟨s, g.told c :: r⟩
inductive Step : Mm → Mm → Prop
 | done (s : Ms) : Step ⟨s, []⟩ ⟨s.stop 3 0, []⟩
 | kid (s : Ms) (f : Fr) (r : List Fr) (i q : Nat) (k : Tr) (hi : NextK f i) (hq : (spots (f.at_ + 1) f.t.kids)[i]? = some q) (hk : f.t.kids[i]? = some k) : Step ⟨s, f :: r⟩ (enterM q k ⟨s, f.more :: r⟩)
 | fin (s : Ms) (f : Fr) (r : List Fr) (m : Mm) (hn : NextNo f) (hf : Fin f s r m) : Step ⟨s, f :: r⟩ m
inductive Reach : Mm → Mm → Prop
 | refl (m : Mm) : Reach m m
 | step (m m' m'' : Mm) (ho : m.s.out = none) (h : Step m m') (r : Reach m' m'') : Reach m m''
theorem Reach.trans {a b c : Mm} (h : Reach a b) (k : Reach b c) : Reach a c := by
 induction h with
 | refl m => exact k
 | step m m' m'' ho h _ ih => exact .step m m' _ ho h (ih k)
theorem Reach.one {a b : Mm} (ho : a.s.out = none) (h : Step a b) : Reach a b := .step _ _ _ ho h (.refl _)
theorem spot_ex {p : Nat} {ts : List Tr} {i : Nat} {k : Tr} (h : ts[i]? = some k) : ∃ q, (spots p ts)[i]? = some q :=
 ⟨_, List.getElem?_eq_getElem (by rw [spots_len]; exact (List.getElem?_eq_some_iff.1 h).1)⟩
end Go.Proofs.YtcgglolckkeeiaaGreat
namespace Go.Proofs.YtcgglolckkeeiaaGreat
open Go.RowKit
structure LenS (V : List Int) (s : Ms) : Prop where
 vlen : s.vals.length = V.length
 alen : s.arrs.length = V.length
 len : ∀ (i : Nat) (t : Int) (a : List Int), V[i]? = some t → s.arrs[i]? = some a → (a.length : Int) = sizeZ t
theorem LenS.arr_len {V : List Int} {s : Ms} (h : LenS V s) {n t : Int} (hv : V[n.toNat]? = some t) : ((s.arr n).length : Int) = sizeZ t := by
 have hlt : n.toNat < V.length := (List.getElem?_eq_some_iff.1 hv).1
 have ha : s.arrs[n.toNat]? = some (s.arrs[n.toNat]'(by rw [h.alen]; exact hlt)) := List.getElem?_eq_getElem _
 unfold Ms.arr
 rw [ha]
 exact h.len _ _ _ hv ha
theorem LenS.stop {V : List Int} {s : Ms} (h : LenS V s) (k v : Int) : LenS V (s.stop k v) := ⟨h.vlen, h.alen, h.len⟩
theorem LenS.tick {V : List Int} {s : Ms} (h : LenS V s) : LenS V s.tick := ⟨h.vlen, h.alen, h.len⟩
theorem LenS.setv {V : List Int} {s : Ms} (h : LenS V s) (n v : Int) : LenS V (s.setv n v) := ⟨by simp [Ms.setv, h.vlen], h.alen, h.len⟩
theorem LenS.seta {V : List Int} {s : Ms} (h : LenS V s) (n i v : Int) : LenS V (s.seta n i v) := by
 refine ⟨h.vlen, by simp [Ms.seta, h.alen], fun j t a hj ha => ?_⟩
 have hlt : j < s.arrs.length := by rw [h.alen]; exact (List.getElem?_eq_some_iff.1 hj).1
 simp only [Ms.seta] at ha
 by_cases e : n.toNat = j
 · subst e
   rw [List.getElem?_set_self hlt] at ha
   injection ha with ha
   subst ha
   rw [List.length_set]
   exact h.arr_len hj
 · rw [List.getElem?_set_ne e] at ha
   exact h.len j t a hj ha
structure FOk (l : List Nd) (f : Fr) : Prop where
 hat : At l f.at_ f.t
 kid : f.kid ≤ f.t.kids.length
 vals : f.vals.length ≤ f.kid
structure SOk (l : List Nd) (st : List Fr) : Prop where
 top : ∀ f r, st = f :: r → FOk l f
 rest : ∀ f r, st = f :: r → ∀ g ∈ r, FOk l g ∧ g.vals.length + 1 ≤ g.kid
theorem SOk.nil (l : List Nd) : SOk l [] := ⟨fun _ _ h => by simp at h, fun _ _ h => by simp at h⟩
theorem SOk.tail {l : List Nd} {f : Fr} {r : List Fr} (h : SOk l (f :: r)) : SOk l r :=
 ⟨fun g r' e => (h.rest f r rfl g (by rw [e]; simp)).1, fun g r' e k hk => h.rest f r rfl k (by rw [e]; simp [hk])⟩
theorem SOk.told {l : List Nd} {f g : Fr} {r : List Fr} (h : SOk l (f :: g :: r)) (v : Int) : SOk l (g.told v :: r) := by
 have hg := h.rest f (g :: r) rfl g (by simp)
 refine ⟨fun a b e => ?_, fun a b e k hk => ?_⟩
 · injection e with e1 e2; subst e1
   exact ⟨hg.1.hat, hg.1.kid, by simp only [Fr.told, List.length_append, List.length_singleton]; exact hg.2⟩
 · injection e with e1 e2; subst e2
   exact h.rest f (g :: r) rfl k (by simp [hk])
theorem SOk.enter {l : List Nd} {s : Ms} {r : List Fr} (h : SOk l r) (h1 : ∀ g ∈ r, g.vals.length + 1 ≤ g.kid ∧ FOk l g) {q : Nat} {t : Tr} (hat : At l q t) : SOk l (enterM q t ⟨s, r⟩).stack := by
 unfold enterM
 split
 · exact h
 · refine ⟨fun a b e => ?_, fun a b e k hk => ?_⟩
   · injection e with e1 e2; subst e1; exact ⟨hat, Nat.zero_le _, Nat.le_refl _⟩
   · injection e with e1 e2; subst e2; exact ⟨(h1 k hk).2, (h1 k hk).1⟩
theorem LenS.enter {V : List Int} {s : Ms} {r : List Fr} (h : LenS V s) {q : Nat} {t : Tr} : LenS V (enterM q t ⟨s, r⟩).s := by
 unfold enterM
 split
 · exact h.stop _ _
 · exact h.tick
theorem Fin.ok {l : List Nd} {V : List Int} {f : Fr} {s : Ms} {r : List Fr} {m : Mm} (h : Fin f s r m) (hs : SOk l (f :: r)) (hl : LenS V s) : SOk l m.stack ∧ LenS V m.s := by
 have ht := hs.tail
 cases h with
 | lit => exact ⟨hs.told _, hl⟩
 | var => exact ⟨hs.told _, hl⟩
 | atNo => exact ⟨ht, hl.stop _ _⟩
 | at_ => exact ⟨hs.told _, hl⟩
 | neg => exact ⟨hs.told _, hl⟩
 | not => exact ⟨hs.told _, hl⟩
 | logic => exact ⟨hs.told _, hl⟩
 | set => exact ⟨ht, hl.setv _ _⟩
 | putNo => exact ⟨ht, hl.stop _ _⟩
 | put => exact ⟨ht, hl.seta _ _ _⟩
 | while1 => exact ⟨ht.enter (fun g hg => ⟨(hs.rest f _ rfl g hg).2, (hs.rest f _ rfl g hg).1⟩) (hs.top f _ rfl).hat, hl.enter⟩
 | while0 => exact ⟨ht, hl⟩
 | ret => exact ⟨ht, hl.stop _ _⟩
 | nothing => exact ⟨ht, hl⟩
 | pairNo => exact ⟨ht, hl.stop _ _⟩
 | pair => exact ⟨hs.told _, hl⟩
theorem Step.ok {l : List Nd} {V : List Int} {m m' : Mm} (h : Step m m') (hs : SOk l m.stack) (hl : LenS V m.s) : SOk l m'.stack ∧ LenS V m'.s := by
 cases h with
 | done s => exact ⟨SOk.nil l, hl.stop _ _⟩
 | kid s f r i q k hi hq hk =>
  have hf := hs.top f r rfl
  have hk2 := (hf.hat.kids.spot i q k hq hk).1
  have hlt := hi.lt
  have hm : SOk l (f.more :: r) := ⟨fun a b e => by injection e with e1 e2; subst e1; exact ⟨hf.hat, by simp only [Fr.more]; omega, by have := hf.vals; simp only [Fr.more]; omega⟩, fun a b e g hg => by injection e with e1 e2; subst e2; exact hs.rest f r rfl g hg⟩
  refine ⟨hm.enter (fun g hg => ?_) hk2, hl.enter⟩
  rcases List.mem_cons.1 hg with rfl | hg
  · exact ⟨by have := hf.vals; simp only [Fr.more]; omega, hm.top _ _ rfl⟩
  · exact ⟨(hs.rest f r rfl g hg).2, (hs.rest f r rfl g hg).1⟩
 | fin s f r m' hn hf => exact hf.ok hs hl
end Go.Proofs.YtcgglolckkeeiaaGreat
namespace Go.Proofs.YtcgglolckkeeiaaGreat
open Go.RowKit
end Go.Proofs.YtcgglolckkeeiaaGreat
