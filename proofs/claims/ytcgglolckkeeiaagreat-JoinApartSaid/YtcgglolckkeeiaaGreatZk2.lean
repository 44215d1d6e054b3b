/- Lemmas for JnBll. -/
import Derived.Test.YtcgglolckkeeiaaGreatZk1
import Derived.Lib.Hide
import Derived.IntWalk
namespace Go.Proofs.YtcgglolckkeeiaaGreat
set_option linter.unusedVariables false
structure Nd where
 tag : Int
 n : Int
def limitsZ (x : Nd) : Int × Int :=
 if x.tag = 2 then (1, 0) else if x.tag = 3 then (11, 0) else if x.tag = 4 ∨ x.tag = 21 then (11, 1) else if x.tag = 22 then (11, 2)
 else if x.tag = 5 ∨ x.tag = 6 ∨ x.tag = 25 then (0, 1) else if x.tag = 24 then (0, 2) else if x.tag = 20 then (200, x.n) else if x.tag = 23 then (0, 3)
 else if x.tag = 26 then (0, 0) else if 7 ≤ x.tag ∧ x.tag ≤ 19 then (0, 2) else (-1, -1)
def arityZ (x : Nd) : Int := if x.tag = 1 then 0 else if x.n < 0 ∨ (limitsZ x).1 < x.n then -1 else (limitsZ x).2
theorem limitsZ_bd (x : Nd) : (-1 ≤ (limitsZ x).2 ∧ (limitsZ x).2 ≤ 3) ∨ ((limitsZ x).1 = 200 ∧ (limitsZ x).2 = x.n) := by
 unfold limitsZ
 repeat' split
 all_goals (dsimp only; omega)
theorem arityZ_bd (x : Nd) : -1 ≤ arityZ x ∧ arityZ x ≤ 200 := by
 unfold arityZ
 have := limitsZ_bd x
 split
 · omega
 · split
   · omega
   · omega
def endW : List Nd → Nat → Option Nat
 | _, 0 => some 0
 | [], _ + 1 => none
 | x :: xs, w + 1 => if arityZ x < 0 then none else (endW xs (w + (arityZ x).toNat)).map (· + 1)
def endZ (l : List Nd) (at_ : Int) : Int := if at_ < 0 then -1 else match endW (l.drop at_.toNat) 1 with | none => -1 | some c => at_ + c
def placesZ (l : List Nd) : Nat → Int → List Int
 | 0, _ => []
 | k + 1, p => p :: placesZ l k (endZ l p)
def kidsZ (l : List Nd) (at_ : Int) : List Int := if endZ l at_ < 0 then [] else placesZ l (arityZ ((l[at_.toNat]?).getD ⟨0, 0⟩)).toNat (at_ + 1)
end Go.Proofs.YtcgglolckkeeiaaGreat
namespace Go.Proofs.YtcgglolckkeeiaaGreat
set_option linter.unusedVariables false
inductive Tr where
 | node (x : Nd) (kids : List Tr)
mutual
def Tr.flat : Tr → List Nd
 | .node x ks => x :: flats ks
def flats : List Tr → List Nd
 | [] => []
 | t :: ts => t.flat ++ flats ts
end
inductive Tr.fits : Tr → Prop
 | mk (x : Nd) (ks : List Tr) (h : arityZ x = (ks.length : Int)) (hk : ∀ k ∈ ks, k.fits) : Tr.fits (.node x ks)
theorem flats_append : ∀ (a b : List Tr), flats (a ++ b) = flats a ++ flats b
 | [], b => by simp [flats]
 | t :: a, b => by simp [flats, flats_append a b]
theorem endW_trees : ∀ (n : Nat) (l : List Nd) (w c : Nat), l.length ≤ n → endW l w = some c → ∃ ts : List Tr, ts.length = w ∧ (∀ t ∈ ts, t.fits) ∧ flats ts = l.take c
 | _, l, 0, c, _, h => by
  simp [endW] at h; subst h
  exact ⟨[], rfl, fun _ h => by simp at h, by simp [flats]⟩
 | _, [], w + 1, c, _, h => by simp [endW] at h
 | 0, x :: xs, w + 1, c, hn, h => by simp at hn
 | n + 1, x :: xs, w + 1, c, hn, h => by
  rw [endW] at h
  split at h
  · cases h
  · rename_i ha
    obtain ⟨c', h1, rfl⟩ := Option.map_eq_some_iff.1 h
    obtain ⟨ts, hl, hf, he⟩ := endW_trees n xs _ _ (by simpa using hn) h1
    refine ⟨.node x (ts.take (arityZ x).toNat) :: ts.drop (arityZ x).toNat, by simp [hl], fun t ht => ?_, ?_⟩
    · rcases List.mem_cons.1 ht with rfl | ht
      · refine .mk x _ (by rw [List.length_take, hl]; omega) (fun k hk => hf k (List.mem_of_mem_take hk))
      · exact hf t (List.mem_of_mem_drop ht)
    · rw [flats, Tr.flat, List.cons_append, ← flats_append, List.take_append_drop, he]; rfl
mutual
theorem endW_flat (x : Nd) (ks : List Tr) (h : (Tr.node x ks).fits) (w : Nat) (rest : List Nd) : endW ((Tr.node x ks).flat ++ rest) (w + 1) = (endW rest w).map (· + (Tr.node x ks).flat.length) := by
 cases h with
 | mk _ _ ha hk =>
  rw [Tr.flat, List.cons_append, endW, if_neg (by omega), ha, Int.toNat_natCast, Nat.add_comm w ks.length, endW_flats ks hk w rest]
  cases endW rest w with
  | none => rfl
  | some c => simp; omega
theorem endW_flats : ∀ (ks : List Tr), (∀ k ∈ ks, k.fits) → ∀ (w : Nat) (rest : List Nd), endW (flats ks ++ rest) (ks.length + w) = (endW rest w).map (· + (flats ks).length)
 | [], _, w, rest => by
  simp [flats]
 | .node x ks' :: ks, h, w, rest => by
  rw [flats, List.append_assoc, List.length_cons, show ks.length + 1 + w = (ks.length + w) + 1 by omega, endW_flat x ks' (h _ (by simp)) _ _, endW_flats ks (fun k hk => h k (by simp [hk])) w rest]
  cases endW rest w with
  | none => rfl
  | some c => simp; omega
end
end Go.Proofs.YtcgglolckkeeiaaGreat
namespace Go.Proofs.YtcgglolckkeeiaaGreat
set_option linter.unusedVariables false
def Tr.root : Tr → Nd
 | .node x _ => x
def Tr.kids : Tr → List Tr
 | .node _ ks => ks
def Tr.size (t : Tr) : Nat := t.flat.length
theorem Tr.flat_eq : ∀ t : Tr, t.flat = t.root :: flats t.kids
 | .node _ _ => by rw [Tr.flat]; rfl
theorem Tr.size_eq (t : Tr) : t.size = (flats t.kids).length + 1 := by rw [Tr.size, t.flat_eq]; simp
theorem Tr.fits.arity {t : Tr} (h : t.fits) : arityZ t.root = (t.kids.length : Int) := by cases h; assumption
theorem Tr.fits.kid {t : Tr} (h : t.fits) : ∀ k ∈ t.kids, k.fits := by cases h; assumption
theorem endW_tr (t : Tr) (h : t.fits) (w : Nat) (rest : List Nd) : endW (t.flat ++ rest) (w + 1) = (endW rest w).map (· + t.flat.length) := by
 cases t; exact endW_flat _ _ h w rest
structure At (l : List Nd) (p : Nat) (t : Tr) : Prop where
 fits : t.fits
 here : ∃ rest, l.drop p = t.flat ++ rest
structure Ats (l : List Nd) (p : Nat) (ts : List Tr) : Prop where
 fits : ∀ t ∈ ts, t.fits
 here : ∃ rest, l.drop p = flats ts ++ rest
section
variable {l : List Nd} {p : Nat} {t : Tr} {ts : List Tr}
theorem At.le (h : At l p t) : p + t.size ≤ l.length := by
 obtain ⟨rest, e⟩ := h.here
 have := congrArg List.length e
 rw [List.length_drop, List.length_append] at this
 have hs : t.size = t.flat.length := rfl
 have := t.size_eq
 omega
theorem At.lt (h : At l p t) : p < l.length := by have := h.le; have := t.size_eq; omega
theorem At.root (h : At l p t) : l[p]? = some t.root := by
 obtain ⟨rest, e⟩ := h.here
 have := congrArg List.head? e
 rw [List.head?_drop, t.flat_eq] at this
 simpa using this
theorem At.kids (h : At l p t) : Ats l (p + 1) t.kids := by
 obtain ⟨rest, e⟩ := h.here
 refine ⟨h.fits.kid, rest, ?_⟩
 rw [← List.drop_drop, e, t.flat_eq]; simp
theorem Ats.head {ts : List Tr} (h : Ats l p (t :: ts)) : At l p t := by
 obtain ⟨rest, e⟩ := h.here
 exact ⟨h.fits t (by simp), flats ts ++ rest, by rw [e, flats, List.append_assoc]⟩
theorem Ats.tail {ts : List Tr} (h : Ats l p (t :: ts)) : Ats l (p + t.size) ts := by
 obtain ⟨rest, e⟩ := h.here
 refine ⟨fun k hk => h.fits k (by simp [hk]), rest, ?_⟩
 rw [← List.drop_drop, e, flats, List.append_assoc]; simp [Tr.size]
theorem At.endZ (h : At l p t) : endZ l (p : Int) = ((p + t.size : Nat) : Int) := by
 obtain ⟨rest, e⟩ := h.here
 unfold Go.Proofs.YtcgglolckkeeiaaGreat.endZ
 rw [if_neg (by omega), Int.toNat_natCast, e, show (1 : Nat) = 0 + 1 from rfl, endW_tr t h.fits 0 rest]
 simp [endW, Tr.size]
theorem at_of_endZ {a : Int} (h : 0 ≤ endZ l a) : ∃ t, At l a.toNat t ∧ 0 ≤ a := by
 unfold Go.Proofs.YtcgglolckkeeiaaGreat.endZ at h
 by_cases h0 : a < 0
 · rw [if_pos h0] at h; omega
 · rw [if_neg h0] at h
   cases hw : endW (l.drop a.toNat) 1 with
   | none => rw [hw] at h; simp at h
   | some c =>
    obtain ⟨ts, hl, hf, he⟩ := endW_trees _ _ 1 c (Nat.le_refl _) hw
    match ts, hl with
    | [t], _ =>
     refine ⟨t, ⟨hf t (by simp), (l.drop a.toNat).drop c, ?_⟩, by omega⟩
     have : t.flat = (l.drop a.toNat).take c := by simpa [flats] using he
     rw [this, List.take_append_drop]
theorem endZ_neg {a : Int} (h : a < 0) : endZ l a = -1 := by unfold Go.Proofs.YtcgglolckkeeiaaGreat.endZ; rw [if_pos h]
def spots : Nat → List Tr → List Nat
 | _, [] => []
 | p, t :: ts => p :: spots (p + t.size) ts
theorem spots_len : ∀ (ts : List Tr) (p : Nat), (spots p ts).length = ts.length
 | [], _ => rfl
 | t :: ts, p => by simp [spots, spots_len ts]
theorem places_spots : ∀ {ts : List Tr} {p : Nat}, Ats l p ts → placesZ l ts.length (p : Int) = (spots p ts).map fun n : Nat => (n : Int)
 | [], _, _ => rfl
 | t :: ts, p, h => by
  rw [List.length_cons, placesZ, h.head.endZ, places_spots h.tail, spots]; rfl
theorem At.kidsZ (h : At l p t) : kidsZ l (p : Int) = (spots (p + 1) t.kids).map fun n : Nat => (n : Int) := by
 unfold Go.Proofs.YtcgglolckkeeiaaGreat.kidsZ
 rw [h.endZ, if_neg (by omega), Int.toNat_natCast, h.root, Option.getD_some, h.fits.arity, Int.toNat_natCast]
 have := places_spots h.kids
 rw [← this]; rfl
theorem Ats.spot : ∀ {ts : List Tr} {p : Nat}, Ats l p ts → ∀ (i q : Nat) (k : Tr), (spots p ts)[i]? = some q → ts[i]? = some k → At l q k ∧ p ≤ q
 | [], _, _, i, q, k, h, _ => by simp [spots] at h
 | t :: ts, p, h, 0, q, k, h1, h2 => by
  simp [spots] at h1 h2; subst h1 h2; exact ⟨h.head, Nat.le_refl _⟩
 | t :: ts, p, h, i + 1, q, k, h1, h2 => by
  simp [spots] at h1 h2
  obtain ⟨a, b⟩ := h.tail.spot i q k h1 h2
  exact ⟨a, by omega⟩
end
def sizeZ (t : Int) : Int := if 2 ≤ t ∧ t ≤ 9 then t - 1 else 0
def plainV (V : List Int) (n : Int) : Bool := match V[n.toNat]? with | some t => t == 0 || t == 1 | none => false
def arrayV (V : List Int) (n : Int) : Bool := match V[n.toNat]? with | some t => sizeZ t != 0 | none => false
def isZ (V : List Int) (x : Nd) : Int :=
 if x.tag = 1 then 0 else if x.tag = 2 then 1 else if x.tag = 3 then (if plainV V x.n then (V[x.n.toNat]?).getD 0 else -1)
 else if x.tag = 4 then (if arrayV V x.n then 0 else -1) else if x.tag = 5 then 0 else if x.tag = 6 then 1
 else if 7 ≤ x.tag ∧ x.tag ≤ 11 then 0 else if 12 ≤ x.tag ∧ x.tag ≤ 19 then 1
 else if x.tag = 21 then (if plainV V x.n then 2 else -1) else if x.tag = 22 then (if arrayV V x.n then 2 else -1) else 2
def wantZ (V : List Int) (x : Nd) (n : Nat) : List Int :=
 if x.tag = 4 ∨ x.tag = 5 ∨ x.tag = 25 then [0] else if x.tag = 6 then [1] else if 7 ≤ x.tag ∧ x.tag ≤ 17 ∨ x.tag = 22 then [0, 0] else if x.tag = 18 ∨ x.tag = 19 then [1, 1]
 else if x.tag = 21 then [(V[x.n.toNat]?).getD 0] else if x.tag = 23 then [1, 2, 2] else if x.tag = 24 then [1, 2]
 else if x.tag = 1 ∨ x.tag = 2 ∨ x.tag = 3 ∨ x.tag = 26 then [] else List.replicate n 2
def inner (x : Nd) : Bool := x.tag == 23 || x.tag == 24
mutual
def ofT (V : List Int) : Tr → Int
 | .node x ks => if isZ V x = -1 ∨ (wantZ V x ks.length).length ≠ ks.length then -1 else if okKids V (inner x) true ks (wantZ V x ks.length) then isZ V x else -1
def okKids (V : List Int) (inn : Bool) (first : Bool) : List Tr → List Int → Bool
 | [], _ => true
 | _ :: _, [] => true
 | t :: ts, k :: ks => ofT V t == k && (!(inn && !first) || t.root.tag == 20) && okKids V inn false ts ks
end
theorem plainV_get {V : List Int} {n : Int} (h : plainV V n = true) : ∃ t, V[n.toNat]? = some t ∧ (t = 0 ∨ t = 1) := by
 unfold plainV at h
 split at h
 · rename_i t ht; exact ⟨t, ht, by simpa using h⟩
 · cases h
end Go.Proofs.YtcgglolckkeeiaaGreat
namespace Go.Proofs.YtcgglolckkeeiaaGreat
set_option linter.unusedVariables false
open Go.RowKit
structure Ms where
 vals : List Int
 arrs : List (List Int)
 fuel : Nat
 steps : Nat
 evs : List EvV
 out : Option (Int × Int)
def Ms.stop (s : Ms) (k v : Int) : Ms := { s with out := some (k, v) }
def Ms.tick (s : Ms) : Ms := { s with fuel := s.fuel - 1, steps := s.steps + 1 }
def Ms.setv (s : Ms) (v a : Int) : Ms := { s with vals := s.vals.set v.toNat a, evs := s.evs ++ [⟨v, -1, a⟩] }
def Ms.arr (s : Ms) (v : Int) : List Int := (s.arrs[v.toNat]?).getD []
def Ms.seta (s : Ms) (v i a : Int) : Ms := { s with arrs := s.arrs.set v.toNat ((s.arr v).set i.toNat a), evs := s.evs ++ [⟨v, i, a⟩] }
def tr (b : Bool) : Int := if b then 1 else 0
def pairT (tag a b : Int) : Option Int :=
 if tag = 7 then some (wrap64 (a + b)) else if tag = 8 then some (wrap64 (a - b)) else if tag = 9 then some (wrap64 (a * b))
 else if tag = 10 then (if b = 0 then none else some (wrap64 (a.tdiv b))) else if tag = 11 then (if b = 0 then none else some (a.tmod b))
 else if tag = 12 then some (tr (decide (a = b))) else if tag = 13 then some (tr (decide (a ≠ b))) else if tag = 14 then some (tr (decide (a < b)))
 else if tag = 15 then some (tr (decide (a ≤ b))) else if tag = 16 then some (tr (decide (b < a))) else some (tr (decide (b ≤ a)))
theorem okKids_cons {V : List Int} {inn f : Bool} {t : Tr} {ts : List Tr} {k : Int} {ks : List Int} : okKids V inn f (t :: ts) (k :: ks) = (ofT V t == k && (!(inn && !f) || t.root.tag == 20) && okKids V inn false ts ks) := by rw [okKids]
theorem okKids_nil {V : List Int} {inn f : Bool} {ks : List Int} : okKids V inn f [] ks = true := by rw [okKids]
theorem arity_tag {x : Nd} (h : 0 ≤ arityZ x) : x.tag = 1 ∨ (0 ≤ x.n ∧ x.n ≤ (limitsZ x).1) := by
 unfold arityZ at h
 by_cases h1 : x.tag = 1
 · exact .inl h1
 · rw [if_neg h1] at h
   split at h
   · omega
   · right; omega
end Go.Proofs.YtcgglolckkeeiaaGreat
namespace Go.Proofs.YtcgglolckkeeiaaGreat
set_option linter.unusedVariables false
open Go.RowKit
def Ms.go (s : Ms) : Prop := s.out = none ∧ s.fuel ≠ 0
def deep (tag : Int) : Prop := ¬ (tag = 1 ∨ tag = 2 ∨ tag = 3 ∨ tag = 20 ∨ tag = 26)
def wide (tag : Int) : Prop := deep tag ∧ ¬ (tag = 4 ∨ tag = 5 ∨ tag = 6 ∨ tag = 18 ∨ tag = 19 ∨ tag = 21 ∨ tag = 23 ∨ tag = 24 ∨ tag = 25)
end Go.Proofs.YtcgglolckkeeiaaGreat
namespace Go.Proofs.YtcgglolckkeeiaaGreat
set_option linter.unusedVariables false
open Go.RowKit
end Go.Proofs.YtcgglolckkeeiaaGreat
namespace Go.Proofs.YtcgglolckkeeiaaGreat
set_option linter.unusedVariables false
open Go.RowKit
structure Fr where
 at_ : Nat
 t : Tr
 kid : Nat
 vals : List Int
structure Mm where
 s : Ms
 stack : List Fr
def enterM (p : Nat) (t : Tr) (m : Mm) : Mm := if m.s.fuel = 0 then ⟨m.s.stop 4 0, m.stack⟩ else ⟨m.s.tick, ⟨p, t, 0, []⟩ :: m.stack⟩
def Fr.told (f : Fr) (v : Int) : Fr := { f with vals := f.vals ++ [v] }
def Fr.more (f : Fr) : Fr := { f with kid := f.kid + 1 }
def told (k v : Int) : List Fr → List Fr
 | [] => []
 | f :: r => if k = 2 then f :: r else f.told v :: r
def short (tag v : Int) : Prop := tag = 18 ∧ v = 0 ∨ tag = 19 ∧ v = 1 ∨ tag = 24 ∧ v = 0
def asks (tag : Int) : Prop := tag = 18 ∨ tag = 19 ∨ tag = 24
structure NextK (f : Fr) (i : Nat) : Prop where
 lt : f.kid < f.t.kids.length
 how : (f.t.root.tag = 23 ∧ f.kid = 1 ∧ ∃ v vs, f.vals = v :: vs ∧ (v = 0 ∨ v = 1) ∧ (i : Int) = 2 - v) ∨ (i = f.kid ∧ ¬ (f.t.root.tag = 23 ∧ 1 ≤ f.kid) ∧ (f.kid = 1 → asks f.t.root.tag → ∃ v vs, f.vals = v :: vs ∧ ¬ short f.t.root.tag v))
structure NextNo (f : Fr) : Prop where
 how : (f.kid = 1 ∧ ∃ v vs, f.vals = v :: vs ∧ short f.t.root.tag v) ∨ (¬ (f.kid = 1 ∧ asks f.t.root.tag) ∧ ((f.t.root.tag = 23 ∧ 1 < f.kid) ∨ (f.t.root.tag ≠ 23 ∧ f.t.kids.length ≤ f.kid)))
inductive Fin : Fr → Ms → List Fr → Mm → Prop
 | lit (f : Fr) (s : Ms) (g : Fr) (r : List Fr) (h : f.t.root.tag = 1 ∨ f.t.root.tag = 2) : Fin f s (g :: r) ⟨s, g.told f.t.root.n :: r⟩
 | var (f : Fr) (s : Ms) (g : Fr) (r : List Fr) (v : Int) (h : f.t.root.tag = 3) (hn : 0 ≤ f.t.root.n) (hv : s.vals[f.t.root.n.toNat]? = some v) : Fin f s (g :: r) ⟨s, g.told v :: r⟩
 | atNo (f : Fr) (s : Ms) (r : List Fr) (i : Int) (vs : List Int) (h : f.t.root.tag = 4) (hn : 0 ≤ f.t.root.n) (hl : f.t.root.n.toNat < s.arrs.length) (hv : f.vals = i :: vs) (hb : i < 0 ∨ ((s.arr f.t.root.n).length : Int) ≤ i) : Fin f s r ⟨s.stop 2 0, r⟩
 | at_ (f : Fr) (s : Ms) (g : Fr) (r : List Fr) (i v : Int) (vs : List Int) (h : f.t.root.tag = 4) (hn : 0 ≤ f.t.root.n) (hl : f.t.root.n.toNat < s.arrs.length) (hv : f.vals = i :: vs) (hb : ¬ (i < 0 ∨ ((s.arr f.t.root.n).length : Int) ≤ i)) (hx : (s.arr f.t.root.n)[i.toNat]? = some v) : Fin f s (g :: r) ⟨s, g.told v :: r⟩
 | neg (f : Fr) (s : Ms) (g : Fr) (r : List Fr) (v : Int) (vs : List Int) (h : f.t.root.tag = 5) (hv : f.vals = v :: vs) : Fin f s (g :: r) ⟨s, g.told (wrap64 (-v)) :: r⟩
 | not (f : Fr) (s : Ms) (g : Fr) (r : List Fr) (v : Int) (vs : List Int) (h : f.t.root.tag = 6) (hv : f.vals = v :: vs) (h01 : v = 0 ∨ v = 1) : Fin f s (g :: r) ⟨s, g.told (1 - v) :: r⟩
 | logic (f : Fr) (s : Ms) (g : Fr) (r : List Fr) (v : Int) (vs : List Int) (h : f.t.root.tag = 18 ∨ f.t.root.tag = 19) (hv : f.vals = vs ++ [v]) : Fin f s (g :: r) ⟨s, g.told v :: r⟩
 | set (f : Fr) (s : Ms) (r : List Fr) (v : Int) (vs : List Int) (h : f.t.root.tag = 21) (hn : 0 ≤ f.t.root.n) (hl : f.t.root.n.toNat < s.vals.length) (hv : f.vals = v :: vs) : Fin f s r ⟨s.setv f.t.root.n v, r⟩
 | putNo (f : Fr) (s : Ms) (r : List Fr) (i v : Int) (vs : List Int) (h : f.t.root.tag = 22) (hn : 0 ≤ f.t.root.n) (hl : f.t.root.n.toNat < s.arrs.length) (hv : f.vals = i :: v :: vs) (hb : i < 0 ∨ ((s.arr f.t.root.n).length : Int) ≤ i) : Fin f s r ⟨s.stop 2 0, r⟩
 | put (f : Fr) (s : Ms) (r : List Fr) (i v : Int) (vs : List Int) (h : f.t.root.tag = 22) (hn : 0 ≤ f.t.root.n) (hl : f.t.root.n.toNat < s.arrs.length) (hv : f.vals = i :: v :: vs) (hb : ¬ (i < 0 ∨ ((s.arr f.t.root.n).length : Int) ≤ i)) : Fin f s r ⟨s.seta f.t.root.n i v, r⟩
 | while1 (f : Fr) (s : Ms) (r : List Fr) (vs : List Int) (h : f.t.root.tag = 24) (hv : f.vals = 1 :: vs) : Fin f s r (enterM f.at_ f.t ⟨s, r⟩)
 | while0 (f : Fr) (s : Ms) (r : List Fr) (v : Int) (vs : List Int) (h : f.t.root.tag = 24) (hv : f.vals = v :: vs) (h1 : v ≠ 1) : Fin f s r ⟨s, r⟩
 | ret (f : Fr) (s : Ms) (r : List Fr) (v : Int) (vs : List Int) (h : f.t.root.tag = 25) (hv : f.vals = v :: vs) : Fin f s r ⟨s.stop 0 v, r⟩
 | nothing (f : Fr) (s : Ms) (r : List Fr) (h : f.t.root.tag = 20 ∨ f.t.root.tag = 23 ∨ f.t.root.tag = 26) : Fin f s r ⟨s, r⟩
 | pairNo (f : Fr) (s : Ms) (r : List Fr) (a b : Int) (vs : List Int) (h : 7 ≤ f.t.root.tag ∧ f.t.root.tag ≤ 17) (hv : f.vals = a :: b :: vs) (hp : pairT f.t.root.tag a b = none) : Fin f s r ⟨s.stop 1 0, r⟩
 | pair (f : Fr) (s : Ms) (g : Fr) (r : List Fr) (a b c : Int) (vs : List Int) (h : 7 ≤ f.t.root.tag ∧ f.t.root.tag ≤ 17) (hv : f.vals = a :: b :: vs) (hp : pairT f.t.root.tag a b = some c) : Fin f s (g :: r) ⟨s, g.told c :: r⟩
inductive Step : Mm → Mm → Prop
 | done (s : Ms) : Step ⟨s, []⟩ ⟨s.stop 3 0, []⟩
 | kid (s : Ms) (f : Fr) (r : List Fr) (i q : Nat) (k : Tr) (hi : NextK f i) (hq : (spots (f.at_ + 1) f.t.kids)[i]? = some q) (hk : f.t.kids[i]? = some k) : Step ⟨s, f :: r⟩ (enterM q k ⟨s, f.more :: r⟩)
 | fin (s : Ms) (f : Fr) (r : List Fr) (m : Mm) (hn : NextNo f) (hf : Fin f s r m) : Step ⟨s, f :: r⟩ m
inductive Reach : Mm → Mm → Prop
 | refl (m : Mm) : Reach m m
 | step (m m' m'' : Mm) (ho : m.s.out = none) (h : Step m m') (r : Reach m' m'') : Reach m m''
theorem Reach.trans {a b c : Mm} (h : Reach a b) (k : Reach b c) : Reach a c := by
 induction h with
 | refl m => exact k
 | step m m' m'' ho h _ ih => exact .step m m' _ ho h (ih k)
theorem Reach.one {a b : Mm} (ho : a.s.out = none) (h : Step a b) : Reach a b := .step _ _ _ ho h (.refl _)
theorem spot_ex {p : Nat} {ts : List Tr} {i : Nat} {k : Tr} (h : ts[i]? = some k) : ∃ q, (spots p ts)[i]? = some q :=
 ⟨_, List.getElem?_eq_getElem (by rw [spots_len]; exact (List.getElem?_eq_some_iff.1 h).1)⟩
end Go.Proofs.YtcgglolckkeeiaaGreat
namespace Go.Proofs.YtcgglolckkeeiaaGreat
set_option linter.unusedVariables false
open Go.RowKit
structure LenS (V : List Int) (s : Ms) : Prop where
 vlen : s.vals.length = V.length
 alen : s.arrs.length = V.length
 len : ∀ (i : Nat) (t : Int) (a : List Int), V[i]? = some t → s.arrs[i]? = some a → (a.length : Int) = sizeZ t
theorem LenS.arr_len {V : List Int} {s : Ms} (h : LenS V s) {n t : Int} (hv : V[n.toNat]? = some t) : ((s.arr n).length : Int) = sizeZ t := by
 have hlt : n.toNat < V.length := (List.getElem?_eq_some_iff.1 hv).1
 have ha : s.arrs[n.toNat]? = some (s.arrs[n.toNat]'(by rw [h.alen]; exact hlt)) := List.getElem?_eq_getElem _
 unfold Ms.arr
 rw [ha]
 exact h.len _ _ _ hv ha
theorem LenS.stop {V : List Int} {s : Ms} (h : LenS V s) (k v : Int) : LenS V (s.stop k v) := ⟨h.vlen, h.alen, h.len⟩
theorem LenS.tick {V : List Int} {s : Ms} (h : LenS V s) : LenS V s.tick := ⟨h.vlen, h.alen, h.len⟩
theorem LenS.setv {V : List Int} {s : Ms} (h : LenS V s) (n v : Int) : LenS V (s.setv n v) := ⟨by simp [Ms.setv, h.vlen], h.alen, h.len⟩
theorem LenS.seta {V : List Int} {s : Ms} (h : LenS V s) (n i v : Int) : LenS V (s.seta n i v) := by
 refine ⟨h.vlen, by simp [Ms.seta, h.alen], fun j t a hj ha => ?_⟩
 have hlt : j < s.arrs.length := by rw [h.alen]; exact (List.getElem?_eq_some_iff.1 hj).1
 simp only [Ms.seta] at ha
 by_cases e : n.toNat = j
 · subst e
   rw [List.getElem?_set_self hlt] at ha
   injection ha with ha
   subst ha
   rw [List.length_set]
   exact h.arr_len hj
 · rw [List.getElem?_set_ne e] at ha
   exact h.len j t a hj ha
structure FOk (l : List Nd) (f : Fr) : Prop where
 hat : At l f.at_ f.t
 kid : f.kid ≤ f.t.kids.length
 vals : f.vals.length ≤ f.kid
structure SOk (l : List Nd) (st : List Fr) : Prop where
 top : ∀ f r, st = f :: r → FOk l f
 rest : ∀ f r, st = f :: r → ∀ g ∈ r, FOk l g ∧ g.vals.length + 1 ≤ g.kid
theorem SOk.nil (l : List Nd) : SOk l [] := ⟨fun _ _ h => by simp at h, fun _ _ h => by simp at h⟩
theorem SOk.tail {l : List Nd} {f : Fr} {r : List Fr} (h : SOk l (f :: r)) : SOk l r :=
 ⟨fun g r' e => (h.rest f r rfl g (by rw [e]; simp)).1, fun g r' e k hk => h.rest f r rfl k (by rw [e]; simp [hk])⟩
theorem SOk.told {l : List Nd} {f g : Fr} {r : List Fr} (h : SOk l (f :: g :: r)) (v : Int) : SOk l (g.told v :: r) := by
 have hg := h.rest f (g :: r) rfl g (by simp)
 refine ⟨fun a b e => ?_, fun a b e k hk => ?_⟩
 · injection e with e1 e2; subst e1
   exact ⟨hg.1.hat, hg.1.kid, by simp only [Fr.told, List.length_append, List.length_singleton]; exact hg.2⟩
 · injection e with e1 e2; subst e2
   exact h.rest f (g :: r) rfl k (by simp [hk])
theorem SOk.enter {l : List Nd} {s : Ms} {r : List Fr} (h : SOk l r) (h1 : ∀ g ∈ r, g.vals.length + 1 ≤ g.kid ∧ FOk l g) {q : Nat} {t : Tr} (hat : At l q t) : SOk l (enterM q t ⟨s, r⟩).stack := by
 unfold enterM
 split
 · exact h
 · refine ⟨fun a b e => ?_, fun a b e k hk => ?_⟩
   · injection e with e1 e2; subst e1; exact ⟨hat, Nat.zero_le _, Nat.le_refl _⟩
   · injection e with e1 e2; subst e2; exact ⟨(h1 k hk).2, (h1 k hk).1⟩
theorem LenS.enter {V : List Int} {s : Ms} {r : List Fr} (h : LenS V s) {q : Nat} {t : Tr} : LenS V (enterM q t ⟨s, r⟩).s := by
 unfold enterM
 split
 · exact h.stop _ _
 · exact h.tick
theorem Fin.ok {l : List Nd} {V : List Int} {f : Fr} {s : Ms} {r : List Fr} {m : Mm} (h : Fin f s r m) (hs : SOk l (f :: r)) (hl : LenS V s) : SOk l m.stack ∧ LenS V m.s := by
 have ht := hs.tail
 cases h with
 | lit => exact ⟨hs.told _, hl⟩
 | var => exact ⟨hs.told _, hl⟩
 | atNo => exact ⟨ht, hl.stop _ _⟩
 | at_ => exact ⟨hs.told _, hl⟩
 | neg => exact ⟨hs.told _, hl⟩
 | not => exact ⟨hs.told _, hl⟩
 | logic => exact ⟨hs.told _, hl⟩
 | set => exact ⟨ht, hl.setv _ _⟩
 | putNo => exact ⟨ht, hl.stop _ _⟩
 | put => exact ⟨ht, hl.seta _ _ _⟩
 | while1 => exact ⟨ht.enter (fun g hg => ⟨(hs.rest f _ rfl g hg).2, (hs.rest f _ rfl g hg).1⟩) (hs.top f _ rfl).hat, hl.enter⟩
 | while0 => exact ⟨ht, hl⟩
 | ret => exact ⟨ht, hl.stop _ _⟩
 | nothing => exact ⟨ht, hl⟩
 | pairNo => exact ⟨ht, hl.stop _ _⟩
 | pair => exact ⟨hs.told _, hl⟩
theorem Step.ok {l : List Nd} {V : List Int} {m m' : Mm} (h : Step m m') (hs : SOk l m.stack) (hl : LenS V m.s) : SOk l m'.stack ∧ LenS V m'.s := by
 cases h with
 | done s => exact ⟨SOk.nil l, hl.stop _ _⟩
 | kid s f r i q k hi hq hk =>
  have hf := hs.top f r rfl
  have hk2 := (hf.hat.kids.spot i q k hq hk).1
  have hlt := hi.lt
  have hm : SOk l (f.more :: r) := ⟨fun a b e => by injection e with e1 e2; subst e1; exact ⟨hf.hat, by simp only [Fr.more]; omega, by have := hf.vals; simp only [Fr.more]; omega⟩, fun a b e g hg => by injection e with e1 e2; subst e2; exact hs.rest f r rfl g hg⟩
  refine ⟨hm.enter (fun g hg => ?_) hk2, hl.enter⟩
  rcases List.mem_cons.1 hg with rfl | hg
  · exact ⟨by have := hf.vals; simp only [Fr.more]; omega, hm.top _ _ rfl⟩
  · exact ⟨(hs.rest f r rfl g hg).2, (hs.rest f r rfl g hg).1⟩
 | fin s f r m' hn hf => exact hf.ok hs hl
end Go.Proofs.YtcgglolckkeeiaaGreat
namespace Go.Proofs.YtcgglolckkeeiaaGreat
set_option linter.unusedVariables false
open Go.RowKit
end Go.Proofs.YtcgglolckkeeiaaGreat
namespace Go.Proofs.YtcgglolckkeeiaaGreat
set_option linter.unusedVariables false
def cmpI (a b : Int) : Int := if a < b then -1 else if b < a then 1 else 0
def cmpL : List Int → List Int → Int
 | [], [] => 0
 | [], _ :: _ => -1
 | _ :: _, [] => 1
 | a :: xs, b :: ys => if cmpI a b ≠ 0 then cmpI a b else cmpL xs ys
structure Dl where
 path : List Int
 op : Int
 n : Int
def orI (a b : Int) : Int := if a ≠ 0 then a else b
def cmpD (d e : Dl) : Int := orI (cmpL d.path e.path) (orI (cmpI d.op e.op) (cmpI d.n e.n))
theorem cmpI_self (a : Int) : cmpI a a = 0 := by unfold cmpI; rw [if_neg (by omega), if_neg (by omega)]
theorem cmpI_eq {a b : Int} : cmpI a b = 0 ↔ a = b := by
 unfold cmpI
 constructor
 · intro h; split at h
   · cases h
   · split at h
     · cases h
     · omega
 · rintro rfl; rw [if_neg (by omega), if_neg (by omega)]
theorem cmpI_lt {a b : Int} : cmpI a b < 0 ↔ a < b := by
 unfold cmpI
 split
 · simp_all
 · split <;> simp <;> omega
theorem cmpI_neg (a b : Int) : cmpI b a = -cmpI a b := by
 unfold cmpI
 repeat' split
 all_goals omega
theorem cmpI_bd (a b : Int) : cmpI a b = -1 ∨ cmpI a b = 0 ∨ cmpI a b = 1 := by
 unfold cmpI
 repeat' split
 all_goals simp
theorem cmpL_self : ∀ a : List Int, cmpL a a = 0
 | [] => rfl
 | x :: xs => by rw [cmpL, cmpI_self, if_neg (by simp), cmpL_self xs]
theorem cmpL_eq : ∀ {a b : List Int}, cmpL a b = 0 ↔ a = b
 | [], [] => by simp [cmpL]
 | [], _ :: _ => by simp [cmpL]
 | _ :: _, [] => by simp [cmpL]
 | a :: xs, b :: ys => by
  rw [cmpL]
  by_cases h : cmpI a b = 0
  · rw [if_neg (by simpa using h), cmpL_eq, cmpI_eq.1 h]; simp
  · rw [if_pos h]
    constructor
    · intro e; exact absurd e h
    · intro e; injection e with e1 e2; exact absurd (cmpI_eq.2 e1) h
theorem cmpL_neg : ∀ (a b : List Int), cmpL b a = -cmpL a b
 | [], [] => by simp [cmpL]
 | [], _ :: _ => by simp [cmpL]
 | _ :: _, [] => by simp [cmpL]
 | a :: xs, b :: ys => by
  rw [cmpL, cmpL, cmpI_neg a b]
  by_cases h : cmpI a b = 0
  · rw [if_neg (by omega), if_neg (by omega), cmpL_neg xs ys]
  · rw [if_pos (by omega), if_pos h]
theorem cmpL_bd : ∀ (a b : List Int), cmpL a b = -1 ∨ cmpL a b = 0 ∨ cmpL a b = 1
 | [], [] => by simp [cmpL]
 | [], _ :: _ => by simp [cmpL]
 | _ :: _, [] => by simp [cmpL]
 | a :: xs, b :: ys => by
  rw [cmpL]
  split
  · exact cmpI_bd a b
  · exact cmpL_bd xs ys
theorem cmpL_trans : ∀ {a b c : List Int}, cmpL a b < 0 → cmpL b c < 0 → cmpL a c < 0
 | [], [], _, h, _ => by simp [cmpL] at h
 | [], b :: ys, [], _, h => by simp [cmpL] at h
 | [], b :: ys, c :: zs, _, _ => by simp [cmpL]
 | a :: xs, [], _, h, _ => by simp [cmpL] at h
 | a :: xs, b :: ys, [], _, h => by simp [cmpL] at h
 | a :: xs, b :: ys, c :: zs, h1, h2 => by
  rw [cmpL] at h1 h2 ⊢
  by_cases e1 : cmpI a b = 0
  · rw [if_neg (by simpa using e1)] at h1
    have := cmpI_eq.1 e1
    subst this
    by_cases e2 : cmpI a c = 0
    · rw [if_neg (by simpa using e2)] at h2 ⊢
      exact cmpL_trans h1 h2
    · rw [if_pos e2] at h2 ⊢
      exact h2
  · rw [if_pos e1] at h1
    by_cases e2 : cmpI b c = 0
    · have := cmpI_eq.1 e2
      subst this
      rw [if_pos e1]; exact h1
    · rw [if_pos e2] at h2
      have h3 : cmpI a c < 0 := cmpI_lt.2 (Int.lt_trans (cmpI_lt.1 h1) (cmpI_lt.1 h2))
      rw [if_pos (by omega)]; exact h3
theorem orI_eq {a b : Int} : orI a b = 0 ↔ a = 0 ∧ b = 0 := by
 unfold orI
 split
 · rename_i h; exact ⟨fun e => absurd e h, fun e => e.1⟩
 · rename_i h; exact ⟨fun e => ⟨by omega, e⟩, fun e => e.2⟩
theorem cmpD_eq {d e : Dl} : cmpD d e = 0 ↔ d = e := by
 unfold cmpD
 rw [orI_eq, orI_eq, cmpL_eq, cmpI_eq, cmpI_eq]
 cases d; cases e
 simp
theorem cmpD_self (d : Dl) : cmpD d d = 0 := cmpD_eq.2 rfl
theorem orI_neg (a b : Int) : orI (-a) (-b) = -orI a b := by
 unfold orI
 by_cases h : a = 0
 · rw [if_neg (by omega), if_neg (by omega)]
 · rw [if_pos (by omega), if_pos h]
theorem cmpD_neg (d e : Dl) : cmpD e d = -cmpD d e := by
 unfold cmpD
 rw [cmpL_neg, cmpI_neg d.op, cmpI_neg d.n, orI_neg, orI_neg]
theorem orI_bd {a b : Int} (h1 : a = -1 ∨ a = 0 ∨ a = 1) (h2 : b = -1 ∨ b = 0 ∨ b = 1) : orI a b = -1 ∨ orI a b = 0 ∨ orI a b = 1 := by
 unfold orI; split <;> assumption
theorem cmpD_bd (d e : Dl) : cmpD d e = -1 ∨ cmpD d e = 0 ∨ cmpD d e = 1 := orI_bd (cmpL_bd _ _) (orI_bd (cmpI_bd _ _) (cmpI_bd _ _))
theorem cmpD_trans {d e f : Dl} (h1 : cmpD d e < 0) (h2 : cmpD e f < 0) : cmpD d f < 0 := by
 unfold cmpD orI at *
 by_cases a1 : cmpL d.path e.path = 0
 · rw [if_neg (by simpa using a1)] at h1
   rw [cmpL_eq.1 a1]
   by_cases a2 : cmpL e.path f.path = 0
   · rw [if_neg (by simpa using a2)] at h2 ⊢
     by_cases b1 : cmpI d.op e.op = 0
     · rw [if_neg (by simpa using b1)] at h1
       rw [cmpI_eq.1 b1]
       by_cases b2 : cmpI e.op f.op = 0
       · rw [if_neg (by simpa using b2)] at h2 ⊢
         exact cmpI_lt.2 (Int.lt_trans (cmpI_lt.1 h1) (cmpI_lt.1 h2))
       · rw [if_pos b2] at h2 ⊢; exact h2
     · rw [if_pos b1] at h1
       by_cases b2 : cmpI e.op f.op = 0
       · rw [← cmpI_eq.1 b2, if_pos b1]; exact h1
       · rw [if_pos b2] at h2
         have h3 : cmpI d.op f.op < 0 := cmpI_lt.2 (Int.lt_trans (cmpI_lt.1 h1) (cmpI_lt.1 h2))
         rw [if_pos (by omega)]; exact h3
   · rw [if_pos a2] at h2 ⊢; exact h2
 · rw [if_pos a1] at h1
   by_cases a2 : cmpL e.path f.path = 0
   · rw [← cmpL_eq.1 a2, if_pos a1]; exact h1
   · rw [if_pos a2] at h2
     have h3 := cmpL_trans h1 h2
     rw [if_pos (by omega)]; exact h3
def riseD : List Dl → Prop
 | [] => True
 | [_] => True
 | a :: b :: l => cmpD a b < 0 ∧ riseD (b :: l)
theorem riseD_tail {a : Dl} {l : List Dl} (h : riseD (a :: l)) : riseD l := by
 cases l with
 | nil => trivial
 | cons b l => exact h.2
theorem riseD_head : ∀ {l : List Dl} {a b : Dl}, riseD (a :: l) → b ∈ l → cmpD a b < 0
 | [], _, _, _, h => by simp at h
 | c :: l, a, b, hr, h => by
  rcases List.mem_cons.1 h with rfl | h
  · exact hr.1
  · exact cmpD_trans hr.1 (riseD_head hr.2 h)
theorem riseD_get : ∀ {l : List Dl} {i j : Nat} {a b : Dl}, riseD l → l[i]? = some a → l[j]? = some b → i < j → cmpD a b < 0
 | [], _, _, _, _, _, h, _, _ => by simp at h
 | c :: l, 0, 0, _, _, _, _, _, h => by omega
 | c :: l, 0, j + 1, a, b, hr, h1, h2, _ => by
  simp at h1 h2
  subst h1
  exact riseD_head hr (List.mem_of_getElem? h2)
 | c :: l, i + 1, 0, _, _, _, _, _, h => by omega
 | c :: l, i + 1, j + 1, a, b, hr, h1, h2, h => riseD_get (riseD_tail hr) (by simpa using h1) (by simpa using h2) (by omega)
end Go.Proofs.YtcgglolckkeeiaaGreat
namespace Go.Proofs.YtcgglolckkeeiaaGreat
set_option linter.unusedVariables false
open Go.RowKit
def riseI : List Int → Prop
 | [] => True
 | [_] => True
 | a :: b :: l => a < b ∧ riseI (b :: l)
theorem riseI_tail {a : Int} {l : List Int} (h : riseI (a :: l)) : riseI l := by
 cases l with
 | nil => trivial
 | cons b l => exact h.2
theorem riseI_head : ∀ {l : List Int} {a b : Int}, riseI (a :: l) → b ∈ l → a < b
 | [], _, _, _, h => by simp at h
 | c :: l, a, b, hr, h => by
  rcases List.mem_cons.1 h with rfl | h
  · exact hr.1
  · exact Int.lt_trans hr.1 (riseI_head hr.2 h)
theorem riseI_cons {a : Int} {l : List Int} (h : riseI l) (hl : ∀ b ∈ l, a < b) : riseI (a :: l) := by
 cases l with
 | nil => trivial
 | cons b l => exact ⟨hl b (by simp), h⟩
theorem riseI_ext : ∀ {l m : List Int}, riseI l → riseI m → (∀ x, x ∈ l ↔ x ∈ m) → l = m
 | [], [], _, _, _ => rfl
 | [], b :: m, _, _, h => absurd ((h b).2 (by simp)) (by simp)
 | a :: l, [], _, _, h => absurd ((h a).1 (by simp)) (by simp)
 | a :: l, b :: m, h1, h2, h => by
  have hab : a = b := by
   rcases List.mem_cons.1 ((h a).1 (by simp)) with e | ha
   · exact e
   · rcases List.mem_cons.1 ((h b).2 (by simp)) with e | hb
     · exact e.symm
     · have := riseI_head h1 hb; have := riseI_head h2 ha; omega
  subst hab
  rw [riseI_ext (riseI_tail h1) (riseI_tail h2) fun x => ?_]
  constructor
  · intro hx
    have hlt := riseI_head h1 hx
    rcases List.mem_cons.1 ((h x).1 (by simp [hx])) with e | hm
    · omega
    · exact hm
  · intro hx
    have hlt := riseI_head h2 hx
    rcases List.mem_cons.1 ((h x).2 (by simp [hx])) with e | hm
    · omega
    · exact hm
def insU (a : Int) : List Int → List Int
 | [] => [a]
 | b :: l => if a < b then a :: b :: l else if a = b then b :: l else b :: insU a l
theorem insU_mem (a x : Int) : ∀ l : List Int, x ∈ insU a l ↔ x = a ∨ x ∈ l
 | [] => by simp [insU]
 | b :: l => by
  rw [insU]
  split
  · simp
  · split
    · rename_i e; subst e; simp
    · rw [List.mem_cons, insU_mem a x l, List.mem_cons]
      constructor
      · rintro (h | h | h) <;> simp [h]
      · rintro (h | h | h) <;> simp [h]
theorem insU_rise (a : Int) : ∀ {l : List Int}, riseI l → riseI (insU a l)
 | [], _ => trivial
 | b :: l, h => by
  rw [insU]
  split
  · rename_i hab; exact ⟨hab, h⟩
  · split
    · exact h
    · rename_i h1 h2
      refine riseI_cons (insU_rise a (riseI_tail h)) fun x hx => ?_
      rcases (insU_mem a x l).1 hx with rfl | hx
      · omega
      · exact riseI_head h hx
def sortU : List Int → List Int
 | [] => []
 | a :: l => insU a (sortU l)
theorem sortU_mem (x : Int) : ∀ l : List Int, x ∈ sortU l ↔ x ∈ l
 | [] => by simp [sortU]
 | a :: l => by rw [sortU, insU_mem, sortU_mem x l, List.mem_cons]
theorem sortU_rise : ∀ l : List Int, riseI (sortU l)
 | [] => trivial
 | a :: l => insU_rise a (sortU_rise l)
theorem filter_rise (f : Int → Bool) : ∀ {l : List Int}, riseI l → riseI (l.filter f)
 | [], _ => trivial
 | a :: l, h => by
  rw [List.filter_cons]
  split
  · exact riseI_cons (filter_rise f (riseI_tail h)) fun b hb => riseI_head h ((List.mem_filter.1 hb).1)
  · exact filter_rise f (riseI_tail h)
def isC (x y : Nd) (op n : Int) : Bool :=
 if op = 1 then decide (7 ≤ x.tag ∧ x.tag ≤ 11 ∧ 7 ≤ n ∧ n ≤ 11 ∧ n ≠ x.tag) else if op = 2 then decide (12 ≤ x.tag ∧ x.tag ≤ 17 ∧ 12 ≤ n ∧ n ≤ 17 ∧ n ≠ x.tag)
 else if op = 3 then decide (18 ≤ x.tag ∧ x.tag ≤ 19 ∧ 18 ≤ n ∧ n ≤ 19 ∧ n ≠ x.tag)
 else if op = 4 then decide ((x.tag = 1 ∧ (n = 0 ∨ n = 1 ∨ n = -1 ∨ n = wrap64 (x.n + 1) ∨ n = wrap64 (x.n - 1)) ∧ n ≠ x.n) ∨ (x.tag = 2 ∧ n = wrap64 (1 - x.n)))
 else if op = 5 then decide ((x.tag = 21 ∨ x.tag = 22 ∨ x.tag = 23 ∨ x.tag = 24 ∨ x.tag = 25) ∧ n = 0)
 else if op = 6 then decide ((x.tag = 23 ∨ x.tag = 24) ∧ n = 0)
 else if op = 7 then decide (x.tag = 25 ∧ (n = 0 ∨ n = 1) ∧ ¬ (y.tag = 1 ∧ y.n = n)) else false
def triesZ (x : Nd) : List Int := sortU ([-1, 0, 1, wrap64 (x.n - 1), wrap64 (x.n + 1)] ++ (List.range 13).map fun i : Nat => (i : Int) + 7)
def choicesZ (x y : Nd) : List (Int × Int) := ((List.range 7).map fun i : Nat => (i : Int) + 1).flatMap fun op => ((triesZ x).filter (isC x y op)).map fun n => (op, n)
theorem isC_tries {x y : Nd} {op n : Int} (h : isC x y op n = true) (h2 : x.tag = 2 → x.n = 0 ∨ x.n = 1) : n ∈ triesZ x := by
 unfold triesZ
 rw [sortU_mem]
 have hr : ∀ k : Int, 7 ≤ k → k ≤ 19 → k ∈ (List.range 13).map fun i : Nat => (i : Int) + 7 := fun k h1 h2 => by
  rw [List.mem_map]
  exact ⟨(k - 7).toNat, List.mem_range.2 (by omega), by omega⟩
 unfold isC at h
 rw [List.mem_append]
 repeat' split at h
 all_goals (first | (cases h; done) | skip)
 all_goals (simp only [decide_eq_true_eq] at h)
 · exact .inr (hr n (by omega) (by omega))
 · exact .inr (hr n (by omega) (by omega))
 · exact .inr (hr n (by omega) (by omega))
 · refine .inl ?_
   rcases h with ⟨_, h, _⟩ | ⟨h1, h⟩
   · simp; omega
   · have : n = 0 ∨ n = 1 := by
      subst h
      unfold wrap64
      rcases h2 h1 with e | e <;> rw [e] <;> omega
     simp; omega
 · exact .inl (by simp; omega)
 · exact .inl (by simp; omega)
 · exact .inl (by simp; omega)
theorem choicesZ_mem {x y : Nd} {op n : Int} (h2 : x.tag = 2 → x.n = 0 ∨ x.n = 1) : (op, n) ∈ choicesZ x y ↔ isC x y op n = true := by
 unfold choicesZ
 rw [List.mem_flatMap]
 constructor
 · rintro ⟨o, _, h⟩
   rw [List.mem_map] at h
   obtain ⟨m, hm, e⟩ := h
   injection e with e1 e2
   subst e1; subst e2
   exact (List.mem_filter.1 hm).2
 · intro h
   have hop : 1 ≤ op ∧ op ≤ 7 := by
    unfold isC at h
    repeat' split at h
    all_goals (first | (cases h; done) | omega)
   refine ⟨op, ?_, ?_⟩
   · rw [List.mem_map]; exact ⟨(op - 1).toNat, List.mem_range.2 (by omega), by omega⟩
   · rw [List.mem_map]; exact ⟨n, List.mem_filter.2 ⟨isC_tries h h2, h⟩, rfl⟩
end Go.Proofs.YtcgglolckkeeiaaGreat
