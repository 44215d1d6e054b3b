/- Lemmas for VerdictMoreP. -/
import Derived.Test.YtdcmppdhdcjpfaaGreatZr1
import Derived.Lib.Hide
import Derived.IntWalk
set_option linter.unusedVariables false
set_option linter.unusedSimpArgs false
set_option maxRecDepth 100000
set_option maxHeartbeats 16000000
namespace Go.Proofs.YtdcmppdhdcjpfaaGreat
structure Nd where
 tag : Int
 n : Int
def Q2 (x : Nd) : Int × Int :=
 if x.tag = 2 then (1, 0) else if x.tag = 3 then (11, 0) else if x.tag = 4 ∨ x.tag = 21 then (11, 1) else if x.tag = 22 then (11, 2)
 else if x.tag = 5 ∨ x.tag = 6 ∨ x.tag = 25 then (0, 1) else if x.tag = 24 then (0, 2) else if x.tag = 20 then (200, x.n) else if x.tag = 23 then (0, 3)
 else if x.tag = 26 then (0, 0) else if 7 ≤ x.tag ∧ x.tag ≤ 19 then (0, 2) else (-1, -1)
def Qv (x : Nd) : Int := if x.tag = 1 then 0 else if x.n < 0 ∨ (Q2 x).1 < x.n then -1 else (Q2 x).2
theorem Adv (x : Nd) : (-1 ≤ (Q2 x).2 ∧ (Q2 x).2 ≤ 3) ∨ ((Q2 x).1 = 200 ∧ (Q2 x).2 = x.n) := by
 unfold Q2
 repeat' split
 all_goals (dsimp only; omega)
theorem Ku (x : Nd) : -1 ≤ Qv x ∧ Qv x ≤ 200 := by
 unfold Qv
 have := Adv x
 split
 · omega
 · split
   · omega
   · omega
def Jm : List Nd → Nat → Option Nat
 | _, 0 => some 0
 | [], _ + 1 => none
 | x :: xs, w + 1 => if Qv x < 0 then none else (Jm xs (w + (Qv x).toNat)).map (· + 1)
def endZ (l : List Nd) (at_ : Int) : Int := if at_ < 0 then -1 else match Jm (l.drop at_.toNat) 1 with | none => -1 | some c => at_ + c
def Zm (l : List Nd) : Nat → Int → List Int
 | 0, _ => []
 | k + 1, p => p :: Zm l k (endZ l p)
def kidsZ (l : List Nd) (at_ : Int) : List Int := if endZ l at_ < 0 then [] else Zm l (Qv ((l[at_.toNat]?).getD ⟨0, 0⟩)).toNat (at_ + 1)
inductive Tr where
 | node (x : Nd) (kids : List Tr)
mutual
def Tr.flat : Tr → List Nd
 | .node x ks => x :: QF ks
def QF : List Tr → List Nd
 | [] => []
 | t :: ts => t.flat ++ QF ts
end
inductive Tr.fits : Tr → Prop
 | mk (x : Nd) (ks : List Tr) (h : Qv x = (ks.length : Int)) (hk : ∀ k ∈ ks, k.fits) : Tr.fits (.node x ks)
theorem YC : ∀ (a b : List Tr), QF (a ++ b) = QF a ++ QF b
 | [], b => by simp [QF]
 | t :: a, b => by simp [QF, YC a b]
theorem Vj : ∀ (n : Nat) (l : List Nd) (w c : Nat), l.length ≤ n → Jm l w = some c → ∃ ts : List Tr, ts.length = w ∧ (∀ t ∈ ts, t.fits) ∧ QF ts = l.take c
 | _, l, 0, c, _, h => by
  simp [Jm] at h; subst h
  exact ⟨[], rfl, fun _ h => by simp at h, by simp [QF]⟩
 | _, [], w + 1, c, _, h => by simp [Jm] at h
 | 0, x :: xs, w + 1, c, hn, h => by simp at hn
 | n + 1, x :: xs, w + 1, c, hn, h => by
  rw [Jm] at h
  split at h
  · cases h
  · rename_i ha
    obtain ⟨c', h1, rfl⟩ := Option.map_eq_some_iff.1 h
    obtain ⟨ts, hl, hf, he⟩ := Vj n xs _ _ (by simpa using hn) h1
    refine ⟨.node x (ts.take (Qv x).toNat) :: ts.drop (Qv x).toNat, by simp [hl], fun t ht => ?_, ?_⟩
    · rcases List.mem_cons.1 ht with rfl | ht
      · refine .mk x _ (by rw [List.length_take, hl]; omega) (fun k hk => hf k (List.mem_of_mem_take hk))
      · exact hf t (List.mem_of_mem_drop ht)
    · rw [QF, Tr.flat, List.cons_append, ← YC, List.take_append_drop, he]; rfl
mutual
theorem EY (x : Nd) (ks : List Tr) (h : (Tr.node x ks).fits) (w : Nat) (rest : List Nd) : Jm ((Tr.node x ks).flat ++ rest) (w + 1) = (Jm rest w).map (· + (Tr.node x ks).flat.length) := by
 cases h with
 | mk _ _ ha hk =>
  rw [Tr.flat, List.cons_append, Jm, if_neg (by omega), ha, Int.toNat_natCast, Nat.add_comm w ks.length, Vi ks hk w rest]
  cases Jm rest w with
  | none => rfl
  | some c => simp; omega
theorem Vi : ∀ (ks : List Tr), (∀ k ∈ ks, k.fits) → ∀ (w : Nat) (rest : List Nd), Jm (QF ks ++ rest) (ks.length + w) = (Jm rest w).map (· + (QF ks).length)
 | [], _, w, rest => by
  simp [QF]
 | .node x ks' :: ks, h, w, rest => by
  rw [QF, List.append_assoc, List.length_cons, show ks.length + 1 + w = (ks.length + w) + 1 by omega, EY x ks' (h _ (by simp)) _ _, Vi ks (fun k hk => h k (by simp [hk])) w rest]
  cases Jm rest w with
  | none => rfl
  | some c => simp; omega
end
def Tr.root : Tr → Nd
 | .node x _ => x
def Tr.kids : Tr → List Tr
 | .node _ ks => ks
def Tr.size (t : Tr) : Nat := t.flat.length
theorem Tr.flat_eq : ∀ t : Tr, t.flat = t.root :: QF t.kids
 | .node _ _ => by rw [Tr.flat]; rfl
theorem Tr.size_eq (t : Tr) : t.size = (QF t.kids).length + 1 := by rw [Tr.size, t.flat_eq]; simp
theorem Tr.fits.arity {t : Tr} (h : t.fits) : Qv t.root = (t.kids.length : Int) := by cases h; assumption
theorem Tr.fits.kid {t : Tr} (h : t.fits) : ∀ k ∈ t.kids, k.fits := by cases h; assumption
theorem Ahi (t : Tr) (h : t.fits) (w : Nat) (rest : List Nd) : Jm (t.flat ++ rest) (w + 1) = (Jm rest w).map (· + t.flat.length) := by
 cases t; exact EY _ _ h w rest
structure At (l : List Nd) (p : Nat) (t : Tr) : Prop where
 fits : t.fits
 here : ∃ rest, l.drop p = t.flat ++ rest
structure Ats (l : List Nd) (p : Nat) (ts : List Tr) : Prop where
 fits : ∀ t ∈ ts, t.fits
 here : ∃ rest, l.drop p = QF ts ++ rest
section
variable {l : List Nd} {p : Nat} {t : Tr} {ts : List Tr}
theorem At.le (h : At l p t) : p + t.size ≤ l.length := by
 obtain ⟨rest, e⟩ := h.here
 have := congrArg List.length e
 rw [List.length_drop, List.length_append] at this
 have hs : t.size = t.flat.length := rfl
 have := t.size_eq
 omega
theorem At.lt (h : At l p t) : p < l.length := by have := h.le; have := t.size_eq; omega
theorem At.root (h : At l p t) : l[p]? = some t.root := by
 obtain ⟨rest, e⟩ := h.here
 have := congrArg List.head? e
 rw [List.head?_drop, t.flat_eq] at this
 simpa using this
theorem At.kids (h : At l p t) : Ats l (p + 1) t.kids := by
 obtain ⟨rest, e⟩ := h.here
 refine ⟨h.fits.kid, rest, ?_⟩
 rw [← List.drop_drop, e, t.flat_eq]; simp
theorem Ats.head {ts : List Tr} (h : Ats l p (t :: ts)) : At l p t := by
 obtain ⟨rest, e⟩ := h.here
 exact ⟨h.fits t (by simp), QF ts ++ rest, by rw [e, QF, List.append_assoc]⟩
theorem Ats.tail {ts : List Tr} (h : Ats l p (t :: ts)) : Ats l (p + t.size) ts := by
 obtain ⟨rest, e⟩ := h.here
 refine ⟨fun k hk => h.fits k (by simp [hk]), rest, ?_⟩
 rw [← List.drop_drop, e, QF, List.append_assoc]; simp [Tr.size]
theorem At.endZ (h : At l p t) : endZ l (p : Int) = ((p + t.size : Nat) : Int) := by
 obtain ⟨rest, e⟩ := h.here
 unfold Go.Proofs.YtdcmppdhdcjpfaaGreat.endZ
 rw [if_neg (by omega), Int.toNat_natCast, e, show (1 : Nat) = 0 + 1 from rfl, Ahi t h.fits 0 rest]
 simp [Jm, Tr.size]
theorem Yd {a : Int} (h : 0 ≤ endZ l a) : ∃ t, At l a.toNat t ∧ 0 ≤ a := by
 unfold Go.Proofs.YtdcmppdhdcjpfaaGreat.endZ at h
 by_cases h0 : a < 0
 · rw [if_pos h0] at h; omega
 · rw [if_neg h0] at h
   cases hw : Jm (l.drop a.toNat) 1 with
   | none => rw [hw] at h; simp at h
   | some c =>
    obtain ⟨ts, hl, hf, he⟩ := Vj _ _ 1 c (Nat.le_refl _) hw
    match ts, hl with
    | [t], _ =>
     refine ⟨t, ⟨hf t (by simp), (l.drop a.toNat).drop c, ?_⟩, by omega⟩
     have : t.flat = (l.drop a.toNat).take c := by simpa [QF] using he
     rw [this, List.take_append_drop]
theorem AfV {a : Int} (h : a < 0) : endZ l a = -1 := by unfold Go.Proofs.YtdcmppdhdcjpfaaGreat.endZ; rw [if_pos h]
def Ze : Nat → List Tr → List Nat
 | _, [] => []
 | p, t :: ts => p :: Ze (p + t.size) ts
theorem JF : ∀ (ts : List Tr) (p : Nat), (Ze p ts).length = ts.length
 | [], _ => rfl
 | t :: ts, p => by simp [Ze, JF ts]
theorem YO : ∀ {ts : List Tr} {p : Nat}, Ats l p ts → Zm l ts.length (p : Int) = (Ze p ts).map fun n : Nat => (n : Int)
 | [], _, _ => rfl
 | t :: ts, p, h => by
  rw [List.length_cons, Zm, h.head.endZ, YO h.tail, Ze]; rfl
theorem At.kidsZ (h : At l p t) : kidsZ l (p : Int) = (Ze (p + 1) t.kids).map fun n : Nat => (n : Int) := by
 unfold Go.Proofs.YtdcmppdhdcjpfaaGreat.kidsZ
 rw [h.endZ, if_neg (by omega), Int.toNat_natCast, h.root, Option.getD_some, h.fits.arity, Int.toNat_natCast]
 have := YO h.kids
 rw [← this]; rfl
theorem Ats.spot : ∀ {ts : List Tr} {p : Nat}, Ats l p ts → ∀ (i q : Nat) (k : Tr), (Ze p ts)[i]? = some q → ts[i]? = some k → At l q k ∧ p ≤ q
 | [], _, _, i, q, k, h, _ => by simp [Ze] at h
 | t :: ts, p, h, 0, q, k, h1, h2 => by
  simp [Ze] at h1 h2; subst h1 h2; exact ⟨h.head, Nat.le_refl _⟩
 | t :: ts, p, h, i + 1, q, k, h1, h2 => by
  simp [Ze] at h1 h2
  obtain ⟨a, b⟩ := h.tail.spot i q k h1 h2
  exact ⟨a, by omega⟩
end
def QU (t : Int) : Int := if 2 ≤ t ∧ t ≤ 9 then t - 1 else 0
def JZ (V : List Int) (n : Int) : Bool := match V[n.toNat]? with | some t => t == 0 || t == 1 | none => false
def XG (V : List Int) (n : Int) : Bool := match V[n.toNat]? with | some t => QU t != 0 | none => false
def isZ (V : List Int) (x : Nd) : Int :=
 if x.tag = 1 then 0 else if x.tag = 2 then 1 else if x.tag = 3 then (if JZ V x.n then (V[x.n.toNat]?).getD 0 else -1)
 else if x.tag = 4 then (if XG V x.n then 0 else -1) else if x.tag = 5 then 0 else if x.tag = 6 then 1
 else if 7 ≤ x.tag ∧ x.tag ≤ 11 then 0 else if 12 ≤ x.tag ∧ x.tag ≤ 19 then 1
 else if x.tag = 21 then (if JZ V x.n then 2 else -1) else if x.tag = 22 then (if XG V x.n then 2 else -1) else 2
def QM (V : List Int) (x : Nd) (n : Nat) : List Int :=
 if x.tag = 4 ∨ x.tag = 5 ∨ x.tag = 25 then [0] else if x.tag = 6 then [1] else if 7 ≤ x.tag ∧ x.tag ≤ 17 ∨ x.tag = 22 then [0, 0] else if x.tag = 18 ∨ x.tag = 19 then [1, 1]
 else if x.tag = 21 then [(V[x.n.toNat]?).getD 0] else if x.tag = 23 then [1, 2, 2] else if x.tag = 24 then [1, 2]
 else if x.tag = 1 ∨ x.tag = 2 ∨ x.tag = 3 ∨ x.tag = 26 then [] else List.replicate n 2
def Q4 (x : Nd) : Bool := x.tag == 23 || x.tag == 24
mutual
def ofT (V : List Int) : Tr → Int
 | .node x ks => if isZ V x = -1 ∨ (QM V x ks.length).length ≠ ks.length then -1 else if Q3 V (Q4 x) true ks (QM V x ks.length) then isZ V x else -1
def Q3 (V : List Int) (inn : Bool) (first : Bool) : List Tr → List Int → Bool
 | [], _ => true
 | _ :: _, [] => true
 | t :: ts, k :: ks => ofT V t == k && (!(inn && !first) || t.root.tag == 20) && Q3 V inn false ts ks
end
theorem Xz {V : List Int} {n : Int} (h : JZ V n = true) : ∃ t, V[n.toNat]? = some t ∧ (t = 0 ∨ t = 1) := by
 unfold JZ at h
 split at h
 · rename_i t ht; exact ⟨t, ht, by simpa using h⟩
 · cases h
theorem U3 {V : List Int} {n : Int} (h : XG V n = true) : ∃ t, V[n.toNat]? = some t ∧ QU t ≠ 0 := by
 unfold XG at h
 split at h
 · rename_i t ht; exact ⟨t, ht, by simpa using h⟩
 · cases h
theorem Kx {V : List Int} {x : Nd} {ks : List Tr} (h : ofT V (.node x ks) ≠ -1) : ofT V (.node x ks) = isZ V x ∧ isZ V x ≠ -1 ∧ (QM V x ks.length).length = ks.length ∧ Q3 V (Q4 x) true ks (QM V x ks.length) = true := by
 rw [ofT] at h ⊢
 split at h
 · exact absurd rfl h
 · rename_i h1
   split at h
   · rename_i h2
     rw [if_neg h1, if_pos h2]
     exact ⟨rfl, fun e => h1 (.inl e), Classical.byContradiction fun e => h1 (.inr e), h2⟩
   · exact absurd rfl h
theorem Xg {V : List Int} {inn : Bool} : ∀ {ts : List Tr} {ks : List Int} {f : Bool}, Q3 V inn f ts ks = true → ∀ (i : Nat) (t : Tr) (k : Int), ts[i]? = some t → ks[i]? = some k → ofT V t = k
 | [], _, _, _, i, t, k, h, _ => by simp at h
 | _ :: _, [], _, _, i, t, k, _, h => by simp at h
 | t :: ts, k :: ks, f, h, 0, t', k', h1, h2 => by
  rw [Q3] at h
  simp at h h1 h2; subst h1 h2; exact h.1.1
 | t :: ts, k :: ks, f, h, i + 1, t', k', h1, h2 => by
  rw [Q3] at h
  simp at h h1 h2; exact Xg h.2 i t' k' h1 h2
end Go.Proofs.YtdcmppdhdcjpfaaGreat
namespace Go.Proofs.YtdcmppdhdcjpfaaGreat
open Go.RowKit
structure Ms where
 vals : List Int
 arrs : List (List Int)
 fuel : Nat
 steps : Nat
 evs : List EvV
 out : Option (Int × Int)
def Ms.stop (s : Ms) (k v : Int) : Ms := { s with out := some (k, v) }
def Ms.stopped (s : Ms) (k v : Int) : Ms := if s.out.isSome then s else s.stop k v
def Ms.tick (s : Ms) : Ms := { s with fuel := s.fuel - 1, steps := s.steps + 1 }
def Ms.setv (s : Ms) (v a : Int) : Ms := { s with vals := s.vals.set v.toNat a, evs := s.evs ++ [⟨v, -1, a⟩] }
def Ms.arr (s : Ms) (v : Int) : List Int := (s.arrs[v.toNat]?).getD []
def Ms.seta (s : Ms) (v i a : Int) : Ms := { s with arrs := s.arrs.set v.toNat ((s.arr v).set i.toNat a), evs := s.evs ++ [⟨v, i, a⟩] }
def tr (b : Bool) : Int := if b then 1 else 0
def ZW (tag a b : Int) : Option Int :=
 if tag = 7 then some (wrap64 (a + b)) else if tag = 8 then some (wrap64 (a - b)) else if tag = 9 then some (wrap64 (a * b))
 else if tag = 10 then (if b = 0 then none else some (wrap64 (a.tdiv b))) else if tag = 11 then (if b = 0 then none else some (a.tmod b))
 else if tag = 12 then some (tr (decide (a = b))) else if tag = 13 then some (tr (decide (a ≠ b))) else if tag = 14 then some (tr (decide (a < b)))
 else if tag = 15 then some (tr (decide (a ≤ b))) else if tag = 16 then some (tr (decide (b < a))) else some (tr (decide (b ≤ a)))
def evT : Nat → Tr → Ms → Int × Ms
 | 0, _, s => (0, s)
 | n + 1, .node x ks, s =>
  if s.out.isSome then (0, s) else if s.fuel = 0 then (0, s.stop 4 0)
  else if x.tag = 1 ∨ x.tag = 2 then (x.n, s.tick) else if x.tag = 3 then ((s.vals[x.n.toNat]?).getD 0, s.tick) else if x.tag = 26 then (0, s.tick)
  else if x.tag = 20 then (0, ks.foldl (fun s k => (evT n k s).2) s.tick)
  else
   let p := evT n (ks.getD 0 (.node x [])) s.tick
   if p.2.out.isSome then (0, p.2)
   else if x.tag = 4 then (if p.1 < 0 ∨ ((p.2.arr x.n).length : Int) ≤ p.1 then (0, p.2.stop 2 0) else (((p.2.arr x.n)[p.1.toNat]?).getD 0, p.2))
   else if x.tag = 5 then (wrap64 (-p.1), p.2) else if x.tag = 6 then (1 - p.1, p.2)
   else if x.tag = 18 then (if p.1 = 0 then (0, p.2) else evT n (ks.getD 1 (.node x [])) p.2)
   else if x.tag = 19 then (if p.1 = 1 then (1, p.2) else evT n (ks.getD 1 (.node x [])) p.2)
   else if x.tag = 21 then (0, p.2.setv x.n p.1)
   else if x.tag = 23 then evT n (ks.getD (2 - p.1).toNat (.node x [])) p.2
   else if x.tag = 24 then (if p.1 = 1 then (0, (evT n (.node x ks) (evT n (ks.getD 1 (.node x [])) p.2).2).2) else (0, p.2))
   else if x.tag = 25 then (0, p.2.stop 0 p.1)
   else
    let q := evT n (ks.getD 1 (.node x [])) p.2
    if q.2.out.isSome then (0, q.2)
    else if x.tag = 22 then (if p.1 < 0 ∨ ((q.2.arr x.n).length : Int) ≤ p.1 then (0, q.2.stop 2 0) else (0, q.2.seta x.n p.1 q.1))
    else match ZW x.tag p.1 q.1 with | none => (0, q.2.stop 1 0) | some c => (c, q.2)
inductive Shape (V : List Int) : Nd → List Tr → Int → Prop
 | int (x : Nd) (h : x.tag = 1) : Shape V x [] 0
 | bool (x : Nd) (h : x.tag = 2) (hn : x.n = 0 ∨ x.n = 1) : Shape V x [] 1
 | var (x : Nd) (k : Int) (h : x.tag = 3) (hn : 0 ≤ x.n) (hv : V[x.n.toNat]? = some k) (hk : k = 0 ∨ k = 1) : Shape V x [] k
 | skip (x : Nd) (h : x.tag = 26) : Shape V x [] 2
 | block (x : Nd) (ks : List Tr) (h : x.tag = 20) (hk : ∀ k ∈ ks, ofT V k = 2) : Shape V x ks 2
 | at_ (x : Nd) (a : Tr) (h : x.tag = 4) (hn : 0 ≤ x.n) (t : Int) (hv : V[x.n.toNat]? = some t) (ht : QU t ≠ 0) (ha : ofT V a = 0) : Shape V x [a] 0
 | neg (x : Nd) (a : Tr) (h : x.tag = 5) (ha : ofT V a = 0) : Shape V x [a] 0
 | not (x : Nd) (a : Tr) (h : x.tag = 6) (ha : ofT V a = 1) : Shape V x [a] 1
 | pair (x : Nd) (a b : Tr) (k : Int) (h : 7 ≤ x.tag ∧ x.tag ≤ 17) (hk : k = if x.tag ≤ 11 then 0 else 1) (ha : ofT V a = 0) (hb : ofT V b = 0) : Shape V x [a, b] k
 | logic (x : Nd) (a b : Tr) (h : x.tag = 18 ∨ x.tag = 19) (ha : ofT V a = 1) (hb : ofT V b = 1) : Shape V x [a, b] 1
 | set (x : Nd) (a : Tr) (h : x.tag = 21) (hn : 0 ≤ x.n) (t : Int) (hv : V[x.n.toNat]? = some t) (ht : t = 0 ∨ t = 1) (ha : ofT V a = t) : Shape V x [a] 2
 | put (x : Nd) (a b : Tr) (h : x.tag = 22) (hn : 0 ≤ x.n) (t : Int) (hv : V[x.n.toNat]? = some t) (ht : QU t ≠ 0) (ha : ofT V a = 0) (hb : ofT V b = 0) : Shape V x [a, b] 2
 | ifs (x : Nd) (a b c : Tr) (h : x.tag = 23) (ha : ofT V a = 1) (hb : ofT V b = 2) (hc : ofT V c = 2) (tb : b.root.tag = 20) (tc : c.root.tag = 20) : Shape V x [a, b, c] 2
 | while (x : Nd) (a b : Tr) (h : x.tag = 24) (ha : ofT V a = 1) (hb : ofT V b = 2) (tb : b.root.tag = 20) : Shape V x [a, b] 2
 | ret (x : Nd) (a : Tr) (h : x.tag = 25) (ha : ofT V a = 0) : Shape V x [a] 2
theorem Ahy {α : Type} {l : List α} (h : l.length = 0) : l = [] := List.eq_nil_of_length_eq_zero h
theorem Agb {α : Type} {l : List α} (h : l.length = 1) : ∃ a, l = [a] := by
 match l, h with
 | [a], _ => exact ⟨a, rfl⟩
theorem Ae6 {α : Type} {l : List α} (h : l.length = 2) : ∃ a b, l = [a, b] := by
 match l, h with
 | [a, b], _ => exact ⟨a, b, rfl⟩
theorem Ajr {α : Type} {l : List α} (h : l.length = 3) : ∃ a b c, l = [a, b, c] := by
 match l, h with
 | [a, b, c], _ => exact ⟨a, b, c, rfl⟩
theorem Zh {V : List Int} {inn f : Bool} {t : Tr} {ts : List Tr} {k : Int} {ks : List Int} : Q3 V inn f (t :: ts) (k :: ks) = (ofT V t == k && (!(inn && !f) || t.root.tag == 20) && Q3 V inn false ts ks) := by rw [Q3]
theorem Zs {V : List Int} {inn f : Bool} {ks : List Int} : Q3 V inn f [] ks = true := by rw [Q3]
theorem EK {x : Nd} (h : 0 ≤ Qv x) : x.tag = 1 ∨ (0 ≤ x.n ∧ x.n ≤ (Q2 x).1) := by
 unfold Qv at h
 by_cases h1 : x.tag = 1
 · exact .inl h1
 · rw [if_neg h1] at h
   split at h
   · omega
   · right; omega
theorem Adx {x : Nd} (h : 0 ≤ (Q2 x).1) : 2 ≤ x.tag ∧ x.tag ≤ 26 := by
 unfold Q2 at h
 by_cases h1 : 2 ≤ x.tag ∧ x.tag ≤ 26
 · exact h1
 · rw [if_neg (by omega), if_neg (by omega), if_neg (by omega), if_neg (by omega), if_neg (by omega), if_neg (by omega), if_neg (by omega), if_neg (by omega), if_neg (by omega), if_neg (by omega)] at h
   simp at h
theorem Ai5 {V : List Int} {x : Nd} {ks : List Tr} (hf : (Tr.node x ks).fits) (h : ofT V (.node x ks) ≠ -1) : Shape V x ks (ofT V (.node x ks)) := by
 obtain ⟨he, h1, hl, hk⟩ := Kx h
 rw [he]
 have hb := EK (x := x) (by have := hf.arity; simp [Tr.root, Tr.kids] at this; omega)
 clear he h hf
 by_cases e1 : x.tag = 1
 · simp only [isZ, QM, e1] at h1 hl ⊢
   obtain rfl := Ahy (l := ks) (by simpa using hl.symm)
   exact .int x e1
 have hb : 0 ≤ x.n ∧ x.n ≤ (Q2 x).1 := by omega
 have ht := Adx (x := x) (by omega)
 obtain ⟨t, htt⟩ : ∃ t, t = x.tag := ⟨_, rfl⟩
 have hc : x.tag = 2 ∨ x.tag = 3 ∨ x.tag = 4 ∨ x.tag = 5 ∨ x.tag = 6 ∨ (7 ≤ x.tag ∧ x.tag ≤ 11) ∨ (12 ≤ x.tag ∧ x.tag ≤ 17) ∨ x.tag = 18 ∨ x.tag = 19 ∨ x.tag = 20 ∨ x.tag = 21 ∨ x.tag = 22 ∨ x.tag = 23 ∨ x.tag = 24 ∨ x.tag = 25 ∨ x.tag = 26 := by omega
 rcases hc with e | e | e | e | e | e | e | e | e | e | e | e | e | e | e | e
 · simp [isZ, QM, Q2, e] at h1 hl hb ⊢
   obtain rfl := Ahy (l := ks) hl.symm
   exact .bool x e (by omega)
 · simp [isZ, QM, e] at h1 hl ⊢
   obtain rfl := Ahy (l := ks) hl.symm
   obtain ⟨k, hv, hk2⟩ := Xz h1.1
   rw [if_pos h1.1, hv]
   exact .var x k e hb.1 hv hk2
 · simp [isZ, QM, e] at h1 hl hk ⊢
   obtain ⟨a, rfl⟩ := Agb hl.symm
   obtain ⟨k, hv, hk2⟩ := U3 h1
   rw [if_pos h1]
   simp [Zh, Zs, Q4, e] at hk
   exact .at_ x a e hb.1 k hv hk2 hk
 · simp [isZ, QM, e] at h1 hl hk ⊢
   obtain ⟨a, rfl⟩ := Agb hl.symm
   simp [Zh, Zs, Q4, e] at hk
   exact .neg x a e hk
 · simp [isZ, QM, e] at h1 hl hk ⊢
   obtain ⟨a, rfl⟩ := Agb hl.symm
   simp [Zh, Zs, Q4, e] at hk
   exact .not x a e hk
 · have e0 : isZ V x = 0 := by unfold isZ; rw [if_neg (by omega), if_neg (by omega), if_neg (by omega), if_neg (by omega), if_neg (by omega), if_neg (by omega), if_pos (by omega)]
   have e2 : ∀ n, QM V x n = [0, 0] := fun n => by unfold QM; rw [if_neg (by omega), if_neg (by omega), if_pos (by omega)]
   rw [e2] at hl hk
   obtain ⟨a, b, rfl⟩ := Ae6 hl.symm
   have hi : Q4 x = false := by simp [Q4]; omega
   simp [Zh, Zs, hi] at hk
   rw [e0]
   exact .pair x a b 0 (by omega) (by rw [if_pos (by omega)]) hk.1 hk.2
 · have e0 : isZ V x = 1 := by unfold isZ; rw [if_neg (by omega), if_neg (by omega), if_neg (by omega), if_neg (by omega), if_neg (by omega), if_neg (by omega), if_neg (by omega), if_pos (by omega)]
   have e2 : ∀ n, QM V x n = [0, 0] := fun n => by unfold QM; rw [if_neg (by omega), if_neg (by omega), if_pos (by omega)]
   rw [e2] at hl hk
   obtain ⟨a, b, rfl⟩ := Ae6 hl.symm
   have hi : Q4 x = false := by simp [Q4]; omega
   simp [Zh, Zs, hi] at hk
   rw [e0]
   exact .pair x a b 1 (by omega) (by rw [if_neg (by omega)]) hk.1 hk.2
 · simp [isZ, QM, e] at h1 hl hk ⊢
   obtain ⟨a, b, rfl⟩ := Ae6 hl.symm
   simp [Zh, Zs, Q4, e] at hk
   exact .logic x a b (.inl e) hk.1 hk.2
 · simp [isZ, QM, e] at h1 hl hk ⊢
   obtain ⟨a, b, rfl⟩ := Ae6 hl.symm
   simp [Zh, Zs, Q4, e] at hk
   exact .logic x a b (.inr e) hk.1 hk.2
 · simp [isZ, QM, e] at h1 hl hk ⊢
   refine .block x ks e ?_
   have hi : Q4 x = false := by simp [Q4, e]
   rw [hi] at hk
   intro k hm
   obtain ⟨i, hi, rfl⟩ := List.mem_iff_getElem.1 hm
   exact Xg hk i _ 2 (List.getElem?_eq_getElem hi) (by simp [hi])
 · simp [isZ, QM, e] at h1 hl hk ⊢
   obtain ⟨a, rfl⟩ := Agb hl.symm
   obtain ⟨k, hv, hk2⟩ := Xz h1
   rw [if_pos h1]
   simp [Zh, Zs, Q4, e, hv] at hk
   exact .set x a e hb.1 k hv hk2 hk
 · simp [isZ, QM, e] at h1 hl hk ⊢
   obtain ⟨a, b, rfl⟩ := Ae6 hl.symm
   obtain ⟨k, hv, hk2⟩ := U3 h1
   rw [if_pos h1]
   simp [Zh, Zs, Q4, e] at hk
   exact .put x a b e hb.1 k hv hk2 hk.1 hk.2
 · simp [isZ, QM, e] at h1 hl hk ⊢
   obtain ⟨a, b, c, rfl⟩ := Ajr hl.symm
   simp [Zh, Zs, Q4, e] at hk
   exact .ifs x a b c e hk.1 hk.2.1.1 hk.2.2.1 hk.2.1.2 hk.2.2.2
 · simp [isZ, QM, e] at h1 hl hk ⊢
   obtain ⟨a, b, rfl⟩ := Ae6 hl.symm
   simp [Zh, Zs, Q4, e] at hk
   exact .while x a b e hk.1 hk.2.1 hk.2.2
 · simp [isZ, QM, e] at h1 hl hk ⊢
   obtain ⟨a, rfl⟩ := Agb hl.symm
   simp [Zh, Zs, Q4, e] at hk
   exact .ret x a e hk
 · simp [isZ, QM, e] at h1 hl hk ⊢
   obtain rfl := Ahy (l := ks) hl.symm
   exact .skip x e
inductive Gl where
 | one (t : Tr)
 | all (ts : List Tr)
def Ms.go (s : Ms) : Prop := s.out = none ∧ s.fuel ≠ 0
def XI (tag : Int) : Prop := ¬ (tag = 1 ∨ tag = 2 ∨ tag = 3 ∨ tag = 20 ∨ tag = 26)
def wide (tag : Int) : Prop := XI tag ∧ ¬ (tag = 4 ∨ tag = 5 ∨ tag = 6 ∨ tag = 18 ∨ tag = 19 ∨ tag = 21 ∨ tag = 23 ∨ tag = 24 ∨ tag = 25)
inductive Big : Gl → Ms → Int → Ms → Prop
 | nil (s : Ms) : Big (.all []) s 0 s
 | cons (t : Tr) (ts : List Tr) (s s1 s2 : Ms) (v u : Int) (h1 : Big (.one t) s v s1) (h2 : Big (.all ts) s1 u s2) : Big (.all (t :: ts)) s 0 s2
 | over (t : Tr) (s : Ms) (h : s.out.isSome = true) : Big (.one t) s 0 s
 | empty (t : Tr) (s : Ms) (h : s.out = none) (h0 : s.fuel = 0) : Big (.one t) s 0 (s.stop 4 0)
 | lit (x : Nd) (s : Ms) (h : s.go) (ht : x.tag = 1 ∨ x.tag = 2) : Big (.one (.node x [])) s x.n s.tick
 | var (x : Nd) (s : Ms) (h : s.go) (ht : x.tag = 3) : Big (.one (.node x [])) s ((s.vals[x.n.toNat]?).getD 0) s.tick
 | skip (x : Nd) (s : Ms) (h : s.go) (ht : x.tag = 26) : Big (.one (.node x [])) s 0 s.tick
 | block (x : Nd) (ks : List Tr) (s s1 : Ms) (u : Int) (h : s.go) (ht : x.tag = 20) (h1 : Big (.all ks) s.tick u s1) : Big (.one (.node x ks)) s 0 s1
 | cut (x : Nd) (a : Tr) (ks : List Tr) (s s1 : Ms) (v : Int) (h : s.go) (ht : XI x.tag) (h1 : Big (.one a) s.tick v s1) (ho : s1.out.isSome = true) : Big (.one (.node x (a :: ks))) s 0 s1
 | atNo (x : Nd) (a : Tr) (s s1 : Ms) (v : Int) (h : s.go) (ht : x.tag = 4) (h1 : Big (.one a) s.tick v s1) (ho : s1.out = none) (hb : v < 0 ∨ ((s1.arr x.n).length : Int) ≤ v) : Big (.one (.node x [a])) s 0 (s1.stop 2 0)
 | at_ (x : Nd) (a : Tr) (s s1 : Ms) (v : Int) (h : s.go) (ht : x.tag = 4) (h1 : Big (.one a) s.tick v s1) (ho : s1.out = none) (hb : ¬ (v < 0 ∨ ((s1.arr x.n).length : Int) ≤ v)) : Big (.one (.node x [a])) s (((s1.arr x.n)[v.toNat]?).getD 0) s1
 | neg (x : Nd) (a : Tr) (s s1 : Ms) (v : Int) (h : s.go) (ht : x.tag = 5) (h1 : Big (.one a) s.tick v s1) (ho : s1.out = none) : Big (.one (.node x [a])) s (wrap64 (-v)) s1
 | not (x : Nd) (a : Tr) (s s1 : Ms) (v : Int) (h : s.go) (ht : x.tag = 6) (h1 : Big (.one a) s.tick v s1) (ho : s1.out = none) : Big (.one (.node x [a])) s (1 - v) s1
 | and0 (x : Nd) (a b : Tr) (s s1 : Ms) (h : s.go) (ht : x.tag = 18) (h1 : Big (.one a) s.tick 0 s1) (ho : s1.out = none) : Big (.one (.node x [a, b])) s 0 s1
 | and1 (x : Nd) (a b : Tr) (s s1 s2 : Ms) (v u : Int) (h : s.go) (ht : x.tag = 18) (h1 : Big (.one a) s.tick v s1) (ho : s1.out = none) (hv : v ≠ 0) (h2 : Big (.one b) s1 u s2) : Big (.one (.node x [a, b])) s u s2
 | or1 (x : Nd) (a b : Tr) (s s1 : Ms) (h : s.go) (ht : x.tag = 19) (h1 : Big (.one a) s.tick 1 s1) (ho : s1.out = none) : Big (.one (.node x [a, b])) s 1 s1
 | or0 (x : Nd) (a b : Tr) (s s1 s2 : Ms) (v u : Int) (h : s.go) (ht : x.tag = 19) (h1 : Big (.one a) s.tick v s1) (ho : s1.out = none) (hv : v ≠ 1) (h2 : Big (.one b) s1 u s2) : Big (.one (.node x [a, b])) s u s2
 | set (x : Nd) (a : Tr) (s s1 : Ms) (v : Int) (h : s.go) (ht : x.tag = 21) (h1 : Big (.one a) s.tick v s1) (ho : s1.out = none) : Big (.one (.node x [a])) s 0 (s1.setv x.n v)
 | ifs (x : Nd) (a b c t : Tr) (s s1 s2 : Ms) (v u : Int) (h : s.go) (ht : x.tag = 23) (h1 : Big (.one a) s.tick v s1) (ho : s1.out = none) (hv : [a, b, c][(2 - v).toNat]? = some t) (h2 : Big (.one t) s1 u s2) : Big (.one (.node x [a, b, c])) s u s2
 | while0 (x : Nd) (a b : Tr) (s s1 : Ms) (v : Int) (h : s.go) (ht : x.tag = 24) (h1 : Big (.one a) s.tick v s1) (ho : s1.out = none) (hv : v ≠ 1) : Big (.one (.node x [a, b])) s 0 s1
 | while1 (x : Nd) (a b : Tr) (s s1 s2 s3 : Ms) (u r : Int) (h : s.go) (ht : x.tag = 24) (h1 : Big (.one a) s.tick 1 s1) (ho : s1.out = none) (h2 : Big (.one b) s1 u s2) (h3 : Big (.one (.node x [a, b])) s2 r s3) : Big (.one (.node x [a, b])) s 0 s3
 | ret (x : Nd) (a : Tr) (s s1 : Ms) (v : Int) (h : s.go) (ht : x.tag = 25) (h1 : Big (.one a) s.tick v s1) (ho : s1.out = none) : Big (.one (.node x [a])) s 0 (s1.stop 0 v)
 | cut2 (x : Nd) (a b : Tr) (s s1 s2 : Ms) (v u : Int) (h : s.go) (ht : wide x.tag) (h1 : Big (.one a) s.tick v s1) (ho : s1.out = none) (h2 : Big (.one b) s1 u s2) (ho2 : s2.out.isSome = true) : Big (.one (.node x [a, b])) s 0 s2
 | putNo (x : Nd) (a b : Tr) (s s1 s2 : Ms) (v u : Int) (h : s.go) (ht : x.tag = 22) (h1 : Big (.one a) s.tick v s1) (ho : s1.out = none) (h2 : Big (.one b) s1 u s2) (ho2 : s2.out = none) (hb : v < 0 ∨ ((s2.arr x.n).length : Int) ≤ v) : Big (.one (.node x [a, b])) s 0 (s2.stop 2 0)
 | put (x : Nd) (a b : Tr) (s s1 s2 : Ms) (v u : Int) (h : s.go) (ht : x.tag = 22) (h1 : Big (.one a) s.tick v s1) (ho : s1.out = none) (h2 : Big (.one b) s1 u s2) (ho2 : s2.out = none) (hb : ¬ (v < 0 ∨ ((s2.arr x.n).length : Int) ≤ v)) : Big (.one (.node x [a, b])) s 0 (s2.seta x.n v u)
 | pairNo (x : Nd) (a b : Tr) (s s1 s2 : Ms) (v u : Int) (h : s.go) (ht : 7 ≤ x.tag ∧ x.tag ≤ 17) (h1 : Big (.one a) s.tick v s1) (ho : s1.out = none) (h2 : Big (.one b) s1 u s2) (ho2 : s2.out = none) (hp : ZW x.tag v u = none) : Big (.one (.node x [a, b])) s 0 (s2.stop 1 0)
 | pair (x : Nd) (a b : Tr) (s s1 s2 : Ms) (v u c : Int) (h : s.go) (ht : 7 ≤ x.tag ∧ x.tag ≤ 17) (h1 : Big (.one a) s.tick v s1) (ho : s1.out = none) (h2 : Big (.one b) s1 u s2) (ho2 : s2.out = none) (hp : ZW x.tag v u = some c) : Big (.one (.node x [a, b])) s c s2
theorem QL {s : Ms} (h : s.go) : ¬ s.out.isSome = true ∧ ¬ s.fuel = 0 := by rw [h.1]; exact ⟨by simp, h.2⟩
theorem QC {s : Ms} (h : s.go) : s.tick.fuel + 1 = s.fuel := by have := h.2; simp [Ms.tick]; omega
structure Ext (s s' : Ms) : Prop where
 fuel : s'.fuel ≤ s.fuel
 sum : s'.fuel + s'.steps = s.fuel + s.steps
 evs : ∃ m, s'.evs = s.evs ++ m
 few : s'.evs.length + s.steps ≤ s.evs.length + s'.steps
theorem Ext.refl (s : Ms) : Ext s s := ⟨Nat.le_refl _, rfl, ⟨[], by simp⟩, Nat.le_refl _⟩
theorem Ext.trans {a b c : Ms} (h : Ext a b) (k : Ext b c) : Ext a c := by
 obtain ⟨m, hm⟩ := h.evs
 obtain ⟨m', hm'⟩ := k.evs
 exact ⟨Nat.le_trans k.fuel h.fuel, k.sum.trans h.sum, ⟨m ++ m', by rw [hm', hm, List.append_assoc]⟩, by have := h.few; have := k.few; omega⟩
theorem Ext.stop {a b : Ms} (h : Ext a b) (k v : Int) : Ext a (b.stop k v) := ⟨h.fuel, h.sum, h.evs, h.few⟩
theorem Ext.tick {s : Ms} (h : s.go) : Ext s s.tick := ⟨by simp [Ms.tick], by have := h.2; simp [Ms.tick]; omega, ⟨[], by simp [Ms.tick]⟩, by simp [Ms.tick]⟩
theorem AfX {s b : Ms} {e : EvV} (hg : s.go) (h : Ext s.tick b) {c : Ms} (hf : c.fuel = b.fuel) (hs : c.steps = b.steps) (he : c.evs = b.evs ++ [e]) : Ext s c := by
 obtain ⟨m, hm⟩ := h.evs
 have h1 := h.sum
 have h2 := h.few
 have h3 := h.fuel
 have h4 := (Ext.tick hg).sum
 have h5 := (Ext.tick hg).fuel
 have h6 : s.tick.steps = s.steps + 1 := rfl
 have h7 : s.tick.evs = s.evs := rfl
 exact ⟨by omega, by omega, ⟨m ++ [e], by rw [he, hm, h7, List.append_assoc]⟩, by rw [he, List.length_append, List.length_singleton]; rw [h7] at h2; omega⟩
theorem Big.ext {g : Gl} {s s' : Ms} {v : Int} (h : Big g s v s') : Ext s s' := by
 induction h with
 | nil s => exact .refl s
 | cons t ts s s1 s2 v u h1 h2 i1 i2 => exact i1.trans i2
 | over t s h => exact .refl s
 | empty t s h h0 => exact (Ext.refl s).stop 4 0
 | lit x s h ht => exact .tick h
 | var x s h ht => exact .tick h
 | skip x s h ht => exact .tick h
 | block x ks s s1 u h ht h1 i1 => exact (Ext.tick h).trans i1
 | cut x a ks s s1 v h ht h1 ho i1 => exact (Ext.tick h).trans i1
 | atNo x a s s1 v h ht h1 ho hb i1 => exact ((Ext.tick h).trans i1).stop _ _
 | at_ x a s s1 v h ht h1 ho hb i1 => exact (Ext.tick h).trans i1
 | neg x a s s1 v h ht h1 ho i1 => exact (Ext.tick h).trans i1
 | not x a s s1 v h ht h1 ho i1 => exact (Ext.tick h).trans i1
 | and0 x a b s s1 h ht h1 ho i1 => exact (Ext.tick h).trans i1
 | and1 x a b s s1 s2 v u h ht h1 ho hv h2 i1 i2 => exact ((Ext.tick h).trans i1).trans i2
 | or1 x a b s s1 h ht h1 ho i1 => exact (Ext.tick h).trans i1
 | or0 x a b s s1 s2 v u h ht h1 ho hv h2 i1 i2 => exact ((Ext.tick h).trans i1).trans i2
 | set x a s s1 v h ht h1 ho i1 => exact AfX h i1 rfl rfl rfl
 | ifs x a b c t s s1 s2 v u h ht h1 ho hv h2 i1 i2 => exact ((Ext.tick h).trans i1).trans i2
 | while0 x a b s s1 v h ht h1 ho hv i1 => exact (Ext.tick h).trans i1
 | while1 x a b s s1 s2 s3 u r h ht h1 ho h2 h3 i1 i2 i3 => exact (((Ext.tick h).trans i1).trans i2).trans i3
 | ret x a s s1 v h ht h1 ho i1 => exact ((Ext.tick h).trans i1).stop _ _
 | cut2 x a b s s1 s2 v u h ht h1 ho h2 ho2 i1 i2 => exact ((Ext.tick h).trans i1).trans i2
 | putNo x a b s s1 s2 v u h ht h1 ho h2 ho2 hb i1 i2 => exact (((Ext.tick h).trans i1).trans i2).stop _ _
 | put x a b s s1 s2 v u h ht h1 ho h2 ho2 hb i1 i2 => exact AfX h (i1.trans i2) rfl rfl rfl
 | pairNo x a b s s1 s2 v u h ht h1 ho h2 ho2 hp i1 i2 => exact (((Ext.tick h).trans i1).trans i2).stop _ _
 | pair x a b s s1 s2 v u c h ht h1 ho h2 ho2 hp i1 i2 => exact ((Ext.tick h).trans i1).trans i2
def evG (n : Nat) : Gl → Ms → Int × Ms
 | .one t, s => evT n t s
 | .all ts, s => (0, ts.foldl (fun s k => (evT n k s).2) s)
theorem QG {α : Type} {o : Option α} (h : o = none) : ¬ o.isSome = true := by rw [h]; simp
theorem Big.ev {g : Gl} {s s' : Ms} {v : Int} (h : Big g s v s') : ∀ n, s.fuel < n → evG n g s = (v, s') := by
 induction h with
 | nil s => intro n hn; rfl
 | cons t ts s s1 s2 v u h1 h2 i1 i2 =>
  intro n hn
  have e1 := i1 n hn
  have e2 := i2 n (Nat.lt_of_le_of_lt h1.ext.fuel hn)
  simp only [evG, List.foldl_cons, Prod.mk.injEq] at e1 e2 ⊢
  rw [e1]; exact ⟨trivial, e2.2⟩
 | over t s h =>
  intro n hn
  obtain ⟨m, rfl⟩ : ∃ m, n = m + 1 := ⟨n - 1, by omega⟩
  cases t; rw [evG, evT, if_pos h]
 | empty t s h h0 =>
  intro n hn
  obtain ⟨m, rfl⟩ : ∃ m, n = m + 1 := ⟨n - 1, by omega⟩
  cases t; rw [evG, evT, if_neg (QG h), if_pos h0]
 | lit x s h ht =>
  intro n hn
  obtain ⟨m, rfl⟩ : ∃ m, n = m + 1 := ⟨n - 1, by omega⟩
  rw [evG, evT, if_neg (QL h).1, if_neg (QL h).2, if_pos ht]
 | var x s h ht =>
  intro n hn
  obtain ⟨m, rfl⟩ : ∃ m, n = m + 1 := ⟨n - 1, by omega⟩
  rw [evG, evT, if_neg (QL h).1, if_neg (QL h).2, if_neg (by omega), if_pos ht]
 | skip x s h ht =>
  intro n hn
  obtain ⟨m, rfl⟩ : ∃ m, n = m + 1 := ⟨n - 1, by omega⟩
  rw [evG, evT, if_neg (QL h).1, if_neg (QL h).2, if_neg (by omega), if_neg (by omega), if_pos ht]
 | block x ks s s1 u h ht h1 i1 =>
  intro n hn
  obtain ⟨m, rfl⟩ : ∃ m, n = m + 1 := ⟨n - 1, by omega⟩
  have e1 := i1 m (by have := QC h; omega)
  rw [evG, evT, if_neg (QL h).1, if_neg (QL h).2, if_neg (by omega), if_neg (by omega), if_neg (by omega), if_pos ht]
  simp only [evG, Prod.mk.injEq] at e1 ⊢
  exact ⟨trivial, e1.2⟩
 | cut x a ks s s1 v h ht h1 ho i1 =>
  intro n hn
  obtain ⟨m, rfl⟩ : ∃ m, n = m + 1 := ⟨n - 1, by omega⟩
  have e1 := i1 m (by have := QC h; omega)
  unfold XI at ht
  rw [evG, evT, if_neg (QL h).1, if_neg (QL h).2, if_neg (by omega), if_neg (by omega), if_neg (by omega), if_neg (by omega)]
  simp only [evG] at e1
  simp only [List.getD_cons_zero, e1, ho, if_true]
 | atNo x a s s1 v h ht h1 ho hb i1 =>
  intro n hn
  obtain ⟨m, rfl⟩ : ∃ m, n = m + 1 := ⟨n - 1, by omega⟩
  have e1 := i1 m (by have := QC h; omega)
  rw [evG, evT, if_neg (QL h).1, if_neg (QL h).2, if_neg (by omega), if_neg (by omega), if_neg (by omega), if_neg (by omega)]
  simp only [evG] at e1
  simp only [List.getD_cons_zero, e1]
  rw [if_neg (QG ho), if_pos ht, if_pos hb]
 | at_ x a s s1 v h ht h1 ho hb i1 =>
  intro n hn
  obtain ⟨m, rfl⟩ : ∃ m, n = m + 1 := ⟨n - 1, by omega⟩
  have e1 := i1 m (by have := QC h; omega)
  rw [evG, evT, if_neg (QL h).1, if_neg (QL h).2, if_neg (by omega), if_neg (by omega), if_neg (by omega), if_neg (by omega)]
  simp only [evG] at e1
  simp only [List.getD_cons_zero, e1]
  rw [if_neg (QG ho), if_pos ht, if_neg hb]
 | neg x a s s1 v h ht h1 ho i1 =>
  intro n hn
  obtain ⟨m, rfl⟩ : ∃ m, n = m + 1 := ⟨n - 1, by omega⟩
  have e1 := i1 m (by have := QC h; omega)
  rw [evG, evT, if_neg (QL h).1, if_neg (QL h).2, if_neg (by omega), if_neg (by omega), if_neg (by omega), if_neg (by omega)]
  simp only [evG] at e1
  simp only [List.getD_cons_zero, e1]
  rw [if_neg (QG ho), if_neg (by omega), if_pos ht]
 | not x a s s1 v h ht h1 ho i1 =>
  intro n hn
  obtain ⟨m, rfl⟩ : ∃ m, n = m + 1 := ⟨n - 1, by omega⟩
  have e1 := i1 m (by have := QC h; omega)
  rw [evG, evT, if_neg (QL h).1, if_neg (QL h).2, if_neg (by omega), if_neg (by omega), if_neg (by omega), if_neg (by omega)]
  simp only [evG] at e1
  simp only [List.getD_cons_zero, e1]
  rw [if_neg (QG ho), if_neg (by omega), if_neg (by omega), if_pos ht]
 | and0 x a b s s1 h ht h1 ho i1 =>
  intro n hn
  obtain ⟨m, rfl⟩ : ∃ m, n = m + 1 := ⟨n - 1, by omega⟩
  have e1 := i1 m (by have := QC h; omega)
  rw [evG, evT, if_neg (QL h).1, if_neg (QL h).2, if_neg (by omega), if_neg (by omega), if_neg (by omega), if_neg (by omega)]
  simp only [evG] at e1
  simp only [List.getD_cons_zero, e1]
  rw [if_neg (QG ho), if_neg (by omega), if_neg (by omega), if_neg (by omega), if_pos ht, if_pos True.intro]
 | and1 x a b s s1 s2 v u h ht h1 ho hv h2 i1 i2 =>
  intro n hn
  obtain ⟨m, rfl⟩ : ∃ m, n = m + 1 := ⟨n - 1, by omega⟩
  have e1 := i1 m (by have := QC h; omega)
  have e2 := i2 m (by have := QC h; have := h1.ext.fuel; omega)
  rw [evG, evT, if_neg (QL h).1, if_neg (QL h).2, if_neg (by omega), if_neg (by omega), if_neg (by omega), if_neg (by omega)]
  simp only [evG] at e1 e2
  simp only [List.getD_cons_zero, List.getD_cons_succ, e1, e2]
  rw [if_neg (QG ho), if_neg (by omega), if_neg (by omega), if_neg (by omega), if_pos ht, if_neg hv]
 | or1 x a b s s1 h ht h1 ho i1 =>
  intro n hn
  obtain ⟨m, rfl⟩ : ∃ m, n = m + 1 := ⟨n - 1, by omega⟩
  have e1 := i1 m (by have := QC h; omega)
  rw [evG, evT, if_neg (QL h).1, if_neg (QL h).2, if_neg (by omega), if_neg (by omega), if_neg (by omega), if_neg (by omega)]
  simp only [evG] at e1
  simp only [List.getD_cons_zero, e1]
  rw [if_neg (QG ho), if_neg (by omega), if_neg (by omega), if_neg (by omega), if_neg (by omega), if_pos ht, if_pos True.intro]
 | or0 x a b s s1 s2 v u h ht h1 ho hv h2 i1 i2 =>
  intro n hn
  obtain ⟨m, rfl⟩ : ∃ m, n = m + 1 := ⟨n - 1, by omega⟩
  have e1 := i1 m (by have := QC h; omega)
  have e2 := i2 m (by have := QC h; have := h1.ext.fuel; omega)
  rw [evG, evT, if_neg (QL h).1, if_neg (QL h).2, if_neg (by omega), if_neg (by omega), if_neg (by omega), if_neg (by omega)]
  simp only [evG] at e1 e2
  simp only [List.getD_cons_zero, List.getD_cons_succ, e1, e2]
  rw [if_neg (QG ho), if_neg (by omega), if_neg (by omega), if_neg (by omega), if_neg (by omega), if_pos ht, if_neg hv]
 | set x a s s1 v h ht h1 ho i1 =>
  intro n hn
  obtain ⟨m, rfl⟩ : ∃ m, n = m + 1 := ⟨n - 1, by omega⟩
  have e1 := i1 m (by have := QC h; omega)
  rw [evG, evT, if_neg (QL h).1, if_neg (QL h).2, if_neg (by omega), if_neg (by omega), if_neg (by omega), if_neg (by omega)]
  simp only [evG] at e1
  simp only [List.getD_cons_zero, e1]
  rw [if_neg (QG ho), if_neg (by omega), if_neg (by omega), if_neg (by omega), if_neg (by omega), if_neg (by omega), if_pos ht]
 | ifs x a b c t s s1 s2 v u h ht h1 ho hv h2 i1 i2 =>
  intro n hn
  obtain ⟨m, rfl⟩ : ∃ m, n = m + 1 := ⟨n - 1, by omega⟩
  have e1 := i1 m (by have := QC h; omega)
  have e2 := i2 m (by have := QC h; have := h1.ext.fuel; omega)
  rw [evG, evT, if_neg (QL h).1, if_neg (QL h).2, if_neg (by omega), if_neg (by omega), if_neg (by omega), if_neg (by omega)]
  simp only [evG] at e1 e2
  have hg : [a, b, c].getD (2 - v).toNat (.node x []) = t := by rw [List.getD_eq_getElem?_getD, hv]; rfl
  simp only [List.getD_cons_zero, e1]
  rw [if_neg (QG ho), if_neg (by omega), if_neg (by omega), if_neg (by omega), if_neg (by omega), if_neg (by omega), if_neg (by omega), if_pos ht, hg, e2]
 | while0 x a b s s1 v h ht h1 ho hv i1 =>
  intro n hn
  obtain ⟨m, rfl⟩ : ∃ m, n = m + 1 := ⟨n - 1, by omega⟩
  have e1 := i1 m (by have := QC h; omega)
  rw [evG, evT, if_neg (QL h).1, if_neg (QL h).2, if_neg (by omega), if_neg (by omega), if_neg (by omega), if_neg (by omega)]
  simp only [evG] at e1
  simp only [List.getD_cons_zero, e1]
  rw [if_neg (QG ho), if_neg (by omega), if_neg (by omega), if_neg (by omega), if_neg (by omega), if_neg (by omega), if_neg (by omega), if_neg (by omega), if_pos ht, if_neg hv]
 | while1 x a b s s1 s2 s3 u r h ht h1 ho h2 h3 i1 i2 i3 =>
  intro n hn
  obtain ⟨m, rfl⟩ : ∃ m, n = m + 1 := ⟨n - 1, by omega⟩
  have e1 := i1 m (by have := QC h; omega)
  have e2 := i2 m (by have := QC h; have := h1.ext.fuel; omega)
  have e3 := i3 m (by have := QC h; have := h1.ext.fuel; have := h2.ext.fuel; omega)
  rw [evG, evT, if_neg (QL h).1, if_neg (QL h).2, if_neg (by omega), if_neg (by omega), if_neg (by omega), if_neg (by omega)]
  simp only [evG] at e1 e2 e3
  simp only [List.getD_cons_zero, List.getD_cons_succ, e1, e2, e3]
  rw [if_neg (QG ho), if_neg (by omega), if_neg (by omega), if_neg (by omega), if_neg (by omega), if_neg (by omega), if_neg (by omega), if_neg (by omega), if_pos ht, if_pos True.intro]
 | ret x a s s1 v h ht h1 ho i1 =>
  intro n hn
  obtain ⟨m, rfl⟩ : ∃ m, n = m + 1 := ⟨n - 1, by omega⟩
  have e1 := i1 m (by have := QC h; omega)
  rw [evG, evT, if_neg (QL h).1, if_neg (QL h).2, if_neg (by omega), if_neg (by omega), if_neg (by omega), if_neg (by omega)]
  simp only [evG] at e1
  simp only [List.getD_cons_zero, e1]
  rw [if_neg (QG ho), if_neg (by omega), if_neg (by omega), if_neg (by omega), if_neg (by omega), if_neg (by omega), if_neg (by omega), if_neg (by omega), if_neg (by omega), if_pos ht]
 | cut2 x a b s s1 s2 v u h ht h1 ho h2 ho2 i1 i2 =>
  intro n hn
  obtain ⟨m, rfl⟩ : ∃ m, n = m + 1 := ⟨n - 1, by omega⟩
  have e1 := i1 m (by have := QC h; omega)
  have e2 := i2 m (by have := QC h; have := h1.ext.fuel; omega)
  unfold wide XI at ht
  rw [evG, evT, if_neg (QL h).1, if_neg (QL h).2, if_neg (by omega), if_neg (by omega), if_neg (by omega), if_neg (by omega)]
  simp only [evG] at e1 e2
  simp only [List.getD_cons_zero, List.getD_cons_succ, e1, e2]
  rw [if_neg (QG ho), if_neg (by omega), if_neg (by omega), if_neg (by omega), if_neg (by omega), if_neg (by omega), if_neg (by omega), if_neg (by omega), if_neg (by omega), if_neg (by omega), if_pos ho2]
 | putNo x a b s s1 s2 v u h ht h1 ho h2 ho2 hb i1 i2 =>
  intro n hn
  obtain ⟨m, rfl⟩ : ∃ m, n = m + 1 := ⟨n - 1, by omega⟩
  have e1 := i1 m (by have := QC h; omega)
  have e2 := i2 m (by have := QC h; have := h1.ext.fuel; omega)
  rw [evG, evT, if_neg (QL h).1, if_neg (QL h).2, if_neg (by omega), if_neg (by omega), if_neg (by omega), if_neg (by omega)]
  simp only [evG] at e1 e2
  simp only [List.getD_cons_zero, List.getD_cons_succ, e1, e2]
  rw [if_neg (QG ho), if_neg (by omega), if_neg (by omega), if_neg (by omega), if_neg (by omega), if_neg (by omega), if_neg (by omega), if_neg (by omega), if_neg (by omega), if_neg (by omega), if_neg (QG ho2), if_pos ht, if_pos hb]
 | put x a b s s1 s2 v u h ht h1 ho h2 ho2 hb i1 i2 =>
  intro n hn
  obtain ⟨m, rfl⟩ : ∃ m, n = m + 1 := ⟨n - 1, by omega⟩
  have e1 := i1 m (by have := QC h; omega)
  have e2 := i2 m (by have := QC h; have := h1.ext.fuel; omega)
  rw [evG, evT, if_neg (QL h).1, if_neg (QL h).2, if_neg (by omega), if_neg (by omega), if_neg (by omega), if_neg (by omega)]
  simp only [evG] at e1 e2
  simp only [List.getD_cons_zero, List.getD_cons_succ, e1, e2]
  rw [if_neg (QG ho), if_neg (by omega), if_neg (by omega), if_neg (by omega), if_neg (by omega), if_neg (by omega), if_neg (by omega), if_neg (by omega), if_neg (by omega), if_neg (by omega), if_neg (QG ho2), if_pos ht, if_neg hb]
 | pairNo x a b s s1 s2 v u h ht h1 ho h2 ho2 hp i1 i2 =>
  intro n hn
  obtain ⟨m, rfl⟩ : ∃ m, n = m + 1 := ⟨n - 1, by omega⟩
  have e1 := i1 m (by have := QC h; omega)
  have e2 := i2 m (by have := QC h; have := h1.ext.fuel; omega)
  rw [evG, evT, if_neg (QL h).1, if_neg (QL h).2, if_neg (by omega), if_neg (by omega), if_neg (by omega), if_neg (by omega)]
  simp only [evG] at e1 e2
  simp only [List.getD_cons_zero, List.getD_cons_succ, e1, e2]
  rw [if_neg (QG ho), if_neg (by omega), if_neg (by omega), if_neg (by omega), if_neg (by omega), if_neg (by omega), if_neg (by omega), if_neg (by omega), if_neg (by omega), if_neg (by omega), if_neg (QG ho2), if_neg (by omega), hp]
 | pair x a b s s1 s2 v u c h ht h1 ho h2 ho2 hp i1 i2 =>
  intro n hn
  obtain ⟨m, rfl⟩ : ∃ m, n = m + 1 := ⟨n - 1, by omega⟩
  have e1 := i1 m (by have := QC h; omega)
  have e2 := i2 m (by have := QC h; have := h1.ext.fuel; omega)
  rw [evG, evT, if_neg (QL h).1, if_neg (QL h).2, if_neg (by omega), if_neg (by omega), if_neg (by omega), if_neg (by omega)]
  simp only [evG] at e1 e2
  simp only [List.getD_cons_zero, List.getD_cons_succ, e1, e2]
  rw [if_neg (QG ho), if_neg (by omega), if_neg (by omega), if_neg (by omega), if_neg (by omega), if_neg (by omega), if_neg (by omega), if_neg (by omega), if_neg (by omega), if_neg (by omega), if_neg (QG ho2), if_neg (by omega), hp]
structure OkE (V : List Int) (e : EvV) : Prop where
 ok : e.ok
 lo : 0 ≤ e.var
 how : ∃ t, V[e.var.toNat]? = some t ∧ ((QU t = 0 ∧ e.at_ = -1 ∧ (t = 0 ∨ e.val = 0 ∨ e.val = 1)) ∨ (QU t ≠ 0 ∧ 0 ≤ e.at_ ∧ e.at_ < QU t))
structure OkS (V : List Int) (s : Ms) : Prop where
 vlen : s.vals.length = V.length
 alen : s.arrs.length = V.length
 val : ∀ (i : Nat) (t v : Int), V[i]? = some t → s.vals[i]? = some v → InI v ∧ (t = 1 → v = 0 ∨ v = 1)
 arr : ∀ (i : Nat) (t : Int) (a : List Int), V[i]? = some t → s.arrs[i]? = some a → (a.length : Int) = QU t ∧ ∀ x ∈ a, InI x
 evs : ∀ e ∈ s.evs, OkE V e
 out : ∀ k v, s.out = some (k, v) → (k = 0 ∧ InI v) ∨ (1 ≤ k ∧ k ≤ 4 ∧ v = 0)
 lim : V.length ≤ 100
def okT (t : Tr) : Prop := ∀ x ∈ t.flat, InI x.n
def okO (V : List Int) (t : Tr) : Prop := t.fits ∧ ofT V t ≠ -1 ∧ okT t
def okG (V : List Int) : Gl → Prop
 | .one t => okO V t
 | .all ts => ∀ t ∈ ts, okO V t ∧ ofT V t = 2
def okV (V : List Int) (g : Gl) (v : Int) (s : Ms) : Prop := InI v ∧ (s.out = none → ∀ t, g = .one t → ofT V t = 1 → v = 0 ∨ v = 1)
theorem ZV : InI 0 := by unfold InI; omega
theorem AfB {v : Int} (h : v = 0 ∨ v = 1) : InI v := by unfold InI; omega
theorem Abq (n : Int) : InI (wrap64 n) := by unfold InI wrap64; omega
theorem Aio (b : Bool) : InI (tr b) := by unfold tr; split <;> (unfold InI; omega)
theorem Aji (b : Bool) : tr b = 0 ∨ tr b = 1 := by unfold tr; split <;> omega
section
variable {V : List Int} {s : Ms} {x : Nd} {ks : List Tr}
theorem E4 : ∀ {ts : List Tr} {t : Tr} {y : Nd}, t ∈ ts → y ∈ t.flat → y ∈ QF ts
 | [], _, _, h, _ => by simp at h
 | u :: ts, t, y, h, hy => by
  rw [QF, List.mem_append]
  rcases List.mem_cons.1 h with rfl | h
  · exact .inl hy
  · exact .inr (E4 h hy)
theorem AhF (h : okT (.node x ks)) {k : Tr} (hk : k ∈ ks) : okT k := fun y hy => h y (by rw [Tr.flat]; exact List.mem_cons_of_mem _ (E4 hk hy))
theorem Agi (h : okT (.node x ks)) : InI x.n := h x (by rw [Tr.flat]; simp)
theorem Qy (h : okO V (.node x ks)) : ∃ k, Shape V x ks k ∧ ofT V (.node x ks) = k := ⟨_, Ai5 h.1 h.2.1, rfl⟩
theorem Qt (h : okO V (.node x ks)) {k : Tr} (hk : k ∈ ks) : okO V k := by
 refine ⟨h.1.kid k hk, ?_, AhF h.2.2 hk⟩
 obtain ⟨kd, sh, _⟩ := Qy h
 cases sh
 case block hb _ => rw [hb k hk]; omega
 all_goals (first | (cases hk; done) | skip)
 all_goals (simp only [List.mem_cons, List.not_mem_nil, or_false] at hk)
 all_goals (first | (subst hk; omega) | (rcases hk with rfl | rfl | rfl <;> omega) | (rcases hk with rfl | rfl <;> omega))
theorem OkS.tick (h : OkS V s) : OkS V s.tick := ⟨h.vlen, h.alen, h.val, h.arr, h.evs, h.out, h.lim⟩
theorem OkS.stop (h : OkS V s) {k v : Int} (hk : (k = 0 ∧ InI v) ∨ (1 ≤ k ∧ k ≤ 4 ∧ v = 0)) : OkS V (s.stop k v) :=
 ⟨h.vlen, h.alen, h.val, h.arr, h.evs, fun k' v' e => by simp only [Ms.stop, Option.some.injEq, Prod.mk.injEq] at e; obtain ⟨rfl, rfl⟩ := e; exact hk, h.lim⟩
theorem OkS.setv (h : OkS V s) {n t v : Int} (hn : 0 ≤ n) (hv : V[n.toNat]? = some t) (ht : t = 0 ∨ t = 1) (hi : InI v) (h1 : t = 1 → v = 0 ∨ v = 1) : OkS V (s.setv n v) := by
 have hlt : n.toNat < V.length := (List.getElem?_eq_some_iff.1 hv).1
 have hl := h.lim
 refine ⟨by simp [Ms.setv, h.vlen], h.alen, fun i t' v' ht' hv' => ?_, h.arr, fun e he => ?_, h.out, h.lim⟩
 · simp only [Ms.setv, List.getElem?_set] at hv'
   split at hv'
   · rename_i e
     subst e
     split at hv'
     · injection hv' with e2; subst e2
       rw [hv] at ht'; injection ht' with e3; subst e3
       exact ⟨hi, h1⟩
     · cases hv'
   · exact h.val i t' v' ht' hv'
 · simp only [Ms.setv, List.mem_append, List.mem_singleton] at he
   rcases he with he | rfl
   · exact h.evs e he
   · refine ⟨⟨by unfold InI; dsimp only; omega, by unfold InI; dsimp only; omega, hi⟩, hn, t, hv, .inl ⟨?_, rfl, ?_⟩⟩
     · unfold QU; rw [if_neg (by omega)]
     · rcases ht with rfl | rfl
       · exact .inl rfl
       · exact .inr (h1 rfl)
theorem OkS.arr_len (h : OkS V s) {n t : Int} (hv : V[n.toNat]? = some t) : ((s.arr n).length : Int) = QU t ∧ ∀ x ∈ s.arr n, InI x := by
 have hlt : n.toNat < V.length := (List.getElem?_eq_some_iff.1 hv).1
 have ha : s.arrs[n.toNat]? = some (s.arrs[n.toNat]'(by rw [h.alen]; exact hlt)) := List.getElem?_eq_getElem _
 unfold Ms.arr
 rw [ha]
 exact h.arr _ _ _ hv ha
theorem OkS.seta (h : OkS V s) {n t i v : Int} (hn : 0 ≤ n) (hv : V[n.toNat]? = some t) (ht : QU t ≠ 0) (hi : InI v) (hj : InI i) (hb : ¬ (i < 0 ∨ ((s.arr n).length : Int) ≤ i)) : OkS V (s.seta n i v) := by
 have hlt : n.toNat < V.length := (List.getElem?_eq_some_iff.1 hv).1
 have hl := h.lim
 obtain ⟨al, ai⟩ := h.arr_len hv
 refine ⟨h.vlen, by simp [Ms.seta, h.alen], h.val, fun k t' a' ht' ha' => ?_, fun e he => ?_, h.out, h.lim⟩
 · simp only [Ms.seta, List.getElem?_set] at ha'
   split at ha'
   · rename_i e
     subst e
     split at ha'
     · injection ha' with e2; subst e2
       rw [hv] at ht'; injection ht' with e3; subst e3
       refine ⟨by simpa using al, fun x hx => ?_⟩
       rcases List.mem_or_eq_of_mem_set hx with hx | rfl
       · exact ai x hx
       · exact hi
     · cases ha'
   · exact h.arr k t' a' ht' ha'
 · simp only [Ms.seta, List.mem_append, List.mem_singleton] at he
   rcases he with he | rfl
   · exact h.evs e he
   · exact ⟨⟨by unfold InI; dsimp only; omega, hj, hi⟩, hn, t, hv, .inr ⟨ht, by dsimp only; omega, by dsimp only; omega⟩⟩
theorem AfC {a : Int} (b : Int) (h : InI a) : InI (a.tmod b) := by
 unfold InI at *
 have h1 : (a.tmod b).natAbs = a.natAbs % b.natAbs := Int.natAbs_tmod a b
 have h2 : a.natAbs % b.natAbs ≤ a.natAbs := Nat.mod_le _ _
 rcases Int.le_total 0 a with h0 | h0
 · have := Int.tmod_nonneg b h0
   omega
 · have h3 : 0 ≤ (-a).tmod b := Int.tmod_nonneg b (by omega)
   rw [Int.neg_tmod] at h3
   omega
theorem Agr {tag a b c : Int} (ha : InI a) (h : ZW tag a b = some c) : InI c ∧ (12 ≤ tag → tag ≤ 17 → c = 0 ∨ c = 1) := by
 unfold ZW at h
 repeat' split at h
 all_goals (first | (cases h; done) | (injection h with e; subst e; first | exact ⟨Abq _, fun _ _ => by omega⟩ | exact ⟨AfC _ ha, fun _ _ => by omega⟩ | exact ⟨Aio _, fun _ _ => Aji _⟩))
end
theorem Big.inv {V : List Int} {g : Gl} {s s' : Ms} {v : Int} (h : Big g s v s') : okG V g → OkS V s → OkS V s' ∧ okV V g v s' := by
 induction h with
 | nil s => exact fun _ hs => ⟨hs, ZV, fun _ _ e => by cases e⟩
 | cons t ts s s1 s2 v u h1 h2 i1 i2 =>
  intro hg hs
  obtain ⟨a, _⟩ := i1 (hg t (by simp)).1 hs
  exact ⟨(i2 (fun k hk => hg k (by simp [hk])) a).1, ZV, fun _ _ e => by cases e⟩
 | over t s h => exact fun _ hs => ⟨hs, ZV, fun e => by rw [e] at h; cases h⟩
 | empty t s h h0 => exact fun _ hs => ⟨hs.stop (.inr ⟨by omega, by omega, rfl⟩), ZV, fun e => by cases e⟩
 | lit x s h ht =>
  intro hg hs
  refine ⟨hs.tick, Agi hg.2.2, fun _ t e h1 => ?_⟩
  injection e with e; subst e
  obtain ⟨k, sh, hk⟩ := Qy hg
  cases sh <;> first | omega | assumption
 | var x s h ht =>
  intro hg hs
  obtain ⟨k, sh, hk⟩ := Qy hg
  have : ∃ t v, V[x.n.toNat]? = some t ∧ ofT V (.node x []) = t ∧ s.vals[x.n.toNat]? = some v := by
   cases sh <;> first | omega | skip
   rename_i hn hv h01
   refine ⟨_, s.vals[x.n.toNat]'(by rw [hs.vlen]; exact (List.getElem?_eq_some_iff.1 hv).1), hv, hk, List.getElem?_eq_getElem _⟩
  obtain ⟨t, v, hv, ht', he⟩ := this
  have := hs.val _ _ _ hv he
  rw [he]
  exact ⟨hs.tick, this.1, fun _ t' e h1 => by injection e with e; subst e; exact this.2 (by omega)⟩
 | skip x s h ht =>
  intro hg hs
  refine ⟨hs.tick, ZV, fun _ t e h1 => .inl rfl⟩
 | block x ks s s1 u h ht h1 i1 =>
  intro hg hs
  have : ∀ k ∈ ks, ofT V k = 2 := by
   obtain ⟨k, sh, _⟩ := Qy hg
   cases sh <;> first | omega | assumption
  exact ⟨(i1 (fun k hk => ⟨Qt hg hk, this k hk⟩) hs.tick).1, ZV, fun _ _ _ _ => .inl rfl⟩
 | cut x a ks s s1 v h ht h1 ho i1 =>
  intro hg hs
  exact ⟨(i1 (Qt hg (by simp)) hs.tick).1, ZV, fun _ _ _ _ => .inl rfl⟩
 | atNo x a s s1 v h ht h1 ho hb i1 =>
  intro hg hs
  exact ⟨(i1 (Qt hg (by simp)) hs.tick).1.stop (.inr ⟨by omega, by omega, rfl⟩), ZV, fun _ _ _ _ => .inl rfl⟩
 | at_ x a s s1 v h ht h1 ho hb i1 =>
  intro hg hs
  obtain ⟨a1, b1⟩ := i1 (Qt hg (by simp)) hs.tick
  obtain ⟨k, sh, hk⟩ := Qy hg
  have : ofT V (.node x [a]) = 0 ∧ ∃ t, V[x.n.toNat]? = some t := by
   cases sh <;> first | omega | skip
   exact ⟨hk, _, by assumption⟩
  obtain ⟨e0, t, hv⟩ := this
  obtain ⟨l1, l2⟩ := a1.arr_len hv
  refine ⟨a1, ?_, fun _ t' e h1 => by injection e with e; subst e; omega⟩
  have hlt : v.toNat < (s1.arr x.n).length := by omega
  rw [List.getElem?_eq_getElem hlt, Option.getD_some]
  exact l2 _ (List.getElem_mem hlt)
 | neg x a s s1 v h ht h1 ho i1 =>
  intro hg hs
  obtain ⟨a1, b1⟩ := i1 (Qt hg (by simp)) hs.tick
  refine ⟨a1, Abq _, fun _ t' e h1 => ?_⟩
  injection e with e; subst e
  obtain ⟨k, sh, hk⟩ := Qy hg
  cases sh <;> omega
 | not x a s s1 v h ht h1 ho i1 =>
  intro hg hs
  obtain ⟨a1, b1⟩ := i1 (Qt hg (by simp)) hs.tick
  have : ofT V a = 1 := by
   obtain ⟨k, sh, hk⟩ := Qy hg
   cases sh <;> omega
  have := b1.2 ho _ rfl this
  exact ⟨a1, AfB (by omega), fun _ _ _ _ => by omega⟩
 | and0 x a b s s1 h ht h1 ho i1 =>
  intro hg hs
  exact ⟨(i1 (Qt hg (by simp)) hs.tick).1, ZV, fun _ _ _ _ => .inl rfl⟩
 | and1 x a b s s1 s2 v u h ht h1 ho hv h2 i1 i2 =>
  intro hg hs
  obtain ⟨a1, _⟩ := i1 (Qt hg (by simp)) hs.tick
  obtain ⟨a2, b2⟩ := i2 (Qt hg (by simp)) a1
  have : ofT V b = 1 := by
   obtain ⟨k, sh, hk⟩ := Qy hg
   cases sh <;> omega
  exact ⟨a2, b2.1, fun hn _ _ _ => b2.2 hn _ rfl this⟩
 | or1 x a b s s1 h ht h1 ho i1 =>
  intro hg hs
  exact ⟨(i1 (Qt hg (by simp)) hs.tick).1, AfB (.inr rfl), fun _ _ _ _ => .inr rfl⟩
 | or0 x a b s s1 s2 v u h ht h1 ho hv h2 i1 i2 =>
  intro hg hs
  obtain ⟨a1, _⟩ := i1 (Qt hg (by simp)) hs.tick
  obtain ⟨a2, b2⟩ := i2 (Qt hg (by simp)) a1
  have : ofT V b = 1 := by
   obtain ⟨k, sh, hk⟩ := Qy hg
   cases sh <;> omega
  exact ⟨a2, b2.1, fun hn _ _ _ => b2.2 hn _ rfl this⟩
 | set x a s s1 v h ht h1 ho i1 =>
  intro hg hs
  obtain ⟨a1, b1⟩ := i1 (Qt hg (by simp)) hs.tick
  have : 0 ≤ x.n ∧ ∃ t, V[x.n.toNat]? = some t ∧ (t = 0 ∨ t = 1) ∧ ofT V a = t := by
   obtain ⟨k, sh, hk⟩ := Qy hg
   cases sh <;> first | omega | skip
   exact ⟨by assumption, _, by assumption, by assumption, by assumption⟩
  obtain ⟨hn, t, hv, h01, hk⟩ := this
  exact ⟨a1.setv hn hv h01 b1.1 (fun e => b1.2 ho _ rfl (by omega)), ZV, fun _ _ _ _ => .inl rfl⟩
 | ifs x a b c t s s1 s2 v u h ht h1 ho hv h2 i1 i2 =>
  intro hg hs
  obtain ⟨a1, _⟩ := i1 (Qt hg (by simp)) hs.tick
  obtain ⟨a2, b2⟩ := i2 (Qt hg (List.mem_of_getElem? hv)) a1
  refine ⟨a2, b2.1, fun _ t' e h1 => ?_⟩
  injection e with e; subst e
  obtain ⟨k, sh, hk⟩ := Qy hg
  cases sh <;> omega
 | while0 x a b s s1 v h ht h1 ho hv i1 =>
  intro hg hs
  exact ⟨(i1 (Qt hg (by simp)) hs.tick).1, ZV, fun _ _ _ _ => .inl rfl⟩
 | while1 x a b s s1 s2 s3 u r h ht h1 ho h2 h3 i1 i2 i3 =>
  intro hg hs
  obtain ⟨a1, _⟩ := i1 (Qt hg (by simp)) hs.tick
  obtain ⟨a2, _⟩ := i2 (Qt hg (by simp)) a1
  exact ⟨(i3 hg a2).1, ZV, fun _ _ _ _ => .inl rfl⟩
 | ret x a s s1 v h ht h1 ho i1 =>
  intro hg hs
  obtain ⟨a1, b1⟩ := i1 (Qt hg (by simp)) hs.tick
  exact ⟨a1.stop (.inl ⟨rfl, b1.1⟩), ZV, fun _ _ _ _ => .inl rfl⟩
 | cut2 x a b s s1 s2 v u h ht h1 ho h2 ho2 i1 i2 =>
  intro hg hs
  obtain ⟨a1, _⟩ := i1 (Qt hg (by simp)) hs.tick
  exact ⟨(i2 (Qt hg (by simp)) a1).1, ZV, fun _ _ _ _ => .inl rfl⟩
 | putNo x a b s s1 s2 v u h ht h1 ho h2 ho2 hb i1 i2 =>
  intro hg hs
  obtain ⟨a1, _⟩ := i1 (Qt hg (by simp)) hs.tick
  exact ⟨(i2 (Qt hg (by simp)) a1).1.stop (.inr ⟨by omega, by omega, rfl⟩), ZV, fun _ _ _ _ => .inl rfl⟩
 | put x a b s s1 s2 v u h ht h1 ho h2 ho2 hb i1 i2 =>
  intro hg hs
  obtain ⟨a1, b1⟩ := i1 (Qt hg (by simp)) hs.tick
  obtain ⟨a2, b2⟩ := i2 (Qt hg (by simp)) a1
  have : 0 ≤ x.n ∧ ∃ t, V[x.n.toNat]? = some t ∧ QU t ≠ 0 := by
   obtain ⟨k, sh, hk⟩ := Qy hg
   cases sh <;> first | omega | skip
   exact ⟨by assumption, _, by assumption, by assumption⟩
  obtain ⟨hn, t, hv, ht2⟩ := this
  exact ⟨a2.seta hn hv ht2 b2.1 b1.1 hb, ZV, fun _ _ _ _ => .inl rfl⟩
 | pairNo x a b s s1 s2 v u h ht h1 ho h2 ho2 hp i1 i2 =>
  intro hg hs
  obtain ⟨a1, _⟩ := i1 (Qt hg (by simp)) hs.tick
  exact ⟨(i2 (Qt hg (by simp)) a1).1.stop (.inr ⟨by omega, by omega, rfl⟩), ZV, fun _ _ _ _ => .inl rfl⟩
 | pair x a b s s1 s2 v u c h ht h1 ho h2 ho2 hp i1 i2 =>
  intro hg hs
  obtain ⟨a1, b1⟩ := i1 (Qt hg (by simp)) hs.tick
  obtain ⟨a2, b2⟩ := i2 (Qt hg (by simp)) a1
  have := Agr b1.1 hp
  refine ⟨a2, this.1, fun _ t' e h1 => ?_⟩
  injection e with e; subst e
  obtain ⟨k, sh, hk⟩ := Qy hg
  refine this.2 ?_ ht.2
  cases sh <;> omega
theorem Aay (V : List Int) : ∀ (n : Nat) (s : Ms), s.fuel < n → OkS V s → (∀ t, okO V t → ∃ v s', Big (.one t) s v s')
 | 0, _, h, _ => by omega
 | n + 1, s, hn, hs => by
  have all : ∀ (ts : List Tr) (s : Ms), s.fuel < n → OkS V s → (∀ t ∈ ts, okO V t ∧ ofT V t = 2) → ∃ v s', Big (.all ts) s v s' := by
   intro ts
   induction ts with
   | nil => intro s _ _ _; exact ⟨_, _, .nil s⟩
   | cons t ts ih =>
    intro s hf hs hk
    obtain ⟨v, s1, h1⟩ := Aay V n s hf hs t (hk t (by simp)).1
    obtain ⟨u, s2, h2⟩ := ih s1 (Nat.lt_of_le_of_lt h1.ext.fuel hf) (h1.inv (g := .one t) (hk t (by simp)).1 hs).1 (fun k hk' => hk k (by simp [hk']))
    exact ⟨_, _, .cons t ts s s1 s2 v u h1 h2⟩
  intro t ht
  cases ho : s.out with
  | some o => exact ⟨_, _, .over t s (by rw [ho]; rfl)⟩
  | none =>
  by_cases h0 : s.fuel = 0
  · exact ⟨_, _, .empty t s ho h0⟩
  have hg : s.go := ⟨ho, h0⟩
  have hft : s.tick.fuel < n := by have := QC hg; omega
  cases t with
  | node x ks =>
  obtain ⟨k, sh, _⟩ := Qy ht
  have one : ∀ (a : Tr) (s0 : Ms), a ∈ ks → s0.fuel < n → OkS V s0 → ∃ v s1, Big (.one a) s0 v s1 ∧ OkS V s1 ∧ okV V (.one a) v s1 ∧ s1.fuel < n := fun a s0 ha hf hs0 => by
   obtain ⟨v, s1, h1⟩ := Aay V n s0 hf hs0 a (Qt ht ha)
   obtain ⟨a1, b1⟩ := h1.inv (g := .one a) (Qt ht ha) hs0
   exact ⟨v, s1, h1, a1, b1, Nat.lt_of_le_of_lt h1.ext.fuel hf⟩
  cases sh with
  | int h => exact ⟨_, _, .lit x s hg (.inl h)⟩
  | bool h _ => exact ⟨_, _, .lit x s hg (.inr h)⟩
  | var _ h _ _ _ => exact ⟨_, _, .var x s hg h⟩
  | skip h => exact ⟨_, _, .skip x s hg h⟩
  | block _ h hk =>
   obtain ⟨v, s1, h1⟩ := all ks s.tick hft hs.tick (fun k hk' => ⟨Qt ht hk', hk k hk'⟩)
   exact ⟨_, _, .block x ks s s1 v hg h h1⟩
  | at_ a h _ t hv hz ha =>
   obtain ⟨v, s1, h1, o1, b1, f1⟩ := one a s.tick (by simp) hft hs.tick
   cases ho1 : s1.out with
   | some o => exact ⟨_, _, .cut x a [] s s1 v hg (by unfold XI; omega) h1 (by rw [ho1]; rfl)⟩
   | none =>
    by_cases hb : v < 0 ∨ ((s1.arr x.n).length : Int) ≤ v
    · exact ⟨_, _, .atNo x a s s1 v hg h h1 ho1 hb⟩
    · exact ⟨_, _, .at_ x a s s1 v hg h h1 ho1 hb⟩
  | neg a h ha =>
   obtain ⟨v, s1, h1, o1, b1, f1⟩ := one a s.tick (by simp) hft hs.tick
   cases ho1 : s1.out with
   | some o => exact ⟨_, _, .cut x a [] s s1 v hg (by unfold XI; omega) h1 (by rw [ho1]; rfl)⟩
   | none => exact ⟨_, _, .neg x a s s1 v hg h h1 ho1⟩
  | not a h ha =>
   obtain ⟨v, s1, h1, o1, b1, f1⟩ := one a s.tick (by simp) hft hs.tick
   cases ho1 : s1.out with
   | some o => exact ⟨_, _, .cut x a [] s s1 v hg (by unfold XI; omega) h1 (by rw [ho1]; rfl)⟩
   | none => exact ⟨_, _, .not x a s s1 v hg h h1 ho1⟩
  | set a h hn' t hv h01 ha =>
   obtain ⟨v, s1, h1, o1, b1, f1⟩ := one a s.tick (by simp) hft hs.tick
   cases ho1 : s1.out with
   | some o => exact ⟨_, _, .cut x a [] s s1 v hg (by unfold XI; omega) h1 (by rw [ho1]; rfl)⟩
   | none => exact ⟨_, _, .set x a s s1 v hg h h1 ho1⟩
  | ret a h ha =>
   obtain ⟨v, s1, h1, o1, b1, f1⟩ := one a s.tick (by simp) hft hs.tick
   cases ho1 : s1.out with
   | some o => exact ⟨_, _, .cut x a [] s s1 v hg (by unfold XI; omega) h1 (by rw [ho1]; rfl)⟩
   | none => exact ⟨_, _, .ret x a s s1 v hg h h1 ho1⟩
  | pair a b _ h hk ha hb =>
   obtain ⟨v, s1, h1, o1, b1, f1⟩ := one a s.tick (by simp) hft hs.tick
   cases ho1 : s1.out with
   | some o => exact ⟨_, _, .cut x a [b] s s1 v hg (by unfold XI; omega) h1 (by rw [ho1]; rfl)⟩
   | none =>
    obtain ⟨u, s2, h2, o2, b2, f2⟩ := one b s1 (by simp) f1 o1
    cases ho2 : s2.out with
    | some o => exact ⟨_, _, .cut2 x a b s s1 s2 v u hg (by unfold wide XI; omega) h1 ho1 h2 (by rw [ho2]; rfl)⟩
    | none =>
     cases hp : ZW x.tag v u with
     | none => exact ⟨_, _, .pairNo x a b s s1 s2 v u hg h h1 ho1 h2 ho2 hp⟩
     | some c => exact ⟨_, _, .pair x a b s s1 s2 v u c hg h h1 ho1 h2 ho2 hp⟩
  | put a b h hn' t hv hz ha hb =>
   obtain ⟨v, s1, h1, o1, b1, f1⟩ := one a s.tick (by simp) hft hs.tick
   cases ho1 : s1.out with
   | some o => exact ⟨_, _, .cut x a [b] s s1 v hg (by unfold XI; omega) h1 (by rw [ho1]; rfl)⟩
   | none =>
    obtain ⟨u, s2, h2, o2, b2, f2⟩ := one b s1 (by simp) f1 o1
    cases ho2 : s2.out with
    | some o => exact ⟨_, _, .cut2 x a b s s1 s2 v u hg (by unfold wide XI; omega) h1 ho1 h2 (by rw [ho2]; rfl)⟩
    | none =>
     by_cases hb' : v < 0 ∨ ((s2.arr x.n).length : Int) ≤ v
     · exact ⟨_, _, .putNo x a b s s1 s2 v u hg h h1 ho1 h2 ho2 hb'⟩
     · exact ⟨_, _, .put x a b s s1 s2 v u hg h h1 ho1 h2 ho2 hb'⟩
  | logic a b h ha hb =>
   obtain ⟨v, s1, h1, o1, b1, f1⟩ := one a s.tick (by simp) hft hs.tick
   cases ho1 : s1.out with
   | some o => exact ⟨_, _, .cut x a [b] s s1 v hg (by unfold XI; omega) h1 (by rw [ho1]; rfl)⟩
   | none =>
    obtain ⟨u, s2, h2, _⟩ := one b s1 (by simp) f1 o1
    rcases h with h | h
    · by_cases hv : v = 0
      · subst hv; exact ⟨_, _, .and0 x a b s s1 hg h h1 ho1⟩
      · exact ⟨_, _, .and1 x a b s s1 s2 v u hg h h1 ho1 hv h2⟩
    · by_cases hv : v = 1
      · subst hv; exact ⟨_, _, .or1 x a b s s1 hg h h1 ho1⟩
      · exact ⟨_, _, .or0 x a b s s1 s2 v u hg h h1 ho1 hv h2⟩
  | ifs a b c h ha hb hc tb tc =>
   obtain ⟨v, s1, h1, o1, b1, f1⟩ := one a s.tick (by simp) hft hs.tick
   cases ho1 : s1.out with
   | some o => exact ⟨_, _, .cut x a [b, c] s s1 v hg (by unfold XI; omega) h1 (by rw [ho1]; rfl)⟩
   | none =>
    rcases b1.2 ho1 _ rfl ha with rfl | rfl
    · obtain ⟨u, s2, h2, _⟩ := one c s1 (by simp) f1 o1
      exact ⟨_, _, .ifs x a b c c s s1 s2 0 u hg h h1 ho1 rfl h2⟩
    · obtain ⟨u, s2, h2, _⟩ := one b s1 (by simp) f1 o1
      exact ⟨_, _, .ifs x a b c b s s1 s2 1 u hg h h1 ho1 rfl h2⟩
  | «while» a b h ha hb tb =>
   obtain ⟨v, s1, h1, o1, b1, f1⟩ := one a s.tick (by simp) hft hs.tick
   cases ho1 : s1.out with
   | some o => exact ⟨_, _, .cut x a [b] s s1 v hg (by unfold XI; omega) h1 (by rw [ho1]; rfl)⟩
   | none =>
    by_cases hv : v = 1
    · subst hv
      obtain ⟨u, s2, h2, o2, _, f2⟩ := one b s1 (by simp) f1 o1
      obtain ⟨r, s3, h3⟩ := Aay V n s2 f2 o2 _ ht
      exact ⟨_, _, .while1 x a b s s1 s2 s3 u r hg h h1 ho1 h2 h3⟩
    · exact ⟨_, _, .while0 x a b s s1 v hg h h1 ho1 hv⟩
structure Fr where
 at_ : Nat
 t : Tr
 kid : Nat
 vals : List Int
structure Mm where
 s : Ms
 stack : List Fr
def ZN (p : Nat) (t : Tr) (m : Mm) : Mm := if m.s.fuel = 0 then ⟨m.s.stop 4 0, m.stack⟩ else ⟨m.s.tick, ⟨p, t, 0, []⟩ :: m.stack⟩
def Fr.told (f : Fr) (v : Int) : Fr := { f with vals := f.vals ++ [v] }
def Fr.more (f : Fr) : Fr := { f with kid := f.kid + 1 }
def told (k v : Int) : List Fr → List Fr
 | [] => []
 | f :: r => if k = 2 then f :: r else f.told v :: r
def YY (tag v : Int) : Prop := tag = 18 ∧ v = 0 ∨ tag = 19 ∧ v = 1 ∨ tag = 24 ∧ v = 0
def KX (tag : Int) : Prop := tag = 18 ∨ tag = 19 ∨ tag = 24
structure NextK (f : Fr) (i : Nat) : Prop where
 lt : f.kid < f.t.kids.length
 how : (f.t.root.tag = 23 ∧ f.kid = 1 ∧ ∃ v vs, f.vals = v :: vs ∧ (v = 0 ∨ v = 1) ∧ (i : Int) = 2 - v) ∨ (i = f.kid ∧ ¬ (f.t.root.tag = 23 ∧ 1 ≤ f.kid) ∧ (f.kid = 1 → KX f.t.root.tag → ∃ v vs, f.vals = v :: vs ∧ ¬ YY f.t.root.tag v))
structure NextNo (f : Fr) : Prop where
 how : (f.kid = 1 ∧ ∃ v vs, f.vals = v :: vs ∧ YY f.t.root.tag v) ∨ (¬ (f.kid = 1 ∧ KX f.t.root.tag) ∧ ((f.t.root.tag = 23 ∧ 1 < f.kid) ∨ (f.t.root.tag ≠ 23 ∧ f.t.kids.length ≤ f.kid)))
inductive Fin : Fr → Ms → List Fr → Mm → Prop
 | lit (f : Fr) (s : Ms) (g : Fr) (r : List Fr) (h : f.t.root.tag = 1 ∨ f.t.root.tag = 2) : Fin f s (g :: r) ⟨s, g.told f.t.root.n :: r⟩
 | var (f : Fr) (s : Ms) (g : Fr) (r : List Fr) (v : Int) (h : f.t.root.tag = 3) (hn : 0 ≤ f.t.root.n) (hv : s.vals[f.t.root.n.toNat]? = some v) : Fin f s (g :: r) ⟨s, g.told v :: r⟩
 | atNo (f : Fr) (s : Ms) (r : List Fr) (i : Int) (vs : List Int) (h : f.t.root.tag = 4) (hn : 0 ≤ f.t.root.n) (hl : f.t.root.n.toNat < s.arrs.length) (hv : f.vals = i :: vs) (hb : i < 0 ∨ ((s.arr f.t.root.n).length : Int) ≤ i) : Fin f s r ⟨s.stop 2 0, r⟩
 | at_ (f : Fr) (s : Ms) (g : Fr) (r : List Fr) (i v : Int) (vs : List Int) (h : f.t.root.tag = 4) (hn : 0 ≤ f.t.root.n) (hl : f.t.root.n.toNat < s.arrs.length) (hv : f.vals = i :: vs) (hb : ¬ (i < 0 ∨ ((s.arr f.t.root.n).length : Int) ≤ i)) (hx : (s.arr f.t.root.n)[i.toNat]? = some v) : Fin f s (g :: r) ⟨s, g.told v :: r⟩
 | neg (f : Fr) (s : Ms) (g : Fr) (r : List Fr) (v : Int) (vs : List Int) (h : f.t.root.tag = 5) (hv : f.vals = v :: vs) : Fin f s (g :: r) ⟨s, g.told (wrap64 (-v)) :: r⟩
 | not (f : Fr) (s : Ms) (g : Fr) (r : List Fr) (v : Int) (vs : List Int) (h : f.t.root.tag = 6) (hv : f.vals = v :: vs) (h01 : v = 0 ∨ v = 1) : Fin f s (g :: r) ⟨s, g.told (1 - v) :: r⟩
 | logic (f : Fr) (s : Ms) (g : Fr) (r : List Fr) (v : Int) (vs : List Int) (h : f.t.root.tag = 18 ∨ f.t.root.tag = 19) (hv : f.vals = vs ++ [v]) : Fin f s (g :: r) ⟨s, g.told v :: r⟩
 | set (f : Fr) (s : Ms) (r : List Fr) (v : Int) (vs : List Int) (h : f.t.root.tag = 21) (hn : 0 ≤ f.t.root.n) (hl : f.t.root.n.toNat < s.vals.length) (hv : f.vals = v :: vs) : Fin f s r ⟨s.setv f.t.root.n v, r⟩
 | putNo (f : Fr) (s : Ms) (r : List Fr) (i v : Int) (vs : List Int) (h : f.t.root.tag = 22) (hn : 0 ≤ f.t.root.n) (hl : f.t.root.n.toNat < s.arrs.length) (hv : f.vals = i :: v :: vs) (hb : i < 0 ∨ ((s.arr f.t.root.n).length : Int) ≤ i) : Fin f s r ⟨s.stop 2 0, r⟩
 | put (f : Fr) (s : Ms) (r : List Fr) (i v : Int) (vs : List Int) (h : f.t.root.tag = 22) (hn : 0 ≤ f.t.root.n) (hl : f.t.root.n.toNat < s.arrs.length) (hv : f.vals = i :: v :: vs) (hb : ¬ (i < 0 ∨ ((s.arr f.t.root.n).length : Int) ≤ i)) : Fin f s r ⟨s.seta f.t.root.n i v, r⟩
 | while1 (f : Fr) (s : Ms) (r : List Fr) (vs : List Int) (h : f.t.root.tag = 24) (hv : f.vals = 1 :: vs) : Fin f s r (ZN f.at_ f.t ⟨s, r⟩)
 | while0 (f : Fr) (s : Ms) (r : List Fr) (v : Int) (vs : List Int) (h : f.t.root.tag = 24) (hv : f.vals = v :: vs) (h1 : v ≠ 1) : Fin f s r ⟨s, r⟩
 | ret (f : Fr) (s : Ms) (r : List Fr) (v : Int) (vs : List Int) (h : f.t.root.tag = 25) (hv : f.vals = v :: vs) : Fin f s r ⟨s.stop 0 v, r⟩
 | nothing (f : Fr) (s : Ms) (r : List Fr) (h : f.t.root.tag = 20 ∨ f.t.root.tag = 23 ∨ f.t.root.tag = 26) : Fin f s r ⟨s, r⟩
 | pairNo (f : Fr) (s : Ms) (r : List Fr) (a b : Int) (vs : List Int) (h : 7 ≤ f.t.root.tag ∧ f.t.root.tag ≤ 17) (hv : f.vals = a :: b :: vs) (hp : ZW f.t.root.tag a b = none) : Fin f s r ⟨s.stop 1 0, r⟩
 | pair (f : Fr) (s : Ms) (g : Fr) (r : List Fr) (a b c : Int) (vs : List Int) (h : 7 ≤ f.t.root.tag ∧ f.t.root.tag ≤ 17) (hv : f.vals = a :: b :: vs) (hp : ZW f.t.root.tag a b = some c) : Fin f s (g :: r) ⟨s, g.told c :: r⟩
inductive Step : Mm → Mm → Prop
 | done (s : Ms) : Step ⟨s, []⟩ ⟨s.stop 3 0, []⟩
 | kid (s : Ms) (f : Fr) (r : List Fr) (i q : Nat) (k : Tr) (hi : NextK f i) (hq : (Ze (f.at_ + 1) f.t.kids)[i]? = some q) (hk : f.t.kids[i]? = some k) : Step ⟨s, f :: r⟩ (ZN q k ⟨s, f.more :: r⟩)
 | fin (s : Ms) (f : Fr) (r : List Fr) (m : Mm) (hn : NextNo f) (hf : Fin f s r m) : Step ⟨s, f :: r⟩ m
inductive Reach : Mm → Mm → Prop
 | refl (m : Mm) : Reach m m
 | step (m m' m'' : Mm) (ho : m.s.out = none) (h : Step m m') (r : Reach m' m'') : Reach m m''
theorem Reach.trans {a b c : Mm} (h : Reach a b) (k : Reach b c) : Reach a c := by
 induction h with
 | refl m => exact k
 | step m m' m'' ho h _ ih => exact .step m m' _ ho h (ih k)
theorem Reach.one {a b : Mm} (ho : a.s.out = none) (h : Step a b) : Reach a b := .step _ _ _ ho h (.refl _)
theorem Abx {g : Gl} {s s' : Ms} {v : Int} (h : Big g s v s') : s.out.isSome = true → s' = s := by
 induction h with
 | nil s => exact fun _ => rfl
 | cons t ts s s1 s2 v u h1 h2 i1 i2 => exact fun h => by have e := i1 h; subst e; exact i2 h
 | over t s h => exact fun _ => rfl
 | empty t s h h0 => exact fun e => by rw [h] at e; cases e
 | _ =>
  intro e
  exact absurd e (QL (by assumption)).1
def Sim (V : List Int) : Gl → Ms → Int → Ms → Prop
 | .one t, s, v, s' => okO V t → OkS V s → s.out = none → ∀ (p : Nat) (r : List Fr), (ofT V t ≠ 2 → r ≠ []) → ∃ m, Reach (ZN p t ⟨s, r⟩) m ∧ m.s = s' ∧ (s'.out = none → m.stack = told (ofT V t) v r)
 | .all ts, s, _, s' => (∀ t ∈ ts, okO V t ∧ ofT V t = 2) → OkS V s → s.out = none → ∀ (f : Fr) (r : List Fr), f.t.root.tag = 20 → f.t.kids.drop f.kid = ts → f.kid ≤ f.t.kids.length → ∃ m, Reach ⟨s, f :: r⟩ m ∧ m.s = s' ∧ (s'.out = none → m.stack = { f with kid := f.t.kids.length } :: r)
theorem ZJ {p : Nat} {t : Tr} {s : Ms} {r : List Fr} (h : s.go) : ZN p t ⟨s, r⟩ = ⟨s.tick, ⟨p, t, 0, []⟩ :: r⟩ := by unfold ZN; rw [if_neg h.2]
theorem Aba {p : Nat} {ts : List Tr} {i : Nat} {k : Tr} (h : ts[i]? = some k) : ∃ q, (Ze p ts)[i]? = some q :=
 ⟨_, List.getElem?_eq_getElem (by rw [JF]; exact (List.getElem?_eq_some_iff.1 h).1)⟩
theorem JQ {V : List Int} {k : Tr} {s s1 : Ms} {v : Int} (ih : Sim V (.one k) s v s1) (ok : okO V k) (hs : OkS V s) (ho : s.out = none) (f : Fr) (r : List Fr) (i : Nat) (hi : NextK f i) (hk : f.t.kids[i]? = some k) :
 ∃ m, Reach ⟨s, f :: r⟩ m ∧ m.s = s1 ∧ (s1.out = none → m.stack = told (ofT V k) v (f.more :: r)) := by
 obtain ⟨q, hq⟩ := Aba (p := f.at_ + 1) hk
 obtain ⟨m, h1, h2, h3⟩ := ih ok hs ho q (f.more :: r) (fun _ => by simp)
 exact ⟨m, .step _ _ _ ho (.kid s f r i q k hi hq hk) h1, h2, h3⟩
theorem XY {v : Int} {f : Fr} {r : List Fr} {k : Int} (h : k = 2) : told k v (f :: r) = f :: r := if_pos h
theorem Q9 {v : Int} {f : Fr} {r : List Fr} {k : Int} (h : k ≠ 2) : told k v (f :: r) = f.told v :: r := if_neg h
theorem Ky (s : Ms) : s.out.isSome = true ∨ s.out = none := by cases s.out <;> simp
theorem Aar {s : Ms} (h : s.go) : s.tick.out = none := h.1
theorem ZP {m : Mm} {s : Ms} {st : List Fr} (h1 : m.s = s) (h2 : m.stack = st) : m = ⟨s, st⟩ := by cases m; subst h1 h2; rfl
theorem Q7 {V : List Int} {x : Nd} {a : Tr} {ks : List Tr} {s s1 : Ms} {v : Int} (ih : Sim V (.one a) s.tick v s1) (hg : okO V (.node x (a :: ks))) (hs : OkS V s) (h : s.go) (p : Nat) (r : List Fr) :
 ∃ m, Reach (ZN p (.node x (a :: ks)) ⟨s, r⟩) m ∧ m.s = s1 ∧ (s1.out = none → m.stack = told (ofT V a) v (⟨p, .node x (a :: ks), 1, []⟩ :: r)) := by
 rw [ZJ h]
 exact JQ ih (Qt hg (by simp)) hs.tick (Aar h) ⟨p, .node x (a :: ks), 0, []⟩ r 0 ⟨by simp [Tr.kids], .inr ⟨rfl, by simp, fun e => by simp at e⟩⟩ rfl
theorem Zi {V : List Int} {t : Tr} {s s' : Ms} {v : Int} {p : Nat} {r : List Fr} {m0 m : Mm} {f : Fr} (h0 : Reach (ZN p t ⟨s, r⟩) m0) (h1 : m0 = ⟨m0.s, f :: r⟩) (ho : m0.s.out = none) (hn : NextNo f) (hf : Fin f m0.s r m) (h2 : m.s = s') (h3 : s'.out = none → m.stack = told (ofT V t) v r) :
 ∃ m, Reach (ZN p t ⟨s, r⟩) m ∧ m.s = s' ∧ (s'.out = none → m.stack = told (ofT V t) v r) :=
 ⟨m, h0.trans (.one ho (by rw [h1]; exact .fin _ _ _ _ hn (by simpa using hf))), h2, h3⟩
theorem Kc {α : Type} {r : List α} (h : r ≠ []) : ∃ g r', r = g :: r' := by
 match r, h with
 | g :: r', _ => exact ⟨g, r', rfl⟩
theorem sim {V : List Int} {g : Gl} {s s' : Ms} {v : Int} (h : Big g s v s') : Sim V g s v s' := by
 induction h with
 | nil s =>
  intro _ hs ho f r ht hd hl
  refine ⟨_, .refl _, rfl, fun _ => ?_⟩
  have hlen := congrArg List.length hd
  simp only [List.length_drop, List.length_nil] at hlen
  obtain ⟨a, t, k, vs⟩ := f
  simp only at hlen hl ⊢
  rw [show k = t.kids.length by omega]
 | cons t ts s s1 s2 v u h1 h2 i1 i2 =>
  intro hk hs ho f r ht hd hl
  have hlen := congrArg List.length hd
  simp only [List.length_drop, List.length_cons] at hlen
  have hget : f.t.kids[f.kid]? = some t := by
   have := congrArg (fun l => l[0]?) hd
   simpa using this
  have ok := hk t (by simp)
  obtain ⟨m, r1, e1, st⟩ := JQ i1 ok.1 hs ho f r f.kid ⟨by omega, .inr ⟨rfl, by omega, fun _ h => by unfold KX at h; omega⟩⟩ hget
  have o1 := (h1.inv (g := .one t) ok.1 hs).1
  rcases Ky s1 with ho1 | ho1
  · 
    have e2 : s2 = s1 := Abx h2 ho1
    subst e2
    exact ⟨m, r1, e1, fun e => by rw [e] at ho1; cases ho1⟩
  ·
   have em := ZP e1 ((st ho1).trans (XY ok.2))
   obtain ⟨m2, r2, e2, st2⟩ := i2 (fun k hk' => hk k (by simp [hk'])) o1 ho1 f.more r ht (by
    show f.t.kids.drop (f.kid + 1) = ts
    rw [← List.drop_drop, hd]; rfl) (by show f.kid + 1 ≤ f.t.kids.length; omega)
   rw [em] at r1
   exact ⟨m2, r1.trans r2, e2, st2⟩
 | over t s h => exact fun _ _ ho => by rw [ho] at h; cases h
 | empty t s h h0 =>
  intro _ _ ho p r _
  refine ⟨_, .refl _, by unfold ZN; rw [if_pos h0], fun e => by cases e⟩
 | lit x s h ht =>
  intro hg hs ho p r hr
  obtain ⟨k, sh, hk⟩ := Qy hg
  have hk2 : ofT V (.node x []) ≠ 2 := by cases sh <;> omega
  obtain ⟨g, r', rfl⟩ := Kc (hr hk2)
  refine Zi (f := ⟨p, .node x [], 0, []⟩) (.refl _) (by rw [ZJ h]) ((by rw [ZJ h]; exact h.1)) ⟨.inr ⟨by simp, .inr ⟨by simp [Tr.root]; omega, by simp [Tr.kids]⟩⟩⟩ (.lit _ _ g r' ht) ?_ ?_
  · rw [ZJ h]
  · intro _; rw [Q9 hk2]; rfl
 | var x s h ht =>
  intro hg hs ho p r hr
  obtain ⟨k, sh, hk⟩ := Qy hg
  have hk2 : ofT V (.node x []) ≠ 2 := by cases sh <;> omega
  obtain ⟨g, r', rfl⟩ := Kc (hr hk2)
  have hn : 0 ≤ x.n ∧ x.n.toNat < s.vals.length := by
   rw [hs.vlen]
   cases sh <;> first | omega | skip
   rename_i hn hv _
   exact ⟨hn, (List.getElem?_eq_some_iff.1 hv).1⟩
  have hv := List.getElem?_eq_getElem hn.2
  rw [hv, Option.getD_some]
  refine Zi (f := ⟨p, .node x [], 0, []⟩) (.refl _) (by rw [ZJ h]) ((by rw [ZJ h]; exact h.1)) ⟨.inr ⟨by simp, .inr ⟨by simp [Tr.root]; omega, by simp [Tr.kids]⟩⟩⟩ (.var _ _ g r' _ ht hn.1 (by rw [ZJ h]; exact hv)) ?_ ?_
  · rw [ZJ h]
  · intro _; rw [Q9 hk2]
 | skip x s h ht =>
  intro hg hs ho p r hr
  obtain ⟨k, sh, hk⟩ := Qy hg
  have hk2 : ofT V (.node x []) = 2 := by cases sh <;> omega
  refine Zi (f := ⟨p, .node x [], 0, []⟩) (.refl _) (by rw [ZJ h]) ((by rw [ZJ h]; exact h.1)) ⟨.inr ⟨by simp, .inr ⟨by simp [Tr.root]; omega, by simp [Tr.kids]⟩⟩⟩ (.nothing _ _ _ (.inr (.inr ht))) ?_ ?_
  · rw [ZJ h]
  · intro _; cases r with
    | nil => rfl
    | cons g r' => rw [XY hk2]
 | block x ks s s1 u h ht h1 i1 =>
  intro hg hs ho p r hr
  obtain ⟨k, sh, hk⟩ := Qy hg
  have hk2 : ofT V (.node x ks) = 2 ∧ ∀ k ∈ ks, ofT V k = 2 := by cases sh <;> first | omega | exact ⟨hk, by assumption⟩
  obtain ⟨m, r1, e1, st⟩ := i1 (fun k hk' => ⟨Qt hg hk', hk2.2 k hk'⟩) hs.tick (Aar h) ⟨p, .node x ks, 0, []⟩ r ht rfl (Nat.zero_le _)
  rw [← ZJ (p := p) (t := .node x ks) (r := r) h] at r1
  rcases Ky s1 with ho1 | ho1
  · exact ⟨m, r1, e1, fun e => by rw [e] at ho1; cases ho1⟩
  ·
   refine Zi r1 (ZP rfl (st ho1)) (by rw [e1]; exact ho1) ⟨.inr ⟨fun e => by unfold KX at e; simp only [Tr.root] at e; omega, .inr ⟨by simp only [Tr.root]; omega, Nat.le_refl _⟩⟩⟩ (.nothing _ _ _ (.inl ht)) e1 ?_
   intro _; cases r with
   | nil => rfl
   | cons g r' => rw [XY hk2.1]
 | cut x a ks s s1 v h ht h1 ho i1 =>
  intro hg hs _ p r hr
  obtain ⟨m, r1, e1, _⟩ := Q7 i1 hg hs h p r
  exact ⟨m, r1, e1, fun e => by rw [e] at ho; cases ho⟩
 | atNo x a s s1 v h ht h1 ho hb i1 =>
  intro hg hs _ p r hr
  obtain ⟨k, sh, hk⟩ := Qy hg
  have o1 := (h1.inv (g := .one a) (Qt hg (by simp)) hs.tick).1
  obtain ⟨m, r1, e1, st⟩ := Q7 i1 hg hs h p r
  have ha : ofT V a ≠ 2 ∧ 0 ≤ x.n ∧ x.n.toNat < s1.arrs.length := by
   rw [o1.alen]
   cases sh <;> first | omega | skip
   exact ⟨by omega, by assumption, (List.getElem?_eq_some_iff.1 (by assumption)).1⟩
  refine Zi r1 (ZP rfl ((st ho).trans (Q9 ha.1))) (by rw [e1]; exact ho) ⟨.inr ⟨fun e => by unfold KX at e; simp only [Tr.root, Fr.told] at e; omega, .inr ⟨by simp only [Tr.root, Fr.told]; omega, Nat.le_refl _⟩⟩⟩
   (.atNo _ _ _ v [] ht ha.2.1 (by rw [e1]; exact ha.2.2) rfl (by rw [e1]; exact hb)) (by rw [e1]) (fun e => by cases e)
 | at_ x a s s1 v h ht h1 ho hb i1 =>
  intro hg hs _ p r hr
  obtain ⟨k, sh, hk⟩ := Qy hg
  have o1 := (h1.inv (g := .one a) (Qt hg (by simp)) hs.tick).1
  obtain ⟨m, r1, e1, st⟩ := Q7 i1 hg hs h p r
  have ha : ofT V a ≠ 2 ∧ 0 ≤ x.n ∧ x.n.toNat < s1.arrs.length ∧ ofT V (.node x [a]) ≠ 2 := by
   rw [o1.alen]
   cases sh <;> first | omega | skip
   exact ⟨by omega, by assumption, (List.getElem?_eq_some_iff.1 (by assumption)).1, by omega⟩
  obtain ⟨g, r', rfl⟩ := Kc (hr ha.2.2.2)
  have hx : (s1.arr x.n)[v.toNat]? = some (((s1.arr x.n)[v.toNat]?).getD 0) := by
   rw [List.getElem?_eq_getElem (show v.toNat < (s1.arr x.n).length by omega)]; rfl
  refine Zi r1 (ZP rfl ((st ho).trans (Q9 ha.1))) (by rw [e1]; exact ho) ⟨.inr ⟨fun e => by unfold KX at e; simp only [Tr.root, Fr.told] at e; omega, .inr ⟨by simp only [Tr.root, Fr.told]; omega, Nat.le_refl _⟩⟩⟩
   (.at_ _ _ g r' v _ [] ht ha.2.1 (by rw [e1]; exact ha.2.2.1) rfl (by rw [e1]; exact hb) (by rw [e1]; exact hx)) e1 (fun _ => by rw [Q9 ha.2.2.2])
 | neg x a s s1 v h ht h1 ho i1 =>
  intro hg hs _ p r hr
  obtain ⟨k, sh, hk⟩ := Qy hg
  obtain ⟨m, r1, e1, st⟩ := Q7 i1 hg hs h p r
  have ha : ofT V a ≠ 2 ∧ ofT V (.node x [a]) ≠ 2 := by cases sh <;> omega
  obtain ⟨g, r', rfl⟩ := Kc (hr ha.2)
  exact Zi r1 (ZP rfl ((st ho).trans (Q9 ha.1))) (by rw [e1]; exact ho) ⟨.inr ⟨fun e => by unfold KX at e; simp only [Tr.root, Fr.told] at e; omega, .inr ⟨by simp only [Tr.root, Fr.told]; omega, Nat.le_refl _⟩⟩⟩
   (.neg _ _ g r' v [] ht rfl) e1 (fun _ => by rw [Q9 ha.2])
 | not x a s s1 v h ht h1 ho i1 =>
  intro hg hs _ p r hr
  obtain ⟨k, sh, hk⟩ := Qy hg
  obtain ⟨m, r1, e1, st⟩ := Q7 i1 hg hs h p r
  have ha : ofT V a = 1 ∧ ofT V (.node x [a]) ≠ 2 := by cases sh <;> omega
  have b1 := (h1.inv (g := .one a) (Qt hg (by simp)) hs.tick).2.2 ho _ rfl ha.1
  obtain ⟨g, r', rfl⟩ := Kc (hr ha.2)
  exact Zi r1 (ZP rfl ((st ho).trans (Q9 (by omega)))) (by rw [e1]; exact ho) ⟨.inr ⟨fun e => by unfold KX at e; simp only [Tr.root, Fr.told] at e; omega, .inr ⟨by simp only [Tr.root, Fr.told]; omega, Nat.le_refl _⟩⟩⟩
   (.not _ _ g r' v [] ht rfl b1) e1 (fun _ => by rw [Q9 ha.2])
 | and0 x a b s s1 h ht h1 ho i1 =>
  intro hg hs _ p r hr
  obtain ⟨k, sh, hk⟩ := Qy hg
  obtain ⟨m, r1, e1, st⟩ := Q7 i1 hg hs h p r
  have ha : ofT V a ≠ 2 ∧ ofT V (.node x [a, b]) ≠ 2 := by cases sh <;> omega
  obtain ⟨g, r', rfl⟩ := Kc (hr ha.2)
  exact Zi r1 (ZP rfl ((st ho).trans (Q9 ha.1))) (by rw [e1]; exact ho) ⟨.inl ⟨rfl, 0, [], rfl, .inl ⟨ht, rfl⟩⟩⟩
   (.logic _ _ g r' 0 [] (.inl ht) rfl) e1 (fun _ => by rw [Q9 ha.2])
 | and1 x a b s s1 s2 v u h ht h1 ho hv h2 i1 i2 =>
  intro hg hs _ p r hr
  obtain ⟨k, sh, hk⟩ := Qy hg
  obtain ⟨m, r1, e1, st⟩ := Q7 i1 hg hs h p r
  have ha : ofT V a ≠ 2 ∧ ofT V b ≠ 2 ∧ ofT V (.node x [a, b]) ≠ 2 := by cases sh <;> omega
  have o1 := (h1.inv (g := .one a) (Qt hg (by simp)) hs.tick).1
  obtain ⟨g, r', rfl⟩ := Kc (hr ha.2.2)
  rw [ZP e1 ((st ho).trans (Q9 ha.1))] at r1
  obtain ⟨m2, r2, e2, st2⟩ := JQ i2 (Qt hg (by simp)) o1 ho (Fr.told ⟨p, .node x [a, b], 1, []⟩ v) (g :: r') 1 ⟨by simp [Tr.kids, Fr.told], .inr ⟨rfl, by simp only [Tr.root, Fr.told]; omega, fun _ _ => ⟨v, [], rfl, by unfold YY; simp only [Tr.root, Fr.told]; omega⟩⟩⟩ rfl
  rcases Ky s2 with ho2 | ho2
  · exact ⟨m2, r1.trans r2, e2, fun e => by rw [e] at ho2; cases ho2⟩
  ·
   exact Zi (r1.trans r2) (ZP rfl ((st2 ho2).trans (Q9 ha.2.1))) (by rw [e2]; exact ho2) ⟨.inr ⟨fun e => by simp [Fr.told, Fr.more] at e, .inr ⟨by simp only [Tr.root, Fr.told, Fr.more]; omega, Nat.le_refl _⟩⟩⟩
    (.logic _ _ g r' u [v] (.inl ht) rfl) e2 (fun _ => by rw [Q9 ha.2.2])
 | or1 x a b s s1 h ht h1 ho i1 =>
  intro hg hs _ p r hr
  obtain ⟨k, sh, hk⟩ := Qy hg
  obtain ⟨m, r1, e1, st⟩ := Q7 i1 hg hs h p r
  have ha : ofT V a ≠ 2 ∧ ofT V (.node x [a, b]) ≠ 2 := by cases sh <;> omega
  obtain ⟨g, r', rfl⟩ := Kc (hr ha.2)
  exact Zi r1 (ZP rfl ((st ho).trans (Q9 ha.1))) (by rw [e1]; exact ho) ⟨.inl ⟨rfl, 1, [], rfl, .inr (.inl ⟨ht, rfl⟩)⟩⟩
   (.logic _ _ g r' 1 [] (.inr ht) rfl) e1 (fun _ => by rw [Q9 ha.2])
 | or0 x a b s s1 s2 v u h ht h1 ho hv h2 i1 i2 =>
  intro hg hs _ p r hr
  obtain ⟨k, sh, hk⟩ := Qy hg
  obtain ⟨m, r1, e1, st⟩ := Q7 i1 hg hs h p r
  have ha : ofT V a ≠ 2 ∧ ofT V b ≠ 2 ∧ ofT V (.node x [a, b]) ≠ 2 := by cases sh <;> omega
  have o1 := (h1.inv (g := .one a) (Qt hg (by simp)) hs.tick).1
  obtain ⟨g, r', rfl⟩ := Kc (hr ha.2.2)
  rw [ZP e1 ((st ho).trans (Q9 ha.1))] at r1
  obtain ⟨m2, r2, e2, st2⟩ := JQ i2 (Qt hg (by simp)) o1 ho (Fr.told ⟨p, .node x [a, b], 1, []⟩ v) (g :: r') 1 ⟨by simp [Tr.kids, Fr.told], .inr ⟨rfl, by simp only [Tr.root, Fr.told]; omega, fun _ _ => ⟨v, [], rfl, by unfold YY; simp only [Tr.root, Fr.told]; omega⟩⟩⟩ rfl
  rcases Ky s2 with ho2 | ho2
  · exact ⟨m2, r1.trans r2, e2, fun e => by rw [e] at ho2; cases ho2⟩
  ·
   exact Zi (r1.trans r2) (ZP rfl ((st2 ho2).trans (Q9 ha.2.1))) (by rw [e2]; exact ho2) ⟨.inr ⟨fun e => by simp [Fr.told, Fr.more] at e, .inr ⟨by simp only [Tr.root, Fr.told, Fr.more]; omega, Nat.le_refl _⟩⟩⟩
    (.logic _ _ g r' u [v] (.inr ht) rfl) e2 (fun _ => by rw [Q9 ha.2.2])
 | set x a s s1 v h ht h1 ho i1 =>
  intro hg hs _ p r hr
  obtain ⟨k, sh, hk⟩ := Qy hg
  have o1 := (h1.inv (g := .one a) (Qt hg (by simp)) hs.tick).1
  obtain ⟨m, r1, e1, st⟩ := Q7 i1 hg hs h p r
  have ha : ofT V a ≠ 2 ∧ 0 ≤ x.n ∧ x.n.toNat < s1.vals.length ∧ ofT V (.node x [a]) = 2 := by
   rw [o1.vlen]
   cases sh <;> first | omega | skip
   exact ⟨by omega, by assumption, (List.getElem?_eq_some_iff.1 (by assumption)).1, by omega⟩
  refine Zi r1 (ZP rfl ((st ho).trans (Q9 ha.1))) (by rw [e1]; exact ho) ⟨.inr ⟨fun e => by unfold KX at e; simp only [Tr.root, Fr.told] at e; omega, .inr ⟨by simp only [Tr.root, Fr.told]; omega, Nat.le_refl _⟩⟩⟩
   (.set _ _ _ v [] ht ha.2.1 (by rw [e1]; exact ha.2.2.1) rfl) (by rw [e1]; rfl) ?_
  intro _; cases r with
  | nil => rfl
  | cons g r' => rw [XY ha.2.2.2]
 | ifs x a b c t s s1 s2 v u h ht h1 ho hv h2 i1 i2 =>
  intro hg hs _ p r hr
  obtain ⟨k, sh, hk⟩ := Qy hg
  obtain ⟨m, r1, e1, st⟩ := Q7 i1 hg hs h p r
  have ha : ofT V a = 1 ∧ ofT V b = 2 ∧ ofT V c = 2 ∧ ofT V (.node x [a, b, c]) = 2 := by cases sh <;> omega
  obtain ⟨o1, b1⟩ := h1.inv (g := .one a) (Qt hg (by simp)) hs.tick
  have b1 := b1.2 ho _ rfl ha.1
  rw [ZP e1 ((st ho).trans (Q9 (by omega)))] at r1
  have ht2 : ofT V t = 2 := by
   rcases b1 with rfl | rfl
   · have : c = t := by simpa using hv
     rw [← this]; exact ha.2.2.1
   · have : b = t := by simpa using hv
     rw [← this]; exact ha.2.1
  obtain ⟨m2, r2, e2, st2⟩ := JQ i2 (Qt hg (List.mem_of_getElem? hv)) o1 ho (Fr.told ⟨p, .node x [a, b, c], 1, []⟩ v) r (2 - v).toNat ⟨by simp [Tr.kids, Fr.told], .inl ⟨ht, rfl, v, [], rfl, b1, by omega⟩⟩ hv
  rcases Ky s2 with ho2 | ho2
  · exact ⟨m2, r1.trans r2, e2, fun e => by rw [e] at ho2; cases ho2⟩
  ·
   refine Zi (r1.trans r2) (ZP rfl ((st2 ho2).trans (XY ht2))) (by rw [e2]; exact ho2) ⟨.inr ⟨fun e => by simp [Fr.told, Fr.more] at e, .inl ⟨ht, by simp [Fr.told, Fr.more]⟩⟩⟩
    (.nothing _ _ _ (.inr (.inl ht))) e2 ?_
   intro _; cases r with
   | nil => rfl
   | cons g r' => rw [XY ha.2.2.2]
 | while0 x a b s s1 v h ht h1 ho hv i1 =>
  intro hg hs _ p r hr
  obtain ⟨k, sh, hk⟩ := Qy hg
  obtain ⟨m, r1, e1, st⟩ := Q7 i1 hg hs h p r
  have ha : ofT V a = 1 ∧ ofT V (.node x [a, b]) = 2 := by cases sh <;> omega
  obtain ⟨o1, b1⟩ := h1.inv (g := .one a) (Qt hg (by simp)) hs.tick
  have b1 := b1.2 ho _ rfl ha.1
  refine Zi r1 (ZP rfl ((st ho).trans (Q9 (by omega)))) (by rw [e1]; exact ho) ⟨.inl ⟨rfl, v, [], rfl, .inr (.inr ⟨ht, by omega⟩)⟩⟩
   (.while0 _ _ _ v [] ht rfl hv) e1 ?_
  intro _; cases r with
  | nil => rfl
  | cons g r' => rw [XY ha.2]
 | while1 x a b s s1 s2 s3 u r' h ht h1 ho h2 h3 i1 i2 i3 =>
  intro hg hs _ p r hr
  obtain ⟨k, sh, hk⟩ := Qy hg
  obtain ⟨m, r1, e1, st⟩ := Q7 i1 hg hs h p r
  have ha : ofT V a = 1 ∧ ofT V b = 2 ∧ ofT V (.node x [a, b]) = 2 := by cases sh <;> omega
  obtain ⟨o1, b1⟩ := h1.inv (g := .one a) (Qt hg (by simp)) hs.tick
  obtain ⟨o2, _⟩ := h2.inv (g := .one b) (Qt hg (by simp)) o1
  rw [ZP e1 ((st ho).trans (Q9 (by omega)))] at r1
  obtain ⟨m2, r2, e2, st2⟩ := JQ i2 (Qt hg (by simp)) o1 ho (Fr.told ⟨p, .node x [a, b], 1, []⟩ 1) r 1 ⟨by simp [Tr.kids, Fr.told], .inr ⟨rfl, by simp only [Tr.root, Fr.told]; omega, fun _ _ => ⟨1, [], rfl, by unfold YY; simp only [Tr.root, Fr.told]; omega⟩⟩⟩ rfl
  rcases Ky s2 with ho2 | ho2
  · 
    have e3 : s3 = s2 := Abx h3 ho2
    subst e3
    exact ⟨m2, r1.trans r2, e2, fun e => by rw [e] at ho2; cases ho2⟩
  ·
   obtain ⟨m3, r3, e3, st3⟩ := i3 hg o2 ho2 p r (fun e => absurd ha.2.2 e)
   have em := ZP e2 ((st2 ho2).trans (XY ha.2.1))
   refine ⟨m3, (r1.trans r2).trans (.step _ _ _ (by rw [e2]; exact ho2) (by rw [em]; exact .fin _ _ _ _ ⟨.inr ⟨fun e => by simp [Fr.told, Fr.more] at e, .inr ⟨by simp only [Tr.root, Fr.told, Fr.more]; omega, Nat.le_refl _⟩⟩⟩ (.while1 _ _ _ [] ht rfl)) r3), e3, fun e => ?_⟩
   rw [st3 e]
   cases r with
   | nil => rfl
   | cons g r'' => rw [XY ha.2.2, XY ha.2.2]
 | ret x a s s1 v h ht h1 ho i1 =>
  intro hg hs _ p r hr
  obtain ⟨k, sh, hk⟩ := Qy hg
  obtain ⟨m, r1, e1, st⟩ := Q7 i1 hg hs h p r
  have ha : ofT V a ≠ 2 := by cases sh <;> omega
  exact Zi r1 (ZP rfl ((st ho).trans (Q9 ha))) (by rw [e1]; exact ho) ⟨.inr ⟨fun e => by unfold KX at e; simp only [Tr.root, Fr.told] at e; omega, .inr ⟨by simp only [Tr.root, Fr.told]; omega, Nat.le_refl _⟩⟩⟩
   (.ret _ _ _ v [] ht rfl) (by rw [e1]) (fun e => by cases e)
 | cut2 x a b s s1 s2 v u h ht h1 ho h2 ho2 i1 i2 =>
  intro hg hs _ p r hr
  obtain ⟨k, sh, hk⟩ := Qy hg
  obtain ⟨m, r1, e1, st⟩ := Q7 i1 hg hs h p r
  unfold wide XI at ht
  have ha : ofT V a ≠ 2 := by cases sh <;> omega
  obtain ⟨o1, _⟩ := h1.inv (g := .one a) (Qt hg (by simp)) hs.tick
  rw [ZP e1 ((st ho).trans (Q9 ha))] at r1
  obtain ⟨m2, r2, e2, st2⟩ := JQ i2 (Qt hg (by simp)) o1 ho (Fr.told ⟨p, .node x [a, b], 1, []⟩ v) r 1 ⟨by simp [Tr.kids, Fr.told], .inr ⟨rfl, by simp only [Tr.root, Fr.told]; omega, fun _ e => by unfold KX at e; simp only [Tr.root, Fr.told] at e; omega⟩⟩ rfl
  exact ⟨m2, r1.trans r2, e2, fun e => by rw [e] at ho2; cases ho2⟩
 | putNo x a b s s1 s2 v u h ht h1 ho h2 ho2 hb i1 i2 =>
  intro hg hs _ p r hr
  obtain ⟨k, sh, hk⟩ := Qy hg
  obtain ⟨m, r1, e1, st⟩ := Q7 i1 hg hs h p r
  obtain ⟨o1, _⟩ := h1.inv (g := .one a) (Qt hg (by simp)) hs.tick
  obtain ⟨o2, _⟩ := h2.inv (g := .one b) (Qt hg (by simp)) o1
  have ha : ofT V a ≠ 2 ∧ ofT V b ≠ 2 ∧ 0 ≤ x.n ∧ x.n.toNat < s2.arrs.length := by
   rw [o2.alen]
   cases sh <;> first | omega | skip
   exact ⟨by omega, by omega, by assumption, (List.getElem?_eq_some_iff.1 (by assumption)).1⟩
  rw [ZP e1 ((st ho).trans (Q9 ha.1))] at r1
  obtain ⟨m2, r2, e2, st2⟩ := JQ i2 (Qt hg (by simp)) o1 ho (Fr.told ⟨p, .node x [a, b], 1, []⟩ v) r 1 ⟨by simp [Tr.kids, Fr.told], .inr ⟨rfl, by simp only [Tr.root, Fr.told]; omega, fun _ e => by unfold KX at e; simp only [Tr.root, Fr.told] at e; omega⟩⟩ rfl
  exact Zi (r1.trans r2) (ZP rfl ((st2 ho2).trans (Q9 ha.2.1))) (by rw [e2]; exact ho2) ⟨.inr ⟨fun e => by simp [Fr.told, Fr.more] at e, .inr ⟨by simp only [Tr.root, Fr.told, Fr.more]; omega, Nat.le_refl _⟩⟩⟩
   (.putNo _ _ _ v u [] ht ha.2.2.1 (by rw [e2]; exact ha.2.2.2) rfl (by rw [e2]; exact hb)) (by rw [e2]) (fun e => by cases e)
 | put x a b s s1 s2 v u h ht h1 ho h2 ho2 hb i1 i2 =>
  intro hg hs _ p r hr
  obtain ⟨k, sh, hk⟩ := Qy hg
  obtain ⟨m, r1, e1, st⟩ := Q7 i1 hg hs h p r
  obtain ⟨o1, _⟩ := h1.inv (g := .one a) (Qt hg (by simp)) hs.tick
  obtain ⟨o2, _⟩ := h2.inv (g := .one b) (Qt hg (by simp)) o1
  have ha : ofT V a ≠ 2 ∧ ofT V b ≠ 2 ∧ 0 ≤ x.n ∧ x.n.toNat < s2.arrs.length ∧ ofT V (.node x [a, b]) = 2 := by
   rw [o2.alen]
   cases sh <;> first | omega | skip
   exact ⟨by omega, by omega, by assumption, (List.getElem?_eq_some_iff.1 (by assumption)).1, by omega⟩
  rw [ZP e1 ((st ho).trans (Q9 ha.1))] at r1
  obtain ⟨m2, r2, e2, st2⟩ := JQ i2 (Qt hg (by simp)) o1 ho (Fr.told ⟨p, .node x [a, b], 1, []⟩ v) r 1 ⟨by simp [Tr.kids, Fr.told], .inr ⟨rfl, by simp only [Tr.root, Fr.told]; omega, fun _ e => by unfold KX at e; simp only [Tr.root, Fr.told] at e; omega⟩⟩ rfl
  refine Zi (r1.trans r2) (ZP rfl ((st2 ho2).trans (Q9 ha.2.1))) (by rw [e2]; exact ho2) ⟨.inr ⟨fun e => by simp [Fr.told, Fr.more] at e, .inr ⟨by simp only [Tr.root, Fr.told, Fr.more]; omega, Nat.le_refl _⟩⟩⟩
   (.put _ _ _ v u [] ht ha.2.2.1 (by rw [e2]; exact ha.2.2.2.1) rfl (by rw [e2]; exact hb)) (by rw [e2]; rfl) ?_
  intro _; cases r with
  | nil => rfl
  | cons g r' => rw [XY ha.2.2.2.2]
 | pairNo x a b s s1 s2 v u h ht h1 ho h2 ho2 hp i1 i2 =>
  intro hg hs _ p r hr
  obtain ⟨k, sh, hk⟩ := Qy hg
  obtain ⟨m, r1, e1, st⟩ := Q7 i1 hg hs h p r
  obtain ⟨o1, _⟩ := h1.inv (g := .one a) (Qt hg (by simp)) hs.tick
  have ha : ofT V a ≠ 2 ∧ ofT V b ≠ 2 := by cases sh <;> omega
  rw [ZP e1 ((st ho).trans (Q9 ha.1))] at r1
  obtain ⟨m2, r2, e2, st2⟩ := JQ i2 (Qt hg (by simp)) o1 ho (Fr.told ⟨p, .node x [a, b], 1, []⟩ v) r 1 ⟨by simp [Tr.kids, Fr.told], .inr ⟨rfl, by simp only [Tr.root, Fr.told]; omega, fun _ e => by unfold KX at e; simp only [Tr.root, Fr.told] at e; omega⟩⟩ rfl
  exact Zi (r1.trans r2) (ZP rfl ((st2 ho2).trans (Q9 ha.2))) (by rw [e2]; exact ho2) ⟨.inr ⟨fun e => by simp [Fr.told, Fr.more] at e, .inr ⟨by simp only [Tr.root, Fr.told, Fr.more]; omega, Nat.le_refl _⟩⟩⟩
   (.pairNo _ _ _ v u [] ht rfl hp) (by rw [e2]) (fun e => by cases e)
 | pair x a b s s1 s2 v u c h ht h1 ho h2 ho2 hp i1 i2 =>
  intro hg hs _ p r hr
  obtain ⟨k, sh, hk⟩ := Qy hg
  obtain ⟨m, r1, e1, st⟩ := Q7 i1 hg hs h p r
  obtain ⟨o1, _⟩ := h1.inv (g := .one a) (Qt hg (by simp)) hs.tick
  have ha : ofT V a ≠ 2 ∧ ofT V b ≠ 2 ∧ ofT V (.node x [a, b]) ≠ 2 := by cases sh <;> omega
  rw [ZP e1 ((st ho).trans (Q9 ha.1))] at r1
  obtain ⟨g, r', rfl⟩ := Kc (hr ha.2.2)
  obtain ⟨m2, r2, e2, st2⟩ := JQ i2 (Qt hg (by simp)) o1 ho (Fr.told ⟨p, .node x [a, b], 1, []⟩ v) (g :: r') 1 ⟨by simp [Tr.kids, Fr.told], .inr ⟨rfl, by simp only [Tr.root, Fr.told]; omega, fun _ e => by unfold KX at e; simp only [Tr.root, Fr.told] at e; omega⟩⟩ rfl
  exact Zi (r1.trans r2) (ZP rfl ((st2 ho2).trans (Q9 ha.2.1))) (by rw [e2]; exact ho2) ⟨.inr ⟨fun e => by simp [Fr.told, Fr.more] at e, .inr ⟨by simp only [Tr.root, Fr.told, Fr.more]; omega, Nat.le_refl _⟩⟩⟩
   (.pair _ _ g r' v u c [] ht rfl hp) e2 (fun _ => by rw [Q9 ha.2.2])
structure LenS (V : List Int) (s : Ms) : Prop where
 vlen : s.vals.length = V.length
 alen : s.arrs.length = V.length
 len : ∀ (i : Nat) (t : Int) (a : List Int), V[i]? = some t → s.arrs[i]? = some a → (a.length : Int) = QU t
theorem OkS.lens {V : List Int} {s : Ms} (h : OkS V s) : LenS V s := ⟨h.vlen, h.alen, fun i t a h1 h2 => (h.arr i t a h1 h2).1⟩
theorem LenS.arr_len {V : List Int} {s : Ms} (h : LenS V s) {n t : Int} (hv : V[n.toNat]? = some t) : ((s.arr n).length : Int) = QU t := by
 have hlt : n.toNat < V.length := (List.getElem?_eq_some_iff.1 hv).1
 have ha : s.arrs[n.toNat]? = some (s.arrs[n.toNat]'(by rw [h.alen]; exact hlt)) := List.getElem?_eq_getElem _
 unfold Ms.arr
 rw [ha]
 exact h.len _ _ _ hv ha
theorem LenS.stop {V : List Int} {s : Ms} (h : LenS V s) (k v : Int) : LenS V (s.stop k v) := ⟨h.vlen, h.alen, h.len⟩
theorem LenS.tick {V : List Int} {s : Ms} (h : LenS V s) : LenS V s.tick := ⟨h.vlen, h.alen, h.len⟩
theorem LenS.setv {V : List Int} {s : Ms} (h : LenS V s) (n v : Int) : LenS V (s.setv n v) := ⟨by simp [Ms.setv, h.vlen], h.alen, h.len⟩
theorem LenS.seta {V : List Int} {s : Ms} (h : LenS V s) (n i v : Int) : LenS V (s.seta n i v) := by
 refine ⟨h.vlen, by simp [Ms.seta, h.alen], fun j t a hj ha => ?_⟩
 have hlt : j < s.arrs.length := by rw [h.alen]; exact (List.getElem?_eq_some_iff.1 hj).1
 simp only [Ms.seta] at ha
 by_cases e : n.toNat = j
 · subst e
   rw [List.getElem?_set_self hlt] at ha
   injection ha with ha
   subst ha
   rw [List.length_set]
   exact h.arr_len hj
 · rw [List.getElem?_set_ne e] at ha
   exact h.len j t a hj ha
structure FOk (l : List Nd) (f : Fr) : Prop where
 hat : At l f.at_ f.t
 kid : f.kid ≤ f.t.kids.length
 vals : f.vals.length ≤ f.kid
structure SOk (l : List Nd) (st : List Fr) : Prop where
 top : ∀ f r, st = f :: r → FOk l f
 rest : ∀ f r, st = f :: r → ∀ g ∈ r, FOk l g ∧ g.vals.length + 1 ≤ g.kid
theorem SOk.nil (l : List Nd) : SOk l [] := ⟨fun _ _ h => by simp at h, fun _ _ h => by simp at h⟩
theorem SOk.tail {l : List Nd} {f : Fr} {r : List Fr} (h : SOk l (f :: r)) : SOk l r :=
 ⟨fun g r' e => (h.rest f r rfl g (by rw [e]; simp)).1, fun g r' e k hk => h.rest f r rfl k (by rw [e]; simp [hk])⟩
theorem SOk.told {l : List Nd} {f g : Fr} {r : List Fr} (h : SOk l (f :: g :: r)) (v : Int) : SOk l (g.told v :: r) := by
 have hg := h.rest f (g :: r) rfl g (by simp)
 refine ⟨fun a b e => ?_, fun a b e k hk => ?_⟩
 · injection e with e1 e2; subst e1
   exact ⟨hg.1.hat, hg.1.kid, by simp only [Fr.told, List.length_append, List.length_singleton]; exact hg.2⟩
 · injection e with e1 e2; subst e2
   exact h.rest f (g :: r) rfl k (by simp [hk])
theorem SOk.enter {l : List Nd} {s : Ms} {r : List Fr} (h : SOk l r) (h1 : ∀ g ∈ r, g.vals.length + 1 ≤ g.kid ∧ FOk l g) {q : Nat} {t : Tr} (hat : At l q t) : SOk l (ZN q t ⟨s, r⟩).stack := by
 unfold ZN
 split
 · exact h
 · refine ⟨fun a b e => ?_, fun a b e k hk => ?_⟩
   · injection e with e1 e2; subst e1; exact ⟨hat, Nat.zero_le _, Nat.le_refl _⟩
   · injection e with e1 e2; subst e2; exact ⟨(h1 k hk).2, (h1 k hk).1⟩
theorem LenS.enter {V : List Int} {s : Ms} {r : List Fr} (h : LenS V s) {q : Nat} {t : Tr} : LenS V (ZN q t ⟨s, r⟩).s := by
 unfold ZN
 split
 · exact h.stop _ _
 · exact h.tick
theorem Fin.ok {l : List Nd} {V : List Int} {f : Fr} {s : Ms} {r : List Fr} {m : Mm} (h : Fin f s r m) (hs : SOk l (f :: r)) (hl : LenS V s) : SOk l m.stack ∧ LenS V m.s := by
 have ht := hs.tail
 cases h with
 | lit => exact ⟨hs.told _, hl⟩
 | var => exact ⟨hs.told _, hl⟩
 | atNo => exact ⟨ht, hl.stop _ _⟩
 | at_ => exact ⟨hs.told _, hl⟩
 | neg => exact ⟨hs.told _, hl⟩
 | not => exact ⟨hs.told _, hl⟩
 | logic => exact ⟨hs.told _, hl⟩
 | set => exact ⟨ht, hl.setv _ _⟩
 | putNo => exact ⟨ht, hl.stop _ _⟩
 | put => exact ⟨ht, hl.seta _ _ _⟩
 | while1 => exact ⟨ht.enter (fun g hg => ⟨(hs.rest f _ rfl g hg).2, (hs.rest f _ rfl g hg).1⟩) (hs.top f _ rfl).hat, hl.enter⟩
 | while0 => exact ⟨ht, hl⟩
 | ret => exact ⟨ht, hl.stop _ _⟩
 | nothing => exact ⟨ht, hl⟩
 | pairNo => exact ⟨ht, hl.stop _ _⟩
 | pair => exact ⟨hs.told _, hl⟩
theorem Step.ok {l : List Nd} {V : List Int} {m m' : Mm} (h : Step m m') (hs : SOk l m.stack) (hl : LenS V m.s) : SOk l m'.stack ∧ LenS V m'.s := by
 cases h with
 | done s => exact ⟨SOk.nil l, hl.stop _ _⟩
 | kid s f r i q k hi hq hk =>
  have hf := hs.top f r rfl
  have hk2 := (hf.hat.kids.spot i q k hq hk).1
  have hlt := hi.lt
  have hm : SOk l (f.more :: r) := ⟨fun a b e => by injection e with e1 e2; subst e1; exact ⟨hf.hat, by simp only [Fr.more]; omega, by have := hf.vals; simp only [Fr.more]; omega⟩, fun a b e g hg => by injection e with e1 e2; subst e2; exact hs.rest f r rfl g hg⟩
  refine ⟨hm.enter (fun g hg => ?_) hk2, hl.enter⟩
  rcases List.mem_cons.1 hg with rfl | hg
  · exact ⟨by have := hf.vals; simp only [Fr.more]; omega, hm.top _ _ rfl⟩
  · exact ⟨(hs.rest f r rfl g hg).2, (hs.rest f r rfl g hg).1⟩
 | fin s f r m' hn hf => exact hf.ok hs hl
theorem FOk.few {l : List Nd} {f : Fr} (h : FOk l f) : f.t.kids.length ≤ 200 ∧ f.vals.length ≤ 200 := by
 have h1 := h.kid
 have h2 := h.vals
 have h3 := h.hat.fits.arity
 have h4 := Ku f.t.root
 omega
inductive ReachN : Nat → Mm → Mm → Prop
 | refl (m : Mm) : ReachN 0 m m
 | step (n : Nat) (m m' m'' : Mm) (ho : m.s.out = none) (h : Step m m') (r : ReachN n m' m'') : ReachN (n + 1) m m''
theorem Reach.count {a b : Mm} (h : Reach a b) : ∃ n, ReachN n a b := by
 induction h with
 | refl m => exact ⟨0, .refl m⟩
 | step m m' m'' ho h _ ih =>
  obtain ⟨n, hn⟩ := ih
  exact ⟨n + 1, .step n _ _ _ ho h hn⟩
theorem Af9 {P : Nat → Prop} (h : ∃ n, P n) : ∃ n, P n ∧ ∀ k, P k → n ≤ k := by
 obtain ⟨n, hn⟩ := h
 induction n using Nat.strongRecOn with
 | ind n ih =>
  by_cases h0 : ∃ k, k < n ∧ P k
  · obtain ⟨k, hk, hp⟩ := h0
    exact ih k hk hp
  · exact ⟨n, hn, fun k hp => by
     by_cases hlt : k < n
     · exact absurd ⟨k, hlt, hp⟩ h0
     · omega⟩
noncomputable def AaO (P : Nat → Prop) : Nat := Classical.epsilon fun n => P n ∧ ∀ k, P k → n ≤ k
theorem XO {P : Nat → Prop} (h : ∃ n, P n) : P (AaO P) ∧ ∀ k, P k → AaO P ≤ k := Classical.epsilon_spec (Af9 h)
end Go.Proofs.YtdcmppdhdcjpfaaGreat
