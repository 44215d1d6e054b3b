/- Lemmas for VerdictWitnessP. -/
import Derived.Test.YtdcmppdhdcjpfaaGreatZw2
import Derived.Test.YtdcmppdhdcjpfaaGreatZw1
import Derived.ChangeMaps4
set_option linter.unusedVariables false
set_option linter.unusedSimpArgs false
set_option maxRecDepth 100000
set_option maxHeartbeats 16000000
namespace Go.Proofs.YtdcmppdhdcjpfaaGreat
def ZF (a b : Int) : Int := if a < b then -1 else if b < a then 1 else 0
def Zu : List Int → List Int → Int
 | [], [] => 0
 | [], _ :: _ => -1
 | _ :: _, [] => 1
 | a :: xs, b :: ys => if ZF a b ≠ 0 then ZF a b else Zu xs ys
structure Dl where
 path : List Int
 op : Int
 n : Int
def orI (a b : Int) : Int := if a ≠ 0 then a else b
def JE (d e : Dl) : Int := orI (Zu d.path e.path) (orI (ZF d.op e.op) (ZF d.n e.n))
theorem Yt (a : Int) : ZF a a = 0 := by unfold ZF; rw [if_neg (by omega), if_neg (by omega)]
theorem cmpI_eq {a b : Int} : ZF a b = 0 ↔ a = b := by
 unfold ZF;constructor
 · intro h; split at h
   · cases h
   · split at h
     · cases h
     · omega
 · rintro rfl; rw [if_neg (by omega), if_neg (by omega)]
theorem cmpI_lt {a b : Int} : ZF a b < 0 ↔ a < b := by
 unfold ZF;split
 · simp_all
 · split <;> simp <;> omega
theorem VM (a b : Int) : ZF b a = -ZF a b := by
 unfold ZF
 repeat' split
 all_goals omega
theorem Abf (a b : Int) : ZF a b = -1 ∨ ZF a b = 0 ∨ ZF a b = 1 := by
 unfold ZF
 repeat' split
 all_goals simp
theorem Aaz : ∀ a : List Int, Zu a a = 0
 | [] => rfl
 | x :: xs => by rw [Zu, Yt, if_neg (by simp), Aaz xs]
theorem cmpL_eq : ∀ {a b : List Int}, Zu a b = 0 ↔ a = b
 | [], [] => by simp [Zu]
 | [], _ :: _ => by simp [Zu]
 | _ :: _, [] => by simp [Zu]
 | a :: xs, b :: ys => by
  rw [Zu]
  by_cases h : ZF a b = 0
  · rw [if_neg (by simpa using h), cmpL_eq, cmpI_eq.1 h]; simp
  · rw [if_pos h]
    constructor
    · intro e; exact absurd e h
    · intro e; injection e with e1 e2; exact absurd (cmpI_eq.2 e1) h
theorem Acp : ∀ (a b : List Int), Zu b a = -Zu a b
 | [], [] => by simp [Zu]
 | [], _ :: _ => by simp [Zu]
 | _ :: _, [] => by simp [Zu]
 | a :: xs, b :: ys => by
  rw [Zu, Zu, VM a b]
  by_cases h : ZF a b = 0
  · rw [if_neg (by omega), if_neg (by omega), Acp xs ys]
  · rw [if_pos (by omega), if_pos h]
theorem AeW : ∀ (a b : List Int), Zu a b = -1 ∨ Zu a b = 0 ∨ Zu a b = 1
 | [], [] => by simp [Zu]
 | [], _ :: _ => by simp [Zu]
 | _ :: _, [] => by simp [Zu]
 | a :: xs, b :: ys => by
  rw [Zu]
  split
  · exact Abf a b
  · exact AeW xs ys
theorem VO : ∀ {a b c : List Int}, Zu a b < 0 → Zu b c < 0 → Zu a c < 0
 | [], [], _, h, _ => by simp [Zu] at h
 | [], b :: ys, [], _, h => by simp [Zu] at h
 | [], b :: ys, c :: zs, _, _ => by simp [Zu]
 | a :: xs, [], _, h, _ => by simp [Zu] at h
 | a :: xs, b :: ys, [], _, h => by simp [Zu] at h
 | a :: xs, b :: ys, c :: zs, h1, h2 => by
  rw [Zu] at h1 h2 ⊢
  by_cases e1 : ZF a b = 0
  · rw [if_neg (by simpa using e1)] at h1
    have := cmpI_eq.1 e1
    subst this
    by_cases e2 : ZF a c = 0
    · rw [if_neg (by simpa using e2)] at h2 ⊢
      exact VO h1 h2
    · rw [if_pos e2] at h2 ⊢
      exact h2
  · rw [if_pos e1] at h1
    by_cases e2 : ZF b c = 0
    · have := cmpI_eq.1 e2
      subst this
      rw [if_pos e1]; exact h1
    · rw [if_pos e2] at h2
      have h3 : ZF a c < 0 := cmpI_lt.2 (Int.lt_trans (cmpI_lt.1 h1) (cmpI_lt.1 h2))
      rw [if_pos (by omega)]; exact h3
theorem Ahz {a b : Int} : orI a b = 0 ↔ a = 0 ∧ b = 0 := by
 unfold orI;split
 · rename_i h; exact ⟨fun e => absurd e h, fun e => e.1⟩
 · rename_i h; exact ⟨fun e => ⟨by omega, e⟩, fun e => e.2⟩
theorem cmpD_eq {d e : Dl} : JE d e = 0 ↔ d = e := by
 unfold JE;rw [Ahz, Ahz, cmpL_eq, cmpI_eq, cmpI_eq];cases d; cases e;simp
theorem Aay (d : Dl) : JE d d = 0 := cmpD_eq.2 rfl
theorem Afk (a b : Int) : orI (-a) (-b) = -orI a b := by
 unfold orI;by_cases h : a = 0
 · rw [if_neg (by omega), if_neg (by omega)]
 · rw [if_pos (by omega), if_pos h]
theorem AgP (d e : Dl) : JE e d = -JE d e := by
 unfold JE;rw [Acp, VM d.op, VM d.n, Afk, Afk]
theorem Ahy {a b : Int} (h1 : a = -1 ∨ a = 0 ∨ a = 1) (h2 : b = -1 ∨ b = 0 ∨ b = 1) : orI a b = -1 ∨ orI a b = 0 ∨ orI a b = 1 := by
 unfold orI; split <;> assumption
theorem Aiv (d e : Dl) : JE d e = -1 ∨ JE d e = 0 ∨ JE d e = 1 := Ahy (AeW _ _) (Ahy (Abf _ _) (Abf _ _))
theorem Ad2 {d e f : Dl} (h1 : JE d e < 0) (h2 : JE e f < 0) : JE d f < 0 := by
 unfold JE orI at *;by_cases h : Zu d.path e.path = 0
 · rw [if_neg (by simpa using h)] at h1;rw [cmpL_eq.1 h];by_cases c : Zu e.path f.path = 0
   · rw [if_neg (by simpa using c)] at h2 ⊢;by_cases i : ZF d.op e.op = 0
     · rw [if_neg (by simpa using i)] at h1;rw [cmpI_eq.1 i];by_cases g : ZF e.op f.op = 0
       · rw [if_neg (by simpa using g)] at h2 ⊢;exact cmpI_lt.2 (Int.lt_trans (cmpI_lt.1 h1) (cmpI_lt.1 h2))
       · rw [if_pos g] at h2 ⊢; exact h2
     · rw [if_pos i] at h1;by_cases g : ZF e.op f.op = 0
       · rw [← cmpI_eq.1 g, if_pos i]; exact h1
       · rw [if_pos g] at h2;have j : ZF d.op f.op < 0 := cmpI_lt.2 (Int.lt_trans (cmpI_lt.1 h1) (cmpI_lt.1 h2));rw [if_pos (by omega)]; exact j
   · rw [if_pos c] at h2 ⊢; exact h2
 · rw [if_pos h] at h1;by_cases c : Zu e.path f.path = 0
   · rw [← cmpL_eq.1 c, if_pos h]; exact h1
   · rw [if_pos c] at h2;have j := VO h1 h2;rw [if_pos (by omega)]; exact j
def YC : List Dl → Prop
 | [] => True
 | [_] => True
 | a :: b :: l => JE a b < 0 ∧ YC (b :: l)
theorem AeB {a : Dl} {l : List Dl} (h : YC (a :: l)) : YC l := by
 cases l with
 | nil => trivial
 | cons b l => exact h.2
theorem EB : ∀ {l : List Dl} {a b : Dl}, YC (a :: l) → b ∈ l → JE a b < 0
 | [], _, _, _, h => by simp at h
 | c :: l, a, b, hr, h => by
  rcases Lu.1 h with rfl | h
  · exact hr.1
  · exact Ad2 hr.1 (EB hr.2 h)
theorem UO : ∀ {l : List Dl} {i j : Nat} {a b : Dl}, YC l → l[i]? = some a → l[j]? = some b → i < j → JE a b < 0
 | [], _, _, _, _, _, h, _, _ => by simp at h
 | c :: l, 0, 0, _, _, _, _, _, h => by omega
 | c :: l, 0, j + 1, a, b, hr, h1, h2, _ => by
  simp at h1 h2
  subst h1
  exact EB hr (Lg h2)
 | c :: l, i + 1, 0, _, _, _, _, _, h => by omega
 | c :: l, i + 1, j + 1, a, b, hr, h1, h2, h => UO (AeB hr) (by simpa using h1) (by simpa using h2) (by omega)
end Go.Proofs.YtdcmppdhdcjpfaaGreat
namespace Go.Proofs.YtdcmppdhdcjpfaaGreat
open Go.RowKit
def JQ : List Int → Prop
 | [] => True
 | [_] => True
 | a :: b :: l => a < b ∧ JQ (b :: l)
theorem Ki {a : Int} {l : List Int} (h : JQ (a :: l)) : JQ l := by
 cases l with
 | nil => trivial
 | cons b l => exact h.2
theorem Jk : ∀ {l : List Int} {a b : Int}, JQ (a :: l) → b ∈ l → a < b
 | [], _, _, _, h => by simp at h
 | c :: l, a, b, hr, h => by
  rcases Lu.1 h with rfl | h
  · exact hr.1
  · exact Int.lt_trans hr.1 (Jk hr.2 h)
theorem ED {a : Int} {l : List Int} (h : JQ l) (hl : ∀ b ∈ l, a < b) : JQ (a :: l) := by
 cases l with
 | nil => trivial
 | cons b l => exact ⟨hl b (by simp), h⟩
theorem UP : ∀ {l m : List Int}, JQ l → JQ m → (∀ x, x ∈ l ↔ x ∈ m) → l = m
 | [], [], _, _, _ => rfl
 | [], b :: m, _, _, h => absurd ((h b).2 (by simp)) (by simp)
 | a :: l, [], _, _, h => absurd ((h a).1 (by simp)) (by simp)
 | a :: l, b :: m, h1, h2, h => by
  have hab : a = b := by
   rcases Lu.1 ((h a).1 (by simp)) with e | i
   · exact e
   · rcases Lu.1 ((h b).2 (by simp)) with e | j
     · exact e.symm
     · have := Jk h1 j; have := Jk h2 i; omega
  subst hab
  rw [UP (Ki h1) (Ki h2) fun x => ?_]
  constructor
  · intro c
    have d := Jk h1 c
    rcases Lu.1 ((h x).1 (by simp [c])) with e | g
    · omega
    · exact g
  · intro c
    have d := Jk h2 c
    rcases Lu.1 ((h x).2 (by simp [c])) with e | g
    · omega
    · exact g
def Aab (a : Int) : List Int → List Int
 | [] => [a]
 | b :: l => if a < b then a :: b :: l else if a = b then b :: l else b :: Aab a l
theorem Ed (a x : Int) : ∀ l : List Int, x ∈ Aab a l ↔ x = a ∨ x ∈ l
 | [] => by simp [Aab]
 | b :: l => by
  rw [Aab]
  split
  · simp
  · split
    · rename_i e; subst e; simp
    · rw [Lu, Ed a x l, Lu]
      constructor
      · rintro (h | h | h) <;> simp [h]
      · rintro (h | h | h) <;> simp [h]
theorem AaL (a : Int) : ∀ {l : List Int}, JQ l → JQ (Aab a l)
 | [], _ => trivial
 | b :: l, h => by
  rw [Aab]
  split
  · rename_i hab; exact ⟨hab, h⟩
  · split
    · exact h
    · rename_i h1 h2
      refine ED (AaL a (Ki h)) fun x hx => ?_
      rcases (Ed a x l).1 hx with rfl | hx
      · omega
      · exact Jk h hx
def KZ : List Int → List Int
 | [] => []
 | a :: l => Aab a (KZ l)
theorem KN (x : Int) : ∀ l : List Int, x ∈ KZ l ↔ x ∈ l
 | [] => by simp [KZ]
 | a :: l => by rw [KZ, Ed, KN x l, Lu]
theorem K0 : ∀ l : List Int, JQ (KZ l)
 | [] => trivial
 | a :: l => AaL a (K0 l)
theorem JN (f : Int → Bool) : ∀ {l : List Int}, JQ l → JQ (l.filter f)
 | [], _ => trivial
 | a :: l, h => by
  rw [List.filter_cons]
  split
  · exact ED (JN f (Ki h)) fun b hb => Jk h ((Nc.1 hb).1)
  · exact JN f (Ki h)
def isC (x y : Nd) (op n : Int) : Bool :=
 if op = 1 then decide (7 ≤ x.tag ∧ x.tag ≤ 11 ∧ 7 ≤ n ∧ n ≤ 11 ∧ n ≠ x.tag) else if op = 2 then decide (12 ≤ x.tag ∧ x.tag ≤ 17 ∧ 12 ≤ n ∧ n ≤ 17 ∧ n ≠ x.tag)
 else if op = 3 then decide (18 ≤ x.tag ∧ x.tag ≤ 19 ∧ 18 ≤ n ∧ n ≤ 19 ∧ n ≠ x.tag)
 else if op = 4 then decide ((x.tag = 1 ∧ (n = 0 ∨ n = 1 ∨ n = -1 ∨ n = wrap64 (x.n + 1) ∨ n = wrap64 (x.n - 1)) ∧ n ≠ x.n) ∨ (x.tag = 2 ∧ n = wrap64 (1 - x.n)))
 else if op = 5 then decide ((x.tag = 21 ∨ x.tag = 22 ∨ x.tag = 23 ∨ x.tag = 24 ∨ x.tag = 25) ∧ n = 0)
 else if op = 6 then decide ((x.tag = 23 ∨ x.tag = 24) ∧ n = 0)
 else if op = 7 then decide (x.tag = 25 ∧ (n = 0 ∨ n = 1) ∧ ¬ (y.tag = 1 ∧ y.n = n)) else false
def UW (x : Nd) : List Int := KZ ([-1, 0, 1, wrap64 (x.n - 1), wrap64 (x.n + 1)] ++ (List.range 13).map fun i : Nat => (i : Int) + 7)
def ZJ (x y : Nd) : List (Int × Int) := ((List.range 7).map fun i : Nat => (i : Int) + 1).flatMap fun op => ((UW x).filter (isC x y op)).map fun n => (op, n)
theorem AaM {x y : Nd} {op n : Int} (h : isC x y op n = true) (h2 : x.tag = 2 → x.n = 0 ∨ x.n = 1) : n ∈ UW x := by
 unfold UW;rw [KN]
 have c : ∀ k : Int, 7 ≤ k → k ≤ 19 → k ∈ (List.range 13).map fun i : Nat => (i : Int) + 7 := fun k d h2 => by
  rw [LM];exact ⟨(k - 7).toNat, N3.2 (by omega), by omega⟩
 unfold isC at h;rw [L1]
 repeat' split at h
 all_goals (first | (cases h; done) | skip)
 all_goals (simp only [decide_eq_true_eq] at h)
 · exact .inr (c n (by omega) (by omega))
 · exact .inr (c n (by omega) (by omega))
 · exact .inr (c n (by omega) (by omega))
 · refine .inl ?_;rcases h with ⟨_, h, _⟩ | ⟨d, h⟩
   · simp; omega
   · have : n = 0 ∨ n = 1 := by
      subst h;unfold wrap64;rcases h2 d with e | e <;> rw [e] <;> omega
     simp; omega
 · exact .inl (by simp; omega)
 · exact .inl (by simp; omega)
 · exact .inl (by simp; omega)
theorem Abe {x y : Nd} {op n : Int} (h2 : x.tag = 2 → x.n = 0 ∨ x.n = 1) : (op, n) ∈ ZJ x y ↔ isC x y op n = true := by
 unfold ZJ;rw [Nq];constructor
 · rintro ⟨o, _, h⟩;rw [LM] at h;obtain ⟨m, c, e⟩ := h;injection e with e1 e2;subst e1; subst e2;exact (Nc.1 c).2
 · intro h
   have d : 1 ≤ op ∧ op ≤ 7 := by
    unfold isC at h
    repeat' split at h
    all_goals (first | (cases h; done) | omega)
   refine ⟨op, ?_, ?_⟩
   · rw [LM]; exact ⟨(op - 1).toNat, N3.2 (by omega), by omega⟩
   · rw [LM]; exact ⟨n, Nc.2 ⟨AaM h h2, h⟩, rfl⟩
mutual
def QW (own : List Int) (q : Nat) : Tr → List (Nat × List Int)
 | .node _ ks => (q, own) :: Zr own (q + 1) 0 ks
def Zr (own : List Int) (q : Nat) (i : Int) : List Tr → List (Nat × List Int)
 | [] => []
 | t :: ts => QW (own ++ [i]) q t ++ Zr own (q + t.size) (i + 1) ts
end
mutual
theorem Ji : ∀ (t : Tr) (own : List Int) (q : Nat), (QW own q t).length = t.size
 | .node x ks, own, q => by rw [QW, Lc, Ex ks, Tr.size, Tr.flat, Lc]
theorem Ex : ∀ (ts : List Tr) (own : List Int) (q : Nat) (i : Int), (Zr own q i ts).length = (QF ts).length
 | [], _, _, _ => by simp [Zr, QF]
 | t :: ts, own, q, i => by rw [Zr, Le, Ji t, Ex ts, QF, Le]; rfl
end
mutual
theorem UN : ∀ (t : Tr) (own : List Int) (q j : Nat) (e : Nat × List Int), (QW own q t)[j]? = some e → e.1 = q + j
 | .node x ks, own, q, 0, e, h => by simp [QW] at h; subst h; rfl
 | .node x ks, own, q, j + 1, e, h => by
  rw [QW, Na] at h
  have := AaZ ks own (q + 1) 0 j e h
  omega
theorem AaZ : ∀ (ts : List Tr) (own : List Int) (q : Nat) (i : Int) (j : Nat) (e : Nat × List Int), (Zr own q i ts)[j]? = some e → e.1 = q + j
 | [], _, _, _, _, _, h => by simp [Zr] at h
 | t :: ts, own, q, i, j, e, h => by
  rw [Zr] at h
  by_cases hj : j < t.size
  · rw [Lw (by rw [Ji]; exact hj)] at h
    exact UN t _ q j e h
  · rw [Lt (by rw [Ji]; omega), Ji] at h
    have := AaZ ts own _ (i + 1) _ e h
    omega
end
def ZD : List Int → Nat → Tr → Option (Nat × Tr)
 | [], q, t => some (q, t)
 | i :: π, q, .node _ ks => if i < 0 then none else match (QS (q + 1) ks)[i.toNat]?, ks[i.toNat]? with
  | some r, some k => ZD π r k
  | _, _ => none
theorem VX {l : List Nd} : ∀ {π : List Int} {q r : Nat} {t k : Tr}, At l q t → ZD π q t = some (r, k) → At l r k
 | [], q, r, t, k, h, e => by simp [ZD] at e; obtain ⟨rfl, rfl⟩ := e; exact h
 | i :: π, q, r, .node x ks, k, h, e => by
  rw [ZD] at e
  split at e
  · cases e
  · split at e
    · rename_i r1 k1 h1 h2
      exact VX (h.kids.spot i.toNat r1 k1 h1 h2).1 e
    · cases e
mutual
theorem Kz : ∀ (t : Tr) (own : List Int) (q r : Nat) (π : List Int), (r, own ++ π) ∈ QW own q t ↔ ∃ k, ZD π q t = some (r, k)
 | .node x ks, own, q, r, [] => by
  rw [QW, LU, Lu, ZD]
  constructor
  · rintro (e | h)
    · injection e with e1 _; subst e1; exact ⟨_, rfl⟩
    · obtain ⟨j, ρ, e, _⟩ := KX ks own (q + 1) 0 r own h
      have := congrArg List.length e
      simp at this
  · rintro ⟨k, e⟩
    injection e with e; injection e with e1 e2
    subst e1; exact .inl rfl
 | .node x ks, own, q, r, i :: π => by
  rw [QW, Lu, ZD]
  have hne : (r, own ++ i :: π) ≠ (q, own) := fun e => by
   injection e with _ e;have := congrArg List.length e;simp at this
  rw [or_iff_right hne, U9 ks own (q + 1) 0 r i π]
  constructor
  · rintro ⟨hi, s, k, c, d, g, l⟩
    rw [Int.sub_zero] at c d
    rw [if_neg (by omega), c, d]
    exact ⟨g, l⟩
  · rintro ⟨g, h⟩
    split at h
    · cases h
    · split at h
      · rename_i s k c d
        exact ⟨by omega, s, k, by rw [Int.sub_zero]; exact c, by rw [Int.sub_zero]; exact d, g, h⟩
      · cases h
theorem KX : ∀ (ts : List Tr) (own : List Int) (q : Nat) (i : Int) (r : Nat) (σ : List Int), (r, σ) ∈ Zr own q i ts → ∃ (j : Int) (ρ : List Int), σ = own ++ j :: ρ ∧ i ≤ j
 | [], _, _, _, _, _, h => by simp [Zr] at h
 | t :: ts, own, q, i, r, σ, h => by
  rw [Zr, L1] at h
  rcases h with h | h
  · obtain ⟨ρ, e⟩ := YQ t (own ++ [i]) q r σ h
    exact ⟨i, ρ, by rw [e]; simp, Int.le_refl _⟩
  · obtain ⟨j, ρ, e, hj⟩ := KX ts own _ (i + 1) r σ h
    exact ⟨j, ρ, e, by omega⟩
theorem YQ : ∀ (t : Tr) (own : List Int) (q r : Nat) (σ : List Int), (r, σ) ∈ QW own q t → ∃ ρ, σ = own ++ ρ
 | .node x ks, own, q, r, σ, h => by
  rw [QW, Lu] at h
  rcases h with e | h
  · injection e with _ e; exact ⟨[], by rw [e]; simp⟩
  · obtain ⟨j, ρ, e, _⟩ := KX ks own (q + 1) 0 r σ h
    exact ⟨j :: ρ, e⟩
theorem U9 : ∀ (ts : List Tr) (own : List Int) (q : Nat) (i : Int) (r : Nat) (j : Int) (π : List Int), (r, own ++ j :: π) ∈ Zr own q i ts ↔ i ≤ j ∧ ∃ s k, (QS q ts)[(j - i).toNat]? = some s ∧ ts[(j - i).toNat]? = some k ∧ ∃ k', ZD π s k = some (r, k')
 | [], _, _, _, _, _, _ => by simp [Zr]
 | t :: ts, own, q, i, r, j, π => by
  rw [Zr, L1, U9 ts own _ (i + 1) r j π]
  constructor
  · rintro (h | ⟨hi, s, k, h1, h2, h3⟩)
    · obtain ⟨ρ, e⟩ := YQ t (own ++ [i]) q r _ h
      rw [Lx, List.append_cancel_left_eq] at e
      injection e with e1 e2
      subst e1
      rw [show own ++ j :: π = (own ++ [j]) ++ π by simp] at h
      refine ⟨Int.le_refl _, q, t, by simp [QS], by simp, (Kz t (own ++ [j]) q r π).1 h⟩
    · refine ⟨by omega, s, k, ?_, ?_, h3⟩
      · rw [show (j - i).toNat = (j - (i + 1)).toNat + 1 by omega, QS, Na]; exact h1
      · rw [show (j - i).toNat = (j - (i + 1)).toNat + 1 by omega, Na]; exact h2
  · rintro ⟨hi, s, k, h1, h2, h3⟩
    by_cases e : j = i
    · subst e
      rw [Int.sub_self] at h1 h2
      simp [QS] at h1 h2
      subst h1; subst h2
      refine .inl ?_
      rw [show own ++ j :: π = (own ++ [j]) ++ π by simp]
      exact (Kz t (own ++ [j]) q r π).2 h3
    · refine .inr ⟨by omega, s, k, ?_, ?_, h3⟩
      · rw [show (j - i).toNat = (j - (i + 1)).toNat + 1 by omega, QS, Na] at h1; exact h1
      · rw [show (j - i).toNat = (j - (i + 1)).toNat + 1 by omega, Na] at h2; exact h2
end
theorem VN : ∀ (own a b : List Int), Zu (own ++ a) (own ++ b) = Zu a b
 | [], _, _ => rfl
 | x :: own, a, b => by rw [Lm, Lm, Zu, Yt, if_neg (by simp), VN own]
def EG : List (Nat × List Int) → Prop
 | [] => True
 | a :: l => (∀ b ∈ l, Zu a.2 b.2 < 0) ∧ EG l
theorem Un : ∀ {l m : List (Nat × List Int)}, EG l → EG m → (∀ a ∈ l, ∀ b ∈ m, Zu a.2 b.2 < 0) → EG (l ++ m)
 | [], m, _, h, _ => h
 | a :: l, m, h1, h2, h => ⟨fun b hb => by
  rcases L1.1 hb with hb | hb
  · exact h1.1 b hb
  · exact h a (by simp) b hb, Un h1.2 h2 (fun x hx y hy => h x (by simp [hx]) y hy)⟩
mutual
theorem Vb : ∀ (t : Tr) (own : List Int) (q : Nat), EG (QW own q t)
 | .node x ks, own, q => by
  rw [QW]
  refine ⟨fun b hb => ?_, Va ks own (q + 1) 0⟩
  obtain ⟨r, σ⟩ := b
  obtain ⟨j, ρ, e, _⟩ := KX ks own (q + 1) 0 r σ hb
  simp only
  rw [e, show Zu own (own ++ j :: ρ) = Zu (own ++ []) (own ++ j :: ρ) by rw [LU], VN]
  simp [Zu]
theorem Va : ∀ (ts : List Tr) (own : List Int) (q : Nat) (i : Int), EG (Zr own q i ts)
 | [], _, _, _ => trivial
 | t :: ts, own, q, i => by
  rw [Zr]
  refine Un (Vb t _ q) (Va ts own _ (i + 1)) fun a ha b hb => ?_
  obtain ⟨r, σ⟩ := a
  obtain ⟨r', σ'⟩ := b
  obtain ⟨ρ, e⟩ := YQ t (own ++ [i]) q r σ ha
  obtain ⟨j, ρ', e', hj⟩ := KX ts own _ (i + 1) r' σ' hb
  simp only
  have hij : ZF i j < 0 := cmpI_lt.2 (by omega)
  rw [e, e', Lx, VN, Lm, Lo, Zu, if_pos (by omega)]
  exact hij
end
theorem EF : ∀ {l : List Int}, JQ l → l.Pairwise (· < ·)
 | [], _ => .nil
 | a :: l, h => .cons (fun b hb => Jk h hb) (EF (Ki h))
theorem AhO {l : List Dl} (h : l.Pairwise fun a b => JE a b < 0) : YC l := by
 induction h with
 | nil => trivial
 | @cons a l ha _ ih =>
  cases l with
  | nil => trivial
  | cons b l => exact ⟨ha b (by simp), ih⟩
theorem EH : ∀ {l : List (Nat × List Int)}, EG l → l.Pairwise fun a b => Zu a.2 b.2 < 0
 | [], _ => .nil
 | a :: l, h => .cons h.1 (EH h.2)
theorem Aaa (x y : Nd) : (ZJ x y).Pairwise fun a b => a.1 < b.1 ∨ (a.1 = b.1 ∧ a.2 < b.2) := by
 unfold ZJ;rw [List.pairwise_flatMap];refine ⟨fun e _ => ?_, ?_⟩
 · rw [NA];exact (EF (JN _ (K0 _))).imp fun h => .inr ⟨rfl, h⟩
 · rw [NA];refine List.pairwise_lt_range.imp fun {i j} hij => ?_
   intro a c b d;rw [LM] at c d;obtain ⟨m, _, rfl⟩ := c;obtain ⟨n, _, rfl⟩ := d;exact .inl (by show (i : Int) + 1 < (j : Int) + 1; omega)
def UK (l : List Nd) (q : Nat) : Nd := (l[q]?).getD ⟨0, 0⟩
def ZH (l : List Nd) (q : Nat) : List (Int × Int) := ZJ (UK l q) (UK l (q + 1))
def Jd (l : List Nd) (t : Tr) : List Dl := (QW [] 0 t).flatMap fun e => (ZH l e.1).map fun c => ⟨e.2, c.1, c.2⟩
theorem Aan (l : List Nd) (t : Tr) : YC (Jd l t) := by
 refine AhO ?_;unfold Jd;rw [List.pairwise_flatMap];refine ⟨fun e _ => ?_, ?_⟩
 · rw [NA];refine (Aaa _ _).imp fun {a b} h => ?_
   unfold JE orI;simp only [Aaz];rw [if_neg (by simp)];rcases h with h | ⟨j, k⟩
   · have := cmpI_lt.2 h;rw [if_pos (by omega)]; exact this
   · rw [if_neg (by simpa using cmpI_eq.2 j)]; exact cmpI_lt.2 k
 · refine (EH (Vb t [] 0)).imp fun {a b} h => ?_
   intro d g e i;rw [LM] at g i;obtain ⟨c, _, rfl⟩ := g;obtain ⟨m, _, rfl⟩ := i;unfold JE orI;simp only;rw [if_pos (by omega)]; exact h
theorem allZ_mem {l : List Nd} {t : Tr} {d : Dl} : d ∈ Jd l t ↔ ∃ q k, ZD d.path 0 t = some (q, k) ∧ (d.op, d.n) ∈ ZH l q := by
 unfold Jd;rw [Nq];constructor
 · rintro ⟨⟨q, π⟩, g, e⟩;rw [LM] at e;obtain ⟨c, h, rfl⟩ := e;obtain ⟨k, i⟩ := (Kz t [] 0 q π).1 (by simpa using g);exact ⟨q, k, i, h⟩
 · rintro ⟨q, k, g, e⟩;refine ⟨(q, d.path), ?_, ?_⟩
   · have := (Kz t [] 0 q d.path).2 ⟨k, g⟩;simpa using this
   · rw [LM];exact ⟨_, e, rfl⟩
theorem Ajd {l : List Dl} (h : YC l) {m : Nat} {d e : Dl} (hm : l[m]? = some e) (hc : JE e d < 0) : ∀ i, l[i]? = some d → m < i := by
 intro i hi;rcases LT m i with x | x | x
 · exact x
 · subst x; rw [hm] at hi; injection hi with hi; subst hi; rw [Aay] at hc; omega
 · have := UO h hi hm x;rw [AgP] at this; omega
theorem Ajc {l : List Dl} (h : YC l) {m : Nat} {d e : Dl} (hm : l[m]? = some e) (hc : 0 < JE e d) : ∀ i, l[i]? = some d → i < m := by
 intro i hi;rcases LT i m with x | x | x
 · exact x
 · subst x; rw [hm] at hi; injection hi with hi; subst hi; rw [Aay] at hc; omega
 · have := UO h hm hi x;omega
end Go.Proofs.YtdcmppdhdcjpfaaGreat
namespace Go.Proofs.YtdcmppdhdcjpfaaGreat
open Go.RowKit Go.Deep
def MapB (w : World) (r : Nat) (es : List (Int × Value)) : Prop := ∃ (arr : Array MapEntry) (clock : Nat), w.heap[r]? = some (.map arr clock) ∧ arr.toList.map (fun e => (e.key, e.val)) = es.map (fun p => (Value.int .i64 p.1, p.2))
def Ju (k : Int) : List (Int × Value) → Option Value
 | [] => none
 | (k', v) :: es => if k = k' then some v else Ju k es
theorem MapB.lt {w : World} {r : Nat} {es : List (Int × Value)} (h : MapB w r es) : r < w.heap.size := by
 obtain ⟨arr, c, d, _⟩ := h;exact (Ln.1 d).1
theorem MapB.below {w w' : World} {r B : Nat} {es : List (Int × Value)} (h : MapB w r es) (b : Below B w w') (hr : r < B) : MapB w' r es := by
 obtain ⟨arr, c, d, e⟩ := h;exact ⟨arr, c, (b.block r hr).trans d, e⟩
instance St.mapB {r : Nat} {es : List (Int × Value)} : St (fun W => MapB W r es) := ⟨fun h b => h.below b h.lt⟩
theorem Ya (k : Int) : ∀ (l : List MapEntry) (es : List (Int × Value)) (i : Nat), l.map (fun e => (e.key, e.val)) = es.map (fun p => (Value.int .i64 p.1, p.2)) →
 (match Ju k es with | some v => ∃ j, Instr.findNow (.int .i64) (.int .i64 k) l i = some (some (j, v)) | none => Instr.findNow (.int .i64) (.int .i64 k) l i = some none)
 | [], es, i, h => by
  have : es = [] := by simpa using h.symm
  subst this; rfl
 | e :: l, [], i, h => by simp at h
 | e :: l, (k', v) :: es, i, h => by
  simp only [LD, N6, Prod.mk.injEq] at h
  obtain ⟨⟨h1, h2⟩, h3⟩ := h
  have ih := Ya k l es (i + 1) h3
  have e1 : Instr.findNow (.int .i64) (.int .i64 k) (e :: l) i = match Instr.sameNow (.int .i64) (.int .i64 k) e.key with | some true => some (some (i, e.val)) | some false => Instr.findNow (.int .i64) (.int .i64 k) l (i + 1) | none => none := rfl
  rw [e1, h1]
  have e2 : Instr.sameNow (.int .i64) (.int .i64 k) (.int .i64 k') = some (k == k') := rfl
  rw [e2, Ju]
  by_cases hk : k = k'
  · rw [if_pos hk]
    refine ⟨i, ?_⟩
    rw [show (k == k') = true by simpa using hk, h2]
  · rw [if_neg hk, show (k == k') = false by simpa using hk]
    exact ih
section
variable {P : Program} {w : World} {t kt et : TypeId} {r : Nat} {es : List (Int × Value)}
theorem Kj {b : Bool} {k : Int} (hk : P.underlying kt = some (.int .i64)) : (Instr.checkKey b 10000 kt (.int .i64 k)).run P w = .ok () w := by
 show (Instr.checkKey b (9999 + 1) kt (.int .i64 k)).run P w = .ok () w;rw [Instr.checkKey];simp [run_underlying hk]
theorem EP (ht : P.underlying t = some (.map kt et)) (hk : P.underlying kt = some (.int .i64)) (h : MapB w r es) (k : Int) {z : Value} (hz : (zeroValue et).run P w = .ok z w) :
 (Instr.lookup t (.map (some r)) (.int .i64 k) false).run P w = .ok ((Ju k es).getD z) w := by
 obtain ⟨arr, d, e, i⟩ := h;have c := Ya k arr.toList es 0 i;unfold Instr.lookup Instr.findKey;cases ha : Ju k es with
 | some v =>
  rw [ha] at c;obtain ⟨j, g⟩ := c;simp [run_underlying ht, run_underlying hk, Kj hk, MapKept.run_getObj_map e, g]
 | none =>
  rw [ha] at c;simp only at c;simp [run_underlying ht, run_underlying hk, Kj hk, MapKept.run_getObj_map e, c, hz]
theorem EO (ht : P.underlying t = some (.map kt et)) (hk : P.underlying kt = some (.int .i64)) (h : MapB w r es) (k : Int) (v : Value) (hn : Ju k es = none) :
 ∃ w', (Instr.mapUpdate t (.map (some r)) (.int .i64 k) v).run P w = .ok () w' ∧ MapB w' r (es ++ [(k, v)]) ∧ Only r w w' := by
 obtain ⟨arr, c, d, l⟩ := h;have g := Ya k arr.toList es 0 l;rw [hn] at g;simp only at g;have i : r < w.heap.size := (Ln.1 d).1;refine ⟨{ w with heap := w.heap.setIfInBounds r (.map (arr.push { key := .int .i64 k, val := v, born := c }) (c + 1)) }, ?_, ⟨arr.push { key := .int .i64 k, val := v, born := c }, c + 1, ?_, ?_⟩, ⟨rfl, rfl, rfl, by simp, fun j m => ?_⟩⟩
 · unfold Instr.mapUpdate Instr.findKey;simp [run_underlying ht, run_underlying hk, Kj hk, MapKept.run_getObj_map d, g, MapKept.run_setObj_map _ d]
 · simp [i]
 · simp [l]
 · simp [N7]; intro e; exact absurd e.symm m
theorem MapB.new (w : World) : MapB (w.alloc (.map #[] 0)) w.heap.size [] := ⟨#[], 0, heap_alloc_new w _, rfl⟩
end
section
variable {P : Program} {ops : Array Oper} {rest : List Oper} {o : Oper} {a : Act} {w : World} {Q : Exit → Act → World → Prop} {t kt et : TypeId} {r : Nat} {es : List (Int × Value)}
theorem Vm {ρ : Operand → Value} {m x y : Operand} (ho : o.op = .insert t m x y ∨ o.op = .mapUpdate t m x y) {k v : Value} {r : Value} (hm : ρ m = r) (hx : ρ x = k) (hy : ρ y = v) {w' : World} (h : (Instr.mapUpdate t r k v).run P w = .ok () w') : (execOp ρ o).run P w = .ok .skip w' := by
 rcases ho with ho | ho <;> simp [execOp, ho, hm, hx, hy, h]
theorem Xi (hgd : o.guard = none) (m x y : Operand) (ho : o.op = .insert t m x y ∨ o.op = .mapUpdate t m x y) (ht : P.underlying t = some (.map kt et)) (hk : P.underlying kt = some (.int .i64)) (hb : MapB w r es) (hm : a.eval m = .map (some r)) (k : Int) (v : Value) (hx : a.eval x = .int .i64 k) (hy : a.eval y = v) (hn : Ju k es = none)
 (h : ∀ w', MapB w' r (es ++ [(k, v)]) → Only r w w' → wpList P ops Q rest (a.put o.dst undef) w') : wpList P ops Q (o :: rest) a w :=
 wpList_plain hgd fun _ hK => by
  obtain ⟨w', h1, h2, h3⟩ := EO ht hk hb k v hn
  unfold Oper.wp
  rw [Vm ho hm hx hy h1]
  exact hK _ _ (h w' h2 h3)
theorem ZE (hgd : o.guard = none) (m x : Operand) (ho : o.op = .lookup t m x false) (ht : P.underlying t = some (.map kt et)) (hk : P.underlying kt = some (.int .i64)) (hb : MapB w r es) (hm : a.eval m = .map (some r)) (k : Int) (hx : a.eval x = .int .i64 k) {z : Value} (hz : (zeroValue et).run P w = .ok z w)
 (h : wpList P ops Q rest (a.put o.dst ((Ju k es).getD z)) w) : wpList P ops Q (o :: rest) a w :=
 XW hgd _ (by simp only [execOp, ho, hm, hx, Sem.run_bind, EP ht hk hb k hz, Result.andThen_ok, Sem.run_pure]) h
end
end Go.Proofs.YtdcmppdhdcjpfaaGreat
