/- Lemmas for VerdictMoreP. -/
import Derived.Test.YtdcmppdhdcjpfaaGreatZr2
import Derived.Test.YtdcmppdhdcjpfaaGreatZr1
import Derived.ChangeMaps4
set_option linter.unusedVariables false
set_option linter.unusedSimpArgs false
set_option maxRecDepth 100000
set_option maxHeartbeats 16000000
namespace Go.Proofs.YtdcmppdhdcjpfaaGreat
def Zy (a b : Int) : Int := if a < b then -1 else if b < a then 1 else 0
def Zn : List Int → List Int → Int
 | [], [] => 0
 | [], _ :: _ => -1
 | _ :: _, [] => 1
 | a :: xs, b :: ys => if Zy a b ≠ 0 then Zy a b else Zn xs ys
structure Dl where
 path : List Int
 op : Int
 n : Int
def orI (a b : Int) : Int := if a ≠ 0 then a else b
def Jv (d e : Dl) : Int := orI (Zn d.path e.path) (orI (Zy d.op e.op) (Zy d.n e.n))
theorem X5 (a : Int) : Zy a a = 0 := by unfold Zy; rw [if_neg (by omega), if_neg (by omega)]
theorem cmpI_eq {a b : Int} : Zy a b = 0 ↔ a = b := by
 unfold Zy
 constructor
 · intro h; split at h
   · cases h
   · split at h
     · cases h
     · omega
 · rintro rfl; rw [if_neg (by omega), if_neg (by omega)]
theorem cmpI_lt {a b : Int} : Zy a b < 0 ↔ a < b := by
 unfold Zy
 split
 · simp_all
 · split <;> simp <;> omega
theorem Vb (a b : Int) : Zy b a = -Zy a b := by
 unfold Zy
 repeat' split
 all_goals omega
theorem AaC (a b : Int) : Zy a b = -1 ∨ Zy a b = 0 ∨ Zy a b = 1 := by
 unfold Zy
 repeat' split
 all_goals simp
theorem EU : ∀ a : List Int, Zn a a = 0
 | [] => rfl
 | x :: xs => by rw [Zn, X5, if_neg (by simp), EU xs]
theorem cmpL_eq : ∀ {a b : List Int}, Zn a b = 0 ↔ a = b
 | [], [] => by simp [Zn]
 | [], _ :: _ => by simp [Zn]
 | _ :: _, [] => by simp [Zn]
 | a :: xs, b :: ys => by
  rw [Zn]
  by_cases h : Zy a b = 0
  · rw [if_neg (by simpa using h), cmpL_eq, cmpI_eq.1 h]; simp
  · rw [if_pos h]
    constructor
    · intro e; exact absurd e h
    · intro e; injection e with e1 e2; exact absurd (cmpI_eq.2 e1) h
theorem AbL : ∀ (a b : List Int), Zn b a = -Zn a b
 | [], [] => by simp [Zn]
 | [], _ :: _ => by simp [Zn]
 | _ :: _, [] => by simp [Zn]
 | a :: xs, b :: ys => by
  rw [Zn, Zn, Vb a b]
  by_cases h : Zy a b = 0
  · rw [if_neg (by omega), if_neg (by omega), AbL xs ys]
  · rw [if_pos (by omega), if_pos h]
theorem Aec : ∀ (a b : List Int), Zn a b = -1 ∨ Zn a b = 0 ∨ Zn a b = 1
 | [], [] => by simp [Zn]
 | [], _ :: _ => by simp [Zn]
 | _ :: _, [] => by simp [Zn]
 | a :: xs, b :: ys => by
  rw [Zn]
  split
  · exact AaC a b
  · exact Aec xs ys
theorem Ve : ∀ {a b c : List Int}, Zn a b < 0 → Zn b c < 0 → Zn a c < 0
 | [], [], _, h, _ => by simp [Zn] at h
 | [], b :: ys, [], _, h => by simp [Zn] at h
 | [], b :: ys, c :: zs, _, _ => by simp [Zn]
 | a :: xs, [], _, h, _ => by simp [Zn] at h
 | a :: xs, b :: ys, [], _, h => by simp [Zn] at h
 | a :: xs, b :: ys, c :: zs, h1, h2 => by
  rw [Zn] at h1 h2 ⊢
  by_cases e1 : Zy a b = 0
  · rw [if_neg (by simpa using e1)] at h1
    have := cmpI_eq.1 e1
    subst this
    by_cases e2 : Zy a c = 0
    · rw [if_neg (by simpa using e2)] at h2 ⊢
      exact Ve h1 h2
    · rw [if_pos e2] at h2 ⊢
      exact h2
  · rw [if_pos e1] at h1
    by_cases e2 : Zy b c = 0
    · have := cmpI_eq.1 e2
      subst this
      rw [if_pos e1]; exact h1
    · rw [if_pos e2] at h2
      have h3 : Zy a c < 0 := cmpI_lt.2 (Int.lt_trans (cmpI_lt.1 h1) (cmpI_lt.1 h2))
      rw [if_pos (by omega)]; exact h3
theorem Agl {a b : Int} : orI a b = 0 ↔ a = 0 ∧ b = 0 := by
 unfold orI
 split
 · rename_i h; exact ⟨fun e => absurd e h, fun e => e.1⟩
 · rename_i h; exact ⟨fun e => ⟨by omega, e⟩, fun e => e.2⟩
theorem cmpD_eq {d e : Dl} : Jv d e = 0 ↔ d = e := by
 unfold Jv
 rw [Agl, Agl, cmpL_eq, cmpI_eq, cmpI_eq]
 cases d; cases e
 simp
theorem ET (d : Dl) : Jv d d = 0 := cmpD_eq.2 rfl
theorem Aev (a b : Int) : orI (-a) (-b) = -orI a b := by
 unfold orI
 by_cases h : a = 0
 · rw [if_neg (by omega), if_neg (by omega)]
 · rw [if_pos (by omega), if_pos h]
theorem AfO (d e : Dl) : Jv e d = -Jv d e := by
 unfold Jv
 rw [AbL, Vb d.op, Vb d.n, Aev, Aev]
theorem Agk {a b : Int} (h1 : a = -1 ∨ a = 0 ∨ a = 1) (h2 : b = -1 ∨ b = 0 ∨ b = 1) : orI a b = -1 ∨ orI a b = 0 ∨ orI a b = 1 := by
 unfold orI; split <;> assumption
theorem Ahg (d e : Dl) : Jv d e = -1 ∨ Jv d e = 0 ∨ Jv d e = 1 := Agk (Aec _ _) (Agk (AaC _ _) (AaC _ _))
theorem Adf {d e f : Dl} (h1 : Jv d e < 0) (h2 : Jv e f < 0) : Jv d f < 0 := by
 unfold Jv orI at *
 by_cases a1 : Zn d.path e.path = 0
 · rw [if_neg (by simpa using a1)] at h1
   rw [cmpL_eq.1 a1]
   by_cases a2 : Zn e.path f.path = 0
   · rw [if_neg (by simpa using a2)] at h2 ⊢
     by_cases b1 : Zy d.op e.op = 0
     · rw [if_neg (by simpa using b1)] at h1
       rw [cmpI_eq.1 b1]
       by_cases b2 : Zy e.op f.op = 0
       · rw [if_neg (by simpa using b2)] at h2 ⊢
         exact cmpI_lt.2 (Int.lt_trans (cmpI_lt.1 h1) (cmpI_lt.1 h2))
       · rw [if_pos b2] at h2 ⊢; exact h2
     · rw [if_pos b1] at h1
       by_cases b2 : Zy e.op f.op = 0
       · rw [← cmpI_eq.1 b2, if_pos b1]; exact h1
       · rw [if_pos b2] at h2
         have h3 : Zy d.op f.op < 0 := cmpI_lt.2 (Int.lt_trans (cmpI_lt.1 h1) (cmpI_lt.1 h2))
         rw [if_pos (by omega)]; exact h3
   · rw [if_pos a2] at h2 ⊢; exact h2
 · rw [if_pos a1] at h1
   by_cases a2 : Zn e.path f.path = 0
   · rw [← cmpL_eq.1 a2, if_pos a1]; exact h1
   · rw [if_pos a2] at h2
     have h3 := Ve h1 h2
     rw [if_pos (by omega)]; exact h3
def Yb : List Dl → Prop
 | [] => True
 | [_] => True
 | a :: b :: l => Jv a b < 0 ∧ Yb (b :: l)
theorem AdR {a : Dl} {l : List Dl} (h : Yb (a :: l)) : Yb l := by
 cases l with
 | nil => trivial
 | cons b l => exact h.2
theorem VN : ∀ {l : List Dl} {a b : Dl}, Yb (a :: l) → b ∈ l → Jv a b < 0
 | [], _, _, _, h => by simp at h
 | c :: l, a, b, hr, h => by
  rcases List.mem_cons.1 h with rfl | h
  · exact hr.1
  · exact Adf hr.1 (VN hr.2 h)
theorem Ul : ∀ {l : List Dl} {i j : Nat} {a b : Dl}, Yb l → l[i]? = some a → l[j]? = some b → i < j → Jv a b < 0
 | [], _, _, _, _, _, h, _, _ => by simp at h
 | c :: l, 0, 0, _, _, _, _, _, h => by omega
 | c :: l, 0, j + 1, a, b, hr, h1, h2, _ => by
  simp at h1 h2
  subst h1
  exact VN hr (List.mem_of_getElem? h2)
 | c :: l, i + 1, 0, _, _, _, _, _, h => by omega
 | c :: l, i + 1, j + 1, a, b, hr, h1, h2, h => Ul (AdR hr) (by simpa using h1) (by simpa using h2) (by omega)
end Go.Proofs.YtdcmppdhdcjpfaaGreat
namespace Go.Proofs.YtdcmppdhdcjpfaaGreat
open Go.RowKit
def JE : List Int → Prop
 | [] => True
 | [_] => True
 | a :: b :: l => a < b ∧ JE (b :: l)
theorem J6 {a : Int} {l : List Int} (h : JE (a :: l)) : JE l := by
 cases l with
 | nil => trivial
 | cons b l => exact h.2
theorem Ja : ∀ {l : List Int} {a b : Int}, JE (a :: l) → b ∈ l → a < b
 | [], _, _, _, h => by simp at h
 | c :: l, a, b, hr, h => by
  rcases List.mem_cons.1 h with rfl | h
  · exact hr.1
  · exact Int.lt_trans hr.1 (Ja hr.2 h)
theorem VO {a : Int} {l : List Int} (h : JE l) (hl : ∀ b ∈ l, a < b) : JE (a :: l) := by
 cases l with
 | nil => trivial
 | cons b l => exact ⟨hl b (by simp), h⟩
theorem Um : ∀ {l m : List Int}, JE l → JE m → (∀ x, x ∈ l ↔ x ∈ m) → l = m
 | [], [], _, _, _ => rfl
 | [], b :: m, _, _, h => absurd ((h b).2 (by simp)) (by simp)
 | a :: l, [], _, _, h => absurd ((h a).1 (by simp)) (by simp)
 | a :: l, b :: m, h1, h2, h => by
  have hab : a = b := by
   rcases List.mem_cons.1 ((h a).1 (by simp)) with e | ha
   · exact e
   · rcases List.mem_cons.1 ((h b).2 (by simp)) with e | hb
     · exact e.symm
     · have := Ja h1 hb; have := Ja h2 ha; omega
  subst hab
  rw [Um (J6 h1) (J6 h2) fun x => ?_]
  constructor
  · intro hx
    have hlt := Ja h1 hx
    rcases List.mem_cons.1 ((h x).1 (by simp [hx])) with e | hm
    · omega
    · exact hm
  · intro hx
    have hlt := Ja h2 hx
    rcases List.mem_cons.1 ((h x).2 (by simp [hx])) with e | hm
    · omega
    · exact hm
def Ev (a : Int) : List Int → List Int
 | [] => [a]
 | b :: l => if a < b then a :: b :: l else if a = b then b :: l else b :: Ev a l
theorem Vr (a x : Int) : ∀ l : List Int, x ∈ Ev a l ↔ x = a ∨ x ∈ l
 | [] => by simp [Ev]
 | b :: l => by
  rw [Ev]
  split
  · simp
  · split
    · rename_i e; subst e; simp
    · rw [List.mem_cons, Vr a x l, List.mem_cons]
      constructor
      · rintro (h | h | h) <;> simp [h]
      · rintro (h | h | h) <;> simp [h]
theorem E8 (a : Int) : ∀ {l : List Int}, JE l → JE (Ev a l)
 | [], _ => trivial
 | b :: l, h => by
  rw [Ev]
  split
  · rename_i hab; exact ⟨hab, h⟩
  · split
    · exact h
    · rename_i h1 h2
      refine VO (E8 a (J6 h)) fun x hx => ?_
      rcases (Vr a x l).1 hx with rfl | hx
      · omega
      · exact Ja h hx
def KJ : List Int → List Int
 | [] => []
 | a :: l => Ev a (KJ l)
theorem Kz (x : Int) : ∀ l : List Int, x ∈ KJ l ↔ x ∈ l
 | [] => by simp [KJ]
 | a :: l => by rw [KJ, Vr, Kz x l, List.mem_cons]
theorem KL : ∀ l : List Int, JE (KJ l)
 | [] => trivial
 | a :: l => E8 a (KL l)
theorem JB (f : Int → Bool) : ∀ {l : List Int}, JE l → JE (l.filter f)
 | [], _ => trivial
 | a :: l, h => by
  rw [List.filter_cons]
  split
  · exact VO (JB f (J6 h)) fun b hb => Ja h ((List.mem_filter.1 hb).1)
  · exact JB f (J6 h)
def isC (x y : Nd) (op n : Int) : Bool :=
 if op = 1 then decide (7 ≤ x.tag ∧ x.tag ≤ 11 ∧ 7 ≤ n ∧ n ≤ 11 ∧ n ≠ x.tag) else if op = 2 then decide (12 ≤ x.tag ∧ x.tag ≤ 17 ∧ 12 ≤ n ∧ n ≤ 17 ∧ n ≠ x.tag)
 else if op = 3 then decide (18 ≤ x.tag ∧ x.tag ≤ 19 ∧ 18 ≤ n ∧ n ≤ 19 ∧ n ≠ x.tag)
 else if op = 4 then decide ((x.tag = 1 ∧ (n = 0 ∨ n = 1 ∨ n = -1 ∨ n = wrap64 (x.n + 1) ∨ n = wrap64 (x.n - 1)) ∧ n ≠ x.n) ∨ (x.tag = 2 ∧ n = wrap64 (1 - x.n)))
 else if op = 5 then decide ((x.tag = 21 ∨ x.tag = 22 ∨ x.tag = 23 ∨ x.tag = 24 ∨ x.tag = 25) ∧ n = 0)
 else if op = 6 then decide ((x.tag = 23 ∨ x.tag = 24) ∧ n = 0)
 else if op = 7 then decide (x.tag = 25 ∧ (n = 0 ∨ n = 1) ∧ ¬ (y.tag = 1 ∧ y.n = n)) else false
def Us (x : Nd) : List Int := KJ ([-1, 0, 1, wrap64 (x.n - 1), wrap64 (x.n + 1)] ++ (List.range 13).map fun i : Nat => (i : Int) + 7)
def ZE (x y : Nd) : List (Int × Int) := ((List.range 7).map fun i : Nat => (i : Int) + 1).flatMap fun op => ((Us x).filter (isC x y op)).map fun n => (op, n)
theorem E9 {x y : Nd} {op n : Int} (h : isC x y op n = true) (h2 : x.tag = 2 → x.n = 0 ∨ x.n = 1) : n ∈ Us x := by
 unfold Us
 rw [Kz]
 have hr : ∀ k : Int, 7 ≤ k → k ≤ 19 → k ∈ (List.range 13).map fun i : Nat => (i : Int) + 7 := fun k h1 h2 => by
  rw [List.mem_map]
  exact ⟨(k - 7).toNat, List.mem_range.2 (by omega), by omega⟩
 unfold isC at h
 rw [List.mem_append]
 repeat' split at h
 all_goals (first | (cases h; done) | skip)
 all_goals (simp only [decide_eq_true_eq] at h)
 · exact .inr (hr n (by omega) (by omega))
 · exact .inr (hr n (by omega) (by omega))
 · exact .inr (hr n (by omega) (by omega))
 · refine .inl ?_
   rcases h with ⟨_, h, _⟩ | ⟨h1, h⟩
   · simp; omega
   · have : n = 0 ∨ n = 1 := by
      subst h
      unfold wrap64
      rcases h2 h1 with e | e <;> rw [e] <;> omega
     simp; omega
 · exact .inl (by simp; omega)
 · exact .inl (by simp; omega)
 · exact .inl (by simp; omega)
theorem AaB {x y : Nd} {op n : Int} (h2 : x.tag = 2 → x.n = 0 ∨ x.n = 1) : (op, n) ∈ ZE x y ↔ isC x y op n = true := by
 unfold ZE
 rw [List.mem_flatMap]
 constructor
 · rintro ⟨o, _, h⟩
   rw [List.mem_map] at h
   obtain ⟨m, hm, e⟩ := h
   injection e with e1 e2
   subst e1; subst e2
   exact (List.mem_filter.1 hm).2
 · intro h
   have hop : 1 ≤ op ∧ op ≤ 7 := by
    unfold isC at h
    repeat' split at h
    all_goals (first | (cases h; done) | omega)
   refine ⟨op, ?_, ?_⟩
   · rw [List.mem_map]; exact ⟨(op - 1).toNat, List.mem_range.2 (by omega), by omega⟩
   · rw [List.mem_map]; exact ⟨n, List.mem_filter.2 ⟨E9 h h2, h⟩, rfl⟩
mutual
def QX (own : List Int) (q : Nat) : Tr → List (Nat × List Int)
 | .node _ ks => (q, own) :: Zl own (q + 1) 0 ks
def Zl (own : List Int) (q : Nat) (i : Int) : List Tr → List (Nat × List Int)
 | [] => []
 | t :: ts => QX (own ++ [i]) q t ++ Zl own (q + t.size) (i + 1) ts
end
mutual
theorem Z8 : ∀ (t : Tr) (own : List Int) (q : Nat), (QX own q t).length = t.size
 | .node x ks, own, q => by rw [QX, List.length_cons, VJ ks, Tr.size, Tr.flat, List.length_cons]
theorem VJ : ∀ (ts : List Tr) (own : List Int) (q : Nat) (i : Int), (Zl own q i ts).length = (QF ts).length
 | [], _, _, _ => by simp [Zl, QF]
 | t :: ts, own, q, i => by rw [Zl, List.length_append, Z8 t, VJ ts, QF, List.length_append]; rfl
end
mutual
theorem Uj : ∀ (t : Tr) (own : List Int) (q j : Nat) (e : Nat × List Int), (QX own q t)[j]? = some e → e.1 = q + j
 | .node x ks, own, q, 0, e, h => by simp [QX] at h; subst h; rfl
 | .node x ks, own, q, j + 1, e, h => by
  rw [QX, List.getElem?_cons_succ] at h
  have := Aal ks own (q + 1) 0 j e h
  omega
theorem Aal : ∀ (ts : List Tr) (own : List Int) (q : Nat) (i : Int) (j : Nat) (e : Nat × List Int), (Zl own q i ts)[j]? = some e → e.1 = q + j
 | [], _, _, _, _, _, h => by simp [Zl] at h
 | t :: ts, own, q, i, j, e, h => by
  rw [Zl] at h
  by_cases hj : j < t.size
  · rw [List.getElem?_append_left (by rw [Z8]; exact hj)] at h
    exact Uj t _ q j e h
  · rw [List.getElem?_append_right (by rw [Z8]; omega), Z8] at h
    have := Aal ts own _ (i + 1) _ e h
    omega
end
def Zx : List Int → Nat → Tr → Option (Nat × Tr)
 | [], q, t => some (q, t)
 | i :: π, q, .node _ ks => if i < 0 then none else match (Ze (q + 1) ks)[i.toNat]?, ks[i.toNat]? with
  | some r, some k => Zx π r k
  | _, _ => none
theorem Vm {l : List Nd} : ∀ {π : List Int} {q r : Nat} {t k : Tr}, At l q t → Zx π q t = some (r, k) → At l r k
 | [], q, r, t, k, h, e => by simp [Zx] at e; obtain ⟨rfl, rfl⟩ := e; exact h
 | i :: π, q, r, .node x ks, k, h, e => by
  rw [Zx] at e
  split at e
  · cases e
  · split at e
    · rename_i r1 k1 h1 h2
      exact Vm (h.kids.spot i.toNat r1 k1 h1 h2).1 e
    · cases e
mutual
theorem Kl : ∀ (t : Tr) (own : List Int) (q r : Nat) (π : List Int), (r, own ++ π) ∈ QX own q t ↔ ∃ k, Zx π q t = some (r, k)
 | .node x ks, own, q, r, [] => by
  rw [QX, List.append_nil, List.mem_cons, Zx]
  constructor
  · rintro (e | h)
    · injection e with e1 _; subst e1; exact ⟨_, rfl⟩
    · obtain ⟨j, ρ, e, _⟩ := KI ks own (q + 1) 0 r own h
      have := congrArg List.length e
      simp at this
  · rintro ⟨k, e⟩
    injection e with e; injection e with e1 e2
    subst e1; exact .inl rfl
 | .node x ks, own, q, r, i :: π => by
  rw [QX, List.mem_cons, Zx]
  have hne : (r, own ++ i :: π) ≠ (q, own) := fun e => by
   injection e with _ e
   have := congrArg List.length e
   simp at this
  rw [or_iff_right hne, UD ks own (q + 1) 0 r i π]
  constructor
  · rintro ⟨hi, s, k, h1, h2, k', h3⟩
    rw [Int.sub_zero] at h1 h2
    rw [if_neg (by omega), h1, h2]
    exact ⟨k', h3⟩
  · rintro ⟨k', h⟩
    split at h
    · cases h
    · split at h
      · rename_i s k h1 h2
        exact ⟨by omega, s, k, by rw [Int.sub_zero]; exact h1, by rw [Int.sub_zero]; exact h2, k', h⟩
      · cases h
theorem KI : ∀ (ts : List Tr) (own : List Int) (q : Nat) (i : Int) (r : Nat) (σ : List Int), (r, σ) ∈ Zl own q i ts → ∃ (j : Int) (ρ : List Int), σ = own ++ j :: ρ ∧ i ≤ j
 | [], _, _, _, _, _, h => by simp [Zl] at h
 | t :: ts, own, q, i, r, σ, h => by
  rw [Zl, List.mem_append] at h
  rcases h with h | h
  · obtain ⟨ρ, e⟩ := Yn t (own ++ [i]) q r σ h
    exact ⟨i, ρ, by rw [e]; simp, Int.le_refl _⟩
  · obtain ⟨j, ρ, e, hj⟩ := KI ts own _ (i + 1) r σ h
    exact ⟨j, ρ, e, by omega⟩
theorem Yn : ∀ (t : Tr) (own : List Int) (q r : Nat) (σ : List Int), (r, σ) ∈ QX own q t → ∃ ρ, σ = own ++ ρ
 | .node x ks, own, q, r, σ, h => by
  rw [QX, List.mem_cons] at h
  rcases h with e | h
  · injection e with _ e; exact ⟨[], by rw [e]; simp⟩
  · obtain ⟨j, ρ, e, _⟩ := KI ks own (q + 1) 0 r σ h
    exact ⟨j :: ρ, e⟩
theorem UD : ∀ (ts : List Tr) (own : List Int) (q : Nat) (i : Int) (r : Nat) (j : Int) (π : List Int), (r, own ++ j :: π) ∈ Zl own q i ts ↔ i ≤ j ∧ ∃ s k, (Ze q ts)[(j - i).toNat]? = some s ∧ ts[(j - i).toNat]? = some k ∧ ∃ k', Zx π s k = some (r, k')
 | [], _, _, _, _, _, _ => by simp [Zl]
 | t :: ts, own, q, i, r, j, π => by
  rw [Zl, List.mem_append, UD ts own _ (i + 1) r j π]
  constructor
  · rintro (h | ⟨hi, s, k, h1, h2, h3⟩)
    · obtain ⟨ρ, e⟩ := Yn t (own ++ [i]) q r _ h
      rw [List.append_assoc, List.append_cancel_left_eq] at e
      injection e with e1 e2
      subst e1
      rw [show own ++ j :: π = (own ++ [j]) ++ π by simp] at h
      refine ⟨Int.le_refl _, q, t, by simp [Ze], by simp, (Kl t (own ++ [j]) q r π).1 h⟩
    · refine ⟨by omega, s, k, ?_, ?_, h3⟩
      · rw [show (j - i).toNat = (j - (i + 1)).toNat + 1 by omega, Ze, List.getElem?_cons_succ]; exact h1
      · rw [show (j - i).toNat = (j - (i + 1)).toNat + 1 by omega, List.getElem?_cons_succ]; exact h2
  · rintro ⟨hi, s, k, h1, h2, h3⟩
    by_cases e : j = i
    · subst e
      rw [Int.sub_self] at h1 h2
      simp [Ze] at h1 h2
      subst h1; subst h2
      refine .inl ?_
      rw [show own ++ j :: π = (own ++ [j]) ++ π by simp]
      exact (Kl t (own ++ [j]) q r π).2 h3
    · refine .inr ⟨by omega, s, k, ?_, ?_, h3⟩
      · rw [show (j - i).toNat = (j - (i + 1)).toNat + 1 by omega, Ze, List.getElem?_cons_succ] at h1; exact h1
      · rw [show (j - i).toNat = (j - (i + 1)).toNat + 1 by omega, List.getElem?_cons_succ] at h2; exact h2
end
theorem Vc : ∀ (own a b : List Int), Zn (own ++ a) (own ++ b) = Zn a b
 | [], _, _ => rfl
 | x :: own, a, b => by rw [List.cons_append, List.cons_append, Zn, X5, if_neg (by simp), Vc own]
def VR : List (Nat × List Int) → Prop
 | [] => True
 | a :: l => (∀ b ∈ l, Zn a.2 b.2 < 0) ∧ VR l
theorem YT : ∀ {l m : List (Nat × List Int)}, VR l → VR m → (∀ a ∈ l, ∀ b ∈ m, Zn a.2 b.2 < 0) → VR (l ++ m)
 | [], m, _, h, _ => h
 | a :: l, m, h1, h2, h => ⟨fun b hb => by
  rcases List.mem_append.1 hb with hb | hb
  · exact h1.1 b hb
  · exact h a (by simp) b hb, YT h1.2 h2 (fun x hx y hy => h x (by simp [hx]) y hy)⟩
mutual
theorem UF : ∀ (t : Tr) (own : List Int) (q : Nat), VR (QX own q t)
 | .node x ks, own, q => by
  rw [QX]
  refine ⟨fun b hb => ?_, UE ks own (q + 1) 0⟩
  obtain ⟨r, σ⟩ := b
  obtain ⟨j, ρ, e, _⟩ := KI ks own (q + 1) 0 r σ hb
  simp only
  rw [e, show Zn own (own ++ j :: ρ) = Zn (own ++ []) (own ++ j :: ρ) by rw [List.append_nil], Vc]
  simp [Zn]
theorem UE : ∀ (ts : List Tr) (own : List Int) (q : Nat) (i : Int), VR (Zl own q i ts)
 | [], _, _, _ => trivial
 | t :: ts, own, q, i => by
  rw [Zl]
  refine YT (UF t _ q) (UE ts own _ (i + 1)) fun a ha b hb => ?_
  obtain ⟨r, σ⟩ := a
  obtain ⟨r', σ'⟩ := b
  obtain ⟨ρ, e⟩ := Yn t (own ++ [i]) q r σ ha
  obtain ⟨j, ρ', e', hj⟩ := KI ts own _ (i + 1) r' σ' hb
  simp only
  have hij : Zy i j < 0 := cmpI_lt.2 (by omega)
  rw [e, e', List.append_assoc, Vc, List.cons_append, List.nil_append, Zn, if_pos (by omega)]
  exact hij
end
theorem VQ : ∀ {l : List Int}, JE l → l.Pairwise (· < ·)
 | [], _ => .nil
 | a :: l, h => .cons (fun b hb => Ja h hb) (VQ (J6 h))
theorem Agy {l : List Dl} (h : l.Pairwise fun a b => Jv a b < 0) : Yb l := by
 induction h with
 | nil => trivial
 | @cons a l ha _ ih =>
  cases l with
  | nil => trivial
  | cons b l => exact ⟨ha b (by simp), ih⟩
theorem VS : ∀ {l : List (Nat × List Int)}, VR l → l.Pairwise fun a b => Zn a.2 b.2 < 0
 | [], _ => .nil
 | a :: l, h => .cons h.1 (VS h.2)
theorem Eu (x y : Nd) : (ZE x y).Pairwise fun a b => a.1 < b.1 ∨ (a.1 = b.1 ∧ a.2 < b.2) := by
 unfold ZE
 rw [List.pairwise_flatMap]
 refine ⟨fun op _ => ?_, ?_⟩
 · rw [List.pairwise_map]
   exact (VQ (JB _ (KL _))).imp fun h => .inr ⟨rfl, h⟩
 · rw [List.pairwise_map]
   refine List.pairwise_lt_range.imp fun {i j} hij => ?_
   intro a ha b hb
   rw [List.mem_map] at ha hb
   obtain ⟨m, _, rfl⟩ := ha
   obtain ⟨n, _, rfl⟩ := hb
   exact .inl (by show (i : Int) + 1 < (j : Int) + 1; omega)
def Uf (l : List Nd) (q : Nat) : Nd := (l[q]?).getD ⟨0, 0⟩
def ZC (l : List Nd) (q : Nat) : List (Int × Int) := ZE (Uf l q) (Uf l (q + 1))
def Z5 (l : List Nd) (t : Tr) : List Dl := (QX [] 0 t).flatMap fun e => (ZC l e.1).map fun c => ⟨e.2, c.1, c.2⟩
theorem EG (l : List Nd) (t : Tr) : Yb (Z5 l t) := by
 refine Agy ?_
 unfold Z5
 rw [List.pairwise_flatMap]
 refine ⟨fun e _ => ?_, ?_⟩
 · rw [List.pairwise_map]
   refine (Eu _ _).imp fun {a b} h => ?_
   unfold Jv orI
   simp only [EU]
   rw [if_neg (by simp)]
   rcases h with h | ⟨h1, h2⟩
   · have := cmpI_lt.2 h
     rw [if_pos (by omega)]; exact this
   · rw [if_neg (by simpa using cmpI_eq.2 h1)]; exact cmpI_lt.2 h2
 · refine (VS (UF t [] 0)).imp fun {a b} h => ?_
   intro d hd e he
   rw [List.mem_map] at hd he
   obtain ⟨c, _, rfl⟩ := hd
   obtain ⟨c', _, rfl⟩ := he
   unfold Jv orI
   simp only
   rw [if_pos (by omega)]; exact h
theorem allZ_mem {l : List Nd} {t : Tr} {d : Dl} : d ∈ Z5 l t ↔ ∃ q k, Zx d.path 0 t = some (q, k) ∧ (d.op, d.n) ∈ ZC l q := by
 unfold Z5
 rw [List.mem_flatMap]
 constructor
 · rintro ⟨⟨q, π⟩, h1, h2⟩
   rw [List.mem_map] at h2
   obtain ⟨c, hc, rfl⟩ := h2
   obtain ⟨k, hk⟩ := (Kl t [] 0 q π).1 (by simpa using h1)
   exact ⟨q, k, hk, hc⟩
 · rintro ⟨q, k, h1, h2⟩
   refine ⟨(q, d.path), ?_, ?_⟩
   · have := (Kl t [] 0 q d.path).2 ⟨k, h1⟩
     simpa using this
   · rw [List.mem_map]
     exact ⟨_, h2, rfl⟩
theorem AhR {l : List Dl} (h : Yb l) {m : Nat} {d e : Dl} (hm : l[m]? = some e) (hc : Jv e d < 0) : ∀ i, l[i]? = some d → m < i := by
 intro i hi
 rcases Nat.lt_trichotomy m i with x | x | x
 · exact x
 · subst x; rw [hm] at hi; injection hi with hi; subst hi; rw [ET] at hc; omega
 · have := Ul h hi hm x
   rw [AfO] at this; omega
theorem AhQ {l : List Dl} (h : Yb l) {m : Nat} {d e : Dl} (hm : l[m]? = some e) (hc : 0 < Jv e d) : ∀ i, l[i]? = some d → i < m := by
 intro i hi
 rcases Nat.lt_trichotomy i m with x | x | x
 · exact x
 · subst x; rw [hm] at hi; injection hi with hi; subst hi; rw [ET] at hc; omega
 · have := Ul h hm hi x
   omega
end Go.Proofs.YtdcmppdhdcjpfaaGreat
namespace Go.Proofs.YtdcmppdhdcjpfaaGreat
open Go.RowKit Go.Deep
def MapB (w : World) (r : Nat) (es : List (Int × Value)) : Prop := ∃ (arr : Array MapEntry) (clock : Nat), w.heap[r]? = some (.map arr clock) ∧ arr.toList.map (fun e => (e.key, e.val)) = es.map (fun p => (Value.int .i64 p.1, p.2))
def Ji (k : Int) : List (Int × Value) → Option Value
 | [] => none
 | (k', v) :: es => if k = k' then some v else Ji k es
theorem MapB.lt {w : World} {r : Nat} {es : List (Int × Value)} (h : MapB w r es) : r < w.heap.size := by
 obtain ⟨arr, clock, he, _⟩ := h
 exact (Array.getElem?_eq_some_iff.1 he).1
theorem MapB.below {w w' : World} {r B : Nat} {es : List (Int × Value)} (h : MapB w r es) (b : Below B w w') (hr : r < B) : MapB w' r es := by
 obtain ⟨arr, clock, he, hm⟩ := h
 exact ⟨arr, clock, (b.block r hr).trans he, hm⟩
instance St.mapB {r : Nat} {es : List (Int × Value)} : St (fun W => MapB W r es) := ⟨fun h b => h.below b h.lt⟩
theorem XL (k : Int) : ∀ (l : List MapEntry) (es : List (Int × Value)) (i : Nat), l.map (fun e => (e.key, e.val)) = es.map (fun p => (Value.int .i64 p.1, p.2)) →
 (match Ji k es with | some v => ∃ j, Instr.findNow (.int .i64) (.int .i64 k) l i = some (some (j, v)) | none => Instr.findNow (.int .i64) (.int .i64 k) l i = some none)
 | [], es, i, h => by
  have : es = [] := by simpa using h.symm
  subst this; rfl
 | e :: l, [], i, h => by simp at h
 | e :: l, (k', v) :: es, i, h => by
  simp only [List.map_cons, List.cons.injEq, Prod.mk.injEq] at h
  obtain ⟨⟨h1, h2⟩, h3⟩ := h
  have ih := XL k l es (i + 1) h3
  have e1 : Instr.findNow (.int .i64) (.int .i64 k) (e :: l) i = match Instr.sameNow (.int .i64) (.int .i64 k) e.key with | some true => some (some (i, e.val)) | some false => Instr.findNow (.int .i64) (.int .i64 k) l (i + 1) | none => none := rfl
  rw [e1, h1]
  have e2 : Instr.sameNow (.int .i64) (.int .i64 k) (.int .i64 k') = some (k == k') := rfl
  rw [e2, Ji]
  by_cases hk : k = k'
  · rw [if_pos hk]
    refine ⟨i, ?_⟩
    rw [show (k == k') = true by simpa using hk, h2]
  · rw [if_neg hk, show (k == k') = false by simpa using hk]
    exact ih
section
variable {P : Program} {w : World} {t kt et : TypeId} {r : Nat} {es : List (Int × Value)}
theorem J7 {b : Bool} {k : Int} (hk : P.underlying kt = some (.int .i64)) : (Instr.checkKey b 10000 kt (.int .i64 k)).run P w = .ok () w := by
 show (Instr.checkKey b (9999 + 1) kt (.int .i64 k)).run P w = .ok () w
 rw [Instr.checkKey]
 simp [run_underlying hk]
theorem Ea (ht : P.underlying t = some (.map kt et)) (hk : P.underlying kt = some (.int .i64)) (h : MapB w r es) (k : Int) {z : Value} (hz : (zeroValue et).run P w = .ok z w) :
 (Instr.lookup t (.map (some r)) (.int .i64 k) false).run P w = .ok ((Ji k es).getD z) w := by
 obtain ⟨arr, clock, he, hm⟩ := h
 have hf := XL k arr.toList es 0 hm
 unfold Instr.lookup Instr.findKey
 cases ha : Ji k es with
 | some v =>
  rw [ha] at hf
  obtain ⟨j, hj⟩ := hf
  simp [run_underlying ht, run_underlying hk, J7 hk, MapKept.run_getObj_map he, hj]
 | none =>
  rw [ha] at hf
  simp only at hf
  simp [run_underlying ht, run_underlying hk, J7 hk, MapKept.run_getObj_map he, hf, hz]
theorem VZ (ht : P.underlying t = some (.map kt et)) (hk : P.underlying kt = some (.int .i64)) (h : MapB w r es) (k : Int) (v : Value) (hn : Ji k es = none) :
 ∃ w', (Instr.mapUpdate t (.map (some r)) (.int .i64 k) v).run P w = .ok () w' ∧ MapB w' r (es ++ [(k, v)]) ∧ Only r w w' := by
 obtain ⟨arr, clock, he, hm⟩ := h
 have hf := XL k arr.toList es 0 hm
 rw [hn] at hf
 simp only at hf
 have hlt : r < w.heap.size := (Array.getElem?_eq_some_iff.1 he).1
 refine ⟨{ w with heap := w.heap.setIfInBounds r (.map (arr.push { key := .int .i64 k, val := v, born := clock }) (clock + 1)) }, ?_, ⟨arr.push { key := .int .i64 k, val := v, born := clock }, clock + 1, ?_, ?_⟩, ⟨rfl, rfl, rfl, by simp, fun j hj => ?_⟩⟩
 · unfold Instr.mapUpdate Instr.findKey
   simp [run_underlying ht, run_underlying hk, J7 hk, MapKept.run_getObj_map he, hf, MapKept.run_setObj_map _ he]
 · simp [hlt]
 · simp [hm]
 · simp [Array.getElem?_setIfInBounds]; intro e; exact absurd e.symm hj
theorem MapB.new (w : World) : MapB (w.alloc (.map #[] 0)) w.heap.size [] := ⟨#[], 0, heap_alloc_new w _, rfl⟩
end
section
variable {P : Program} {ops : Array Oper} {rest : List Oper} {o : Oper} {a : Act} {w : World} {Q : Exit → Act → World → Prop} {t kt et : TypeId} {r : Nat} {es : List (Int × Value)}
theorem UN {ρ : Operand → Value} {m x y : Operand} (ho : o.op = .insert t m x y ∨ o.op = .mapUpdate t m x y) {k v : Value} {r : Value} (hm : ρ m = r) (hx : ρ x = k) (hy : ρ y = v) {w' : World} (h : (Instr.mapUpdate t r k v).run P w = .ok () w') : (execOp ρ o).run P w = .ok .skip w' := by
 rcases ho with ho | ho <;> simp [execOp, ho, hm, hx, hy, h]
theorem KW (hgd : o.guard = none) (m x y : Operand) (ho : o.op = .insert t m x y ∨ o.op = .mapUpdate t m x y) (ht : P.underlying t = some (.map kt et)) (hk : P.underlying kt = some (.int .i64)) (hb : MapB w r es) (hm : a.eval m = .map (some r)) (k : Int) (v : Value) (hx : a.eval x = .int .i64 k) (hy : a.eval y = v) (hn : Ji k es = none)
 (h : ∀ w', MapB w' r (es ++ [(k, v)]) → Only r w w' → wpList P ops Q rest (a.put o.dst undef) w') : wpList P ops Q (o :: rest) a w :=
 wpList_plain hgd fun _ hK => by
  obtain ⟨w', h1, h2, h3⟩ := VZ ht hk hb k v hn
  unfold Oper.wp
  rw [UN ho hm hx hy h1]
  exact hK _ _ (h w' h2 h3)
theorem QW (hgd : o.guard = none) (m x : Operand) (ho : o.op = .lookup t m x false) (ht : P.underlying t = some (.map kt et)) (hk : P.underlying kt = some (.int .i64)) (hb : MapB w r es) (hm : a.eval m = .map (some r)) (k : Int) (hx : a.eval x = .int .i64 k) {z : Value} (hz : (zeroValue et).run P w = .ok z w)
 (h : wpList P ops Q rest (a.put o.dst ((Ji k es).getD z)) w) : wpList P ops Q (o :: rest) a w :=
 Er hgd _ (by simp only [execOp, ho, hm, hx, Sem.run_bind, Ea ht hk hb k hz, Result.andThen_ok, Sem.run_pure]) h
end
end Go.Proofs.YtdcmppdhdcjpfaaGreat
