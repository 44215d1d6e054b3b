/- Lemmas for VerdictJustP. -/
import Derived.Test.YtdcmppdhdcjpfaaGreatZy2
import Derived.Test.YtdcmppdhdcjpfaaGreatZy1
import Derived.ChangeMaps4
set_option linter.unusedVariables false
set_option linter.unusedSimpArgs false
set_option maxRecDepth 100000
set_option maxHeartbeats 16000000
namespace Go.Proofs.YtdcmppdhdcjpfaaGreat
def ZH (a b : Int) : Int := if a < b then -1 else if b < a then 1 else 0
def Zt : List Int → List Int → Int
 | [], [] => 0
 | [], _ :: _ => -1
 | _ :: _, [] => 1
 | a :: xs, b :: ys => if ZH a b ≠ 0 then ZH a b else Zt xs ys
structure Dl where
 path : List Int
 op : Int
 n : Int
def orI (a b : Int) : Int := if a ≠ 0 then a else b
def Jv (d e : Dl) : Int := orI (Zt d.path e.path) (orI (ZH d.op e.op) (ZH d.n e.n))
theorem YE (a : Int) : ZH a a = 0 := by unfold ZH; rw [if_neg (by omega), if_neg (by omega)]
theorem cmpI_eq {a b : Int} : ZH a b = 0 ↔ a = b := by
 unfold ZH;constructor
 · intro h; split at h
   · cases h
   · split at h
     · cases h
     · omega
 · rintro rfl; rw [if_neg (by omega), if_neg (by omega)]
theorem cmpI_lt {a b : Int} : ZH a b < 0 ↔ a < b := by
 unfold ZH;split
 · simp_all
 · split <;> simp <;> omega
theorem VW (a b : Int) : ZH b a = -ZH a b := by
 unfold ZH
 repeat' split
 all_goals omega
theorem Abn (a b : Int) : ZH a b = -1 ∨ ZH a b = 0 ∨ ZH a b = 1 := by
 unfold ZH
 repeat' split
 all_goals simp
theorem AaH : ∀ a : List Int, Zt a a = 0
 | [] => rfl
 | x :: xs => by rw [Zt, YE, if_neg (by simp), AaH xs]
theorem cmpL_eq : ∀ {a b : List Int}, Zt a b = 0 ↔ a = b
 | [], [] => by simp [Zt]
 | [], _ :: _ => by simp [Zt]
 | _ :: _, [] => by simp [Zt]
 | a :: xs, b :: ys => by
  rw [Zt]
  by_cases h : ZH a b = 0
  · rw [if_neg (by simpa using h), cmpL_eq, cmpI_eq.1 h]; simp
  · rw [if_pos h]
    constructor
    · intro e; exact absurd e h
    · intro e; injection e with e1 e2; exact absurd (cmpI_eq.2 e1) h
theorem Acy : ∀ (a b : List Int), Zt b a = -Zt a b
 | [], [] => by simp [Zt]
 | [], _ :: _ => by simp [Zt]
 | _ :: _, [] => by simp [Zt]
 | a :: xs, b :: ys => by
  rw [Zt, Zt, VW a b]
  by_cases h : ZH a b = 0
  · rw [if_neg (by omega), if_neg (by omega), Acy xs ys]
  · rw [if_pos (by omega), if_pos h]
theorem Ae5 : ∀ (a b : List Int), Zt a b = -1 ∨ Zt a b = 0 ∨ Zt a b = 1
 | [], [] => by simp [Zt]
 | [], _ :: _ => by simp [Zt]
 | _ :: _, [] => by simp [Zt]
 | a :: xs, b :: ys => by
  rw [Zt]
  split
  · exact Abn a b
  · exact Ae5 xs ys
theorem VY : ∀ {a b c : List Int}, Zt a b < 0 → Zt b c < 0 → Zt a c < 0
 | [], [], _, h, _ => by simp [Zt] at h
 | [], b :: ys, [], _, h => by simp [Zt] at h
 | [], b :: ys, c :: zs, _, _ => by simp [Zt]
 | a :: xs, [], _, h, _ => by simp [Zt] at h
 | a :: xs, b :: ys, [], _, h => by simp [Zt] at h
 | a :: xs, b :: ys, c :: zs, h1, h2 => by
  rw [Zt] at h1 h2 ⊢
  by_cases e1 : ZH a b = 0
  · rw [if_neg (by simpa using e1)] at h1
    have := cmpI_eq.1 e1
    subst this
    by_cases e2 : ZH a c = 0
    · rw [if_neg (by simpa using e2)] at h2 ⊢
      exact VY h1 h2
    · rw [if_pos e2] at h2 ⊢
      exact h2
  · rw [if_pos e1] at h1
    by_cases e2 : ZH b c = 0
    · have := cmpI_eq.1 e2
      subst this
      rw [if_pos e1]; exact h1
    · rw [if_pos e2] at h2
      have h3 : ZH a c < 0 := cmpI_lt.2 (Int.lt_trans (cmpI_lt.1 h1) (cmpI_lt.1 h2))
      rw [if_pos (by omega)]; exact h3
theorem AhK {a b : Int} : orI a b = 0 ↔ a = 0 ∧ b = 0 := by
 unfold orI;split
 · rename_i h; exact ⟨fun e => absurd e h, fun e => e.1⟩
 · rename_i h; exact ⟨fun e => ⟨by omega, e⟩, fun e => e.2⟩
theorem cmpD_eq {d e : Dl} : Jv d e = 0 ↔ d = e := by
 unfold Jv;rw [AhK, AhK, cmpL_eq, cmpI_eq, cmpI_eq];cases d; cases e;simp
theorem UP (d : Dl) : Jv d d = 0 := cmpD_eq.2 rfl
theorem Afu (a b : Int) : orI (-a) (-b) = -orI a b := by
 unfold orI;by_cases h : a = 0
 · rw [if_neg (by omega), if_neg (by omega)]
 · rw [if_pos (by omega), if_pos h]
theorem AgZ (d e : Dl) : Jv e d = -Jv d e := by
 unfold Jv;rw [Acy, VW d.op, VW d.n, Afu, Afu]
theorem AhJ {a b : Int} (h1 : a = -1 ∨ a = 0 ∨ a = 1) (h2 : b = -1 ∨ b = 0 ∨ b = 1) : orI a b = -1 ∨ orI a b = 0 ∨ orI a b = 1 := by
 unfold orI; split <;> assumption
theorem AiE (d e : Dl) : Jv d e = -1 ∨ Jv d e = 0 ∨ Jv d e = 1 := AhJ (Ae5 _ _) (AhJ (Abn _ _) (Abn _ _))
theorem Aec {d e f : Dl} (h1 : Jv d e < 0) (h2 : Jv e f < 0) : Jv d f < 0 := by
 unfold Jv orI at *;by_cases h : Zt d.path e.path = 0
 · rw [if_neg (by simpa using h)] at h1;rw [cmpL_eq.1 h];by_cases c : Zt e.path f.path = 0
   · rw [if_neg (by simpa using c)] at h2 ⊢;by_cases i : ZH d.op e.op = 0
     · rw [if_neg (by simpa using i)] at h1;rw [cmpI_eq.1 i];by_cases g : ZH e.op f.op = 0
       · rw [if_neg (by simpa using g)] at h2 ⊢;exact cmpI_lt.2 (Int.lt_trans (cmpI_lt.1 h1) (cmpI_lt.1 h2))
       · rw [if_pos g] at h2 ⊢; exact h2
     · rw [if_pos i] at h1;by_cases g : ZH e.op f.op = 0
       · rw [← cmpI_eq.1 g, if_pos i]; exact h1
       · rw [if_pos g] at h2;have j : ZH d.op f.op < 0 := cmpI_lt.2 (Int.lt_trans (cmpI_lt.1 h1) (cmpI_lt.1 h2));rw [if_pos (by omega)]; exact j
   · rw [if_pos c] at h2 ⊢; exact h2
 · rw [if_pos h] at h1;by_cases c : Zt e.path f.path = 0
   · rw [← cmpL_eq.1 c, if_pos h]; exact h1
   · rw [if_pos c] at h2;have j := VY h1 h2;rw [if_pos (by omega)]; exact j
def YM : List Dl → Prop
 | [] => True
 | [_] => True
 | a :: b :: l => Jv a b < 0 ∧ YM (b :: l)
theorem AeM {a : Dl} {l : List Dl} (h : YM (a :: l)) : YM l := by
 cases l with
 | nil => trivial
 | cons b l => exact h.2
theorem EM : ∀ {l : List Dl} {a b : Dl}, YM (a :: l) → b ∈ l → Jv a b < 0
 | [], _, _, _, h => by simp at h
 | c :: l, a, b, hr, h => by
  rcases Lt.1 h with rfl | h
  · exact hr.1
  · exact Aec hr.1 (EM hr.2 h)
theorem U3 : ∀ {l : List Dl} {i j : Nat} {a b : Dl}, YM l → l[i]? = some a → l[j]? = some b → i < j → Jv a b < 0
 | [], _, _, _, _, _, h, _, _ => by simp at h
 | c :: l, 0, 0, _, _, _, _, _, h => by omega
 | c :: l, 0, j + 1, a, b, hr, h1, h2, _ => by
  simp at h1 h2
  subst h1
  exact EM hr (Lg h2)
 | c :: l, i + 1, 0, _, _, _, _, _, h => by omega
 | c :: l, i + 1, j + 1, a, b, hr, h1, h2, h => U3 (AeM hr) (by simpa using h1) (by simpa using h2) (by omega)
end Go.Proofs.YtdcmppdhdcjpfaaGreat
namespace Go.Proofs.YtdcmppdhdcjpfaaGreat
open Go.RowKit
def JR : List Int → Prop
 | [] => True
 | [_] => True
 | a :: b :: l => a < b ∧ JR (b :: l)
theorem Km {a : Int} {l : List Int} (h : JR (a :: l)) : JR l := by
 cases l with
 | nil => trivial
 | cons b l => exact h.2
theorem Jm : ∀ {l : List Int} {a b : Int}, JR (a :: l) → b ∈ l → a < b
 | [], _, _, _, h => by simp at h
 | c :: l, a, b, hr, h => by
  rcases Lt.1 h with rfl | h
  · exact hr.1
  · exact Int.lt_trans hr.1 (Jm hr.2 h)
theorem EN {a : Int} {l : List Int} (h : JR l) (hl : ∀ b ∈ l, a < b) : JR (a :: l) := by
 cases l with
 | nil => trivial
 | cons b l => exact ⟨hl b (by simp), h⟩
theorem U4 : ∀ {l m : List Int}, JR l → JR m → (∀ x, x ∈ l ↔ x ∈ m) → l = m
 | [], [], _, _, _ => rfl
 | [], b :: m, _, _, h => absurd ((h b).2 (by simp)) (by simp)
 | a :: l, [], _, _, h => absurd ((h a).1 (by simp)) (by simp)
 | a :: l, b :: m, h1, h2, h => by
  have hab : a = b := by
   rcases Lt.1 ((h a).1 (by simp)) with e | i
   · exact e
   · rcases Lt.1 ((h b).2 (by simp)) with e | j
     · exact e.symm
     · have := Jm h1 j; have := Jm h2 i; omega
  subst hab
  rw [U4 (Km h1) (Km h2) fun x => ?_]
  constructor
  · intro c
    have d := Jm h1 c
    rcases Lt.1 ((h x).1 (by simp [c])) with e | g
    · omega
    · exact g
  · intro c
    have d := Jm h2 c
    rcases Lt.1 ((h x).2 (by simp [c])) with e | g
    · omega
    · exact g
def Aal (a : Int) : List Int → List Int
 | [] => [a]
 | b :: l => if a < b then a :: b :: l else if a = b then b :: l else b :: Aal a l
theorem En (a x : Int) : ∀ l : List Int, x ∈ Aal a l ↔ x = a ∨ x ∈ l
 | [] => by simp [Aal]
 | b :: l => by
  rw [Aal]
  split
  · simp
  · split
    · rename_i e; subst e; simp
    · rw [Lt, En a x l, Lt]
      constructor
      · rintro (h | h | h) <;> simp [h]
      · rintro (h | h | h) <;> simp [h]
theorem AaS (a : Int) : ∀ {l : List Int}, JR l → JR (Aal a l)
 | [], _ => trivial
 | b :: l, h => by
  rw [Aal]
  split
  · rename_i hab; exact ⟨hab, h⟩
  · split
    · exact h
    · rename_i h1 h2
      refine EN (AaS a (Km h)) fun x hx => ?_
      rcases (En a x l).1 hx with rfl | hx
      · omega
      · exact Jm h hx
def Xd : List Int → List Int
 | [] => []
 | a :: l => Aal a (Xd l)
theorem KV (x : Int) : ∀ l : List Int, x ∈ Xd l ↔ x ∈ l
 | [] => by simp [Xd]
 | a :: l => by rw [Xd, En, KV x l, Lt]
theorem Xe : ∀ l : List Int, JR (Xd l)
 | [] => trivial
 | a :: l => AaS a (Xe l)
theorem JN (f : Int → Bool) : ∀ {l : List Int}, JR l → JR (l.filter f)
 | [], _ => trivial
 | a :: l, h => by
  rw [List.filter_cons]
  split
  · exact EN (JN f (Km h)) fun b hb => Jm h ((Na.1 hb).1)
  · exact JN f (Km h)
def isC (x y : Nd) (op n : Int) : Bool :=
 if op = 1 then decide (7 ≤ x.tag ∧ x.tag ≤ 11 ∧ 7 ≤ n ∧ n ≤ 11 ∧ n ≠ x.tag) else if op = 2 then decide (12 ≤ x.tag ∧ x.tag ≤ 17 ∧ 12 ≤ n ∧ n ≤ 17 ∧ n ≠ x.tag)
 else if op = 3 then decide (18 ≤ x.tag ∧ x.tag ≤ 19 ∧ 18 ≤ n ∧ n ≤ 19 ∧ n ≠ x.tag)
 else if op = 4 then decide ((x.tag = 1 ∧ (n = 0 ∨ n = 1 ∨ n = -1 ∨ n = wrap64 (x.n + 1) ∨ n = wrap64 (x.n - 1)) ∧ n ≠ x.n) ∨ (x.tag = 2 ∧ n = wrap64 (1 - x.n)))
 else if op = 5 then decide ((x.tag = 21 ∨ x.tag = 22 ∨ x.tag = 23 ∨ x.tag = 24 ∨ x.tag = 25) ∧ n = 0)
 else if op = 6 then decide ((x.tag = 23 ∨ x.tag = 24) ∧ n = 0)
 else if op = 7 then decide (x.tag = 25 ∧ (n = 0 ∨ n = 1) ∧ ¬ (y.tag = 1 ∧ y.n = n)) else false
def Va (x : Nd) : List Int := Xd ([-1, 0, 1, wrap64 (x.n - 1), wrap64 (x.n + 1)] ++ (List.range 13).map fun i : Nat => (i : Int) + 7)
def ZM (x y : Nd) : List (Int × Int) := ((List.range 7).map fun i : Nat => (i : Int) + 1).flatMap fun op => ((Va x).filter (isC x y op)).map fun n => (op, n)
theorem AaT {x y : Nd} {op n : Int} (h : isC x y op n = true) (h2 : x.tag = 2 → x.n = 0 ∨ x.n = 1) : n ∈ Va x := by
 unfold Va;rw [KV]
 have c : ∀ k : Int, 7 ≤ k → k ≤ 19 → k ∈ (List.range 13).map fun i : Nat => (i : Int) + 7 := fun k d h2 => by
  rw [LN];exact ⟨(k - 7).toNat, N2.2 (by omega), by omega⟩
 unfold isC at h;rw [L3]
 repeat' split at h
 all_goals (first | (cases h; done) | skip)
 all_goals (simp only [decide_eq_true_eq] at h)
 · exact .inr (c n (by omega) (by omega))
 · exact .inr (c n (by omega) (by omega))
 · exact .inr (c n (by omega) (by omega))
 · refine .inl ?_;rcases h with ⟨_, h, _⟩ | ⟨d, h⟩
   · simp; omega
   · have : n = 0 ∨ n = 1 := by
      subst h;unfold wrap64;rcases h2 d with e | e <;> rw [e] <;> omega
     simp; omega
 · exact .inl (by simp; omega)
 · exact .inl (by simp; omega)
 · exact .inl (by simp; omega)
theorem Abm {x y : Nd} {op n : Int} (h2 : x.tag = 2 → x.n = 0 ∨ x.n = 1) : (op, n) ∈ ZM x y ↔ isC x y op n = true := by
 unfold ZM;rw [Np];constructor
 · rintro ⟨o, _, h⟩;rw [LN] at h;obtain ⟨m, c, e⟩ := h;injection e with e1 e2;subst e1; subst e2;exact (Na.1 c).2
 · intro h
   have d : 1 ≤ op ∧ op ≤ 7 := by
    unfold isC at h
    repeat' split at h
    all_goals (first | (cases h; done) | omega)
   refine ⟨op, ?_, ?_⟩
   · rw [LN]; exact ⟨(op - 1).toNat, N2.2 (by omega), by omega⟩
   · rw [LN]; exact ⟨n, Na.2 ⟨AaT h h2, h⟩, rfl⟩
mutual
def QY (own : List Int) (q : Nat) : Tr → List (Nat × List Int)
 | .node _ ks => (q, own) :: Zq own (q + 1) 0 ks
def Zq (own : List Int) (q : Nat) (i : Int) : List Tr → List (Nat × List Int)
 | [] => []
 | t :: ts => QY (own ++ [i]) q t ++ Zq own (q + t.size) (i + 1) ts
end
mutual
theorem Jk : ∀ (t : Tr) (own : List Int) (q : Nat), (QY own q t).length = t.size
 | .node x ks, own, q => by rw [QY, Ld, EI ks, Tr.size, Tr.flat, Ld]
theorem EI : ∀ (ts : List Tr) (own : List Int) (q : Nat) (i : Int), (Zq own q i ts).length = (QJ ts).length
 | [], _, _, _ => by simp [Zq, QJ]
 | t :: ts, own, q, i => by rw [Zq, Lf, Jk t, EI ts, QJ, Lf]; rfl
end
mutual
theorem U2 : ∀ (t : Tr) (own : List Int) (q j : Nat) (e : Nat × List Int), (QY own q t)[j]? = some e → e.1 = q + j
 | .node x ks, own, q, 0, e, h => by simp [QY] at h; subst h; rfl
 | .node x ks, own, q, j + 1, e, h => by
  rw [QY, LZ] at h
  have := Aa6 ks own (q + 1) 0 j e h
  omega
theorem Aa6 : ∀ (ts : List Tr) (own : List Int) (q : Nat) (i : Int) (j : Nat) (e : Nat × List Int), (Zq own q i ts)[j]? = some e → e.1 = q + j
 | [], _, _, _, _, _, h => by simp [Zq] at h
 | t :: ts, own, q, i, j, e, h => by
  rw [Zq] at h
  by_cases hj : j < t.size
  · rw [Ly (by rw [Jk]; exact hj)] at h
    exact U2 t _ q j e h
  · rw [Lu (by rw [Jk]; omega), Jk] at h
    have := Aa6 ts own _ (i + 1) _ e h
    omega
end
def ZF : List Int → Nat → Tr → Option (Nat × Tr)
 | [], q, t => some (q, t)
 | i :: π, q, .node _ ks => if i < 0 then none else match (QW (q + 1) ks)[i.toNat]?, ks[i.toNat]? with
  | some r, some k => ZF π r k
  | _, _ => none
theorem Ei {l : List Nd} : ∀ {π : List Int} {q r : Nat} {t k : Tr}, At l q t → ZF π q t = some (r, k) → At l r k
 | [], q, r, t, k, h, e => by simp [ZF] at e; obtain ⟨rfl, rfl⟩ := e; exact h
 | i :: π, q, r, .node x ks, k, h, e => by
  rw [ZF] at e
  split at e
  · cases e
  · split at e
    · rename_i r1 k1 h1 h2
      exact Ei (h.kids.spot i.toNat r1 k1 h1 h2).1 e
    · cases e
mutual
theorem KL : ∀ (t : Tr) (own : List Int) (q r : Nat) (π : List Int), (r, own ++ π) ∈ QY own q t ↔ ∃ k, ZF π q t = some (r, k)
 | .node x ks, own, q, r, [] => by
  rw [QY, LU, Lt, ZF]
  constructor
  · rintro (e | h)
    · injection e with e1 _; subst e1; exact ⟨_, rfl⟩
    · obtain ⟨j, ρ, e, _⟩ := Xc ks own (q + 1) 0 r own h
      have := congrArg List.length e
      simp at this
  · rintro ⟨k, e⟩
    injection e with e; injection e with e1 e2
    subst e1; exact .inl rfl
 | .node x ks, own, q, r, i :: π => by
  rw [QY, Lt, ZF]
  have hne : (r, own ++ i :: π) ≠ (q, own) := fun e => by
   injection e with _ e;have := congrArg List.length e;simp at this
  rw [or_iff_right hne, Vo ks own (q + 1) 0 r i π]
  constructor
  · rintro ⟨hi, s, k, c, d, g, l⟩
    rw [Int.sub_zero] at c d
    rw [if_neg (by omega), c, d]
    exact ⟨g, l⟩
  · rintro ⟨g, h⟩
    split at h
    · cases h
    · split at h
      · rename_i s k c d
        exact ⟨by omega, s, k, by rw [Int.sub_zero]; exact c, by rw [Int.sub_zero]; exact d, g, h⟩
      · cases h
theorem Xc : ∀ (ts : List Tr) (own : List Int) (q : Nat) (i : Int) (r : Nat) (σ : List Int), (r, σ) ∈ Zq own q i ts → ∃ (j : Int) (ρ : List Int), σ = own ++ j :: ρ ∧ i ≤ j
 | [], _, _, _, _, _, h => by simp [Zq] at h
 | t :: ts, own, q, i, r, σ, h => by
  rw [Zq, L3] at h
  rcases h with h | h
  · obtain ⟨ρ, e⟩ := Y0 t (own ++ [i]) q r σ h
    exact ⟨i, ρ, by rw [e]; simp, Int.le_refl _⟩
  · obtain ⟨j, ρ, e, hj⟩ := Xc ts own _ (i + 1) r σ h
    exact ⟨j, ρ, e, by omega⟩
theorem Y0 : ∀ (t : Tr) (own : List Int) (q r : Nat) (σ : List Int), (r, σ) ∈ QY own q t → ∃ ρ, σ = own ++ ρ
 | .node x ks, own, q, r, σ, h => by
  rw [QY, Lt] at h
  rcases h with e | h
  · injection e with _ e; exact ⟨[], by rw [e]; simp⟩
  · obtain ⟨j, ρ, e, _⟩ := Xc ks own (q + 1) 0 r σ h
    exact ⟨j :: ρ, e⟩
theorem Vo : ∀ (ts : List Tr) (own : List Int) (q : Nat) (i : Int) (r : Nat) (j : Int) (π : List Int), (r, own ++ j :: π) ∈ Zq own q i ts ↔ i ≤ j ∧ ∃ s k, (QW q ts)[(j - i).toNat]? = some s ∧ ts[(j - i).toNat]? = some k ∧ ∃ k', ZF π s k = some (r, k')
 | [], _, _, _, _, _, _ => by simp [Zq]
 | t :: ts, own, q, i, r, j, π => by
  rw [Zq, L3, Vo ts own _ (i + 1) r j π]
  constructor
  · rintro (h | ⟨hi, s, k, h1, h2, h3⟩)
    · obtain ⟨ρ, e⟩ := Y0 t (own ++ [i]) q r _ h
      rw [Lz, List.append_cancel_left_eq] at e
      injection e with e1 e2
      subst e1
      rw [show own ++ j :: π = (own ++ [j]) ++ π by simp] at h
      refine ⟨Int.le_refl _, q, t, by simp [QW], by simp, (KL t (own ++ [j]) q r π).1 h⟩
    · refine ⟨by omega, s, k, ?_, ?_, h3⟩
      · rw [show (j - i).toNat = (j - (i + 1)).toNat + 1 by omega, QW, LZ]; exact h1
      · rw [show (j - i).toNat = (j - (i + 1)).toNat + 1 by omega, LZ]; exact h2
  · rintro ⟨hi, s, k, h1, h2, h3⟩
    by_cases e : j = i
    · subst e
      rw [Int.sub_self] at h1 h2
      simp [QW] at h1 h2
      subst h1; subst h2
      refine .inl ?_
      rw [show own ++ j :: π = (own ++ [j]) ++ π by simp]
      exact (KL t (own ++ [j]) q r π).2 h3
    · refine .inr ⟨by omega, s, k, ?_, ?_, h3⟩
      · rw [show (j - i).toNat = (j - (i + 1)).toNat + 1 by omega, QW, LZ] at h1; exact h1
      · rw [show (j - i).toNat = (j - (i + 1)).toNat + 1 by omega, LZ] at h2; exact h2
end
theorem VX : ∀ (own a b : List Int), Zt (own ++ a) (own ++ b) = Zt a b
 | [], _, _ => rfl
 | x :: own, a, b => by rw [Lk, Lk, Zt, YE, if_neg (by simp), VX own]
def EQ : List (Nat × List Int) → Prop
 | [] => True
 | a :: l => (∀ b ∈ l, Zt a.2 b.2 < 0) ∧ EQ l
theorem Ux : ∀ {l m : List (Nat × List Int)}, EQ l → EQ m → (∀ a ∈ l, ∀ b ∈ m, Zt a.2 b.2 < 0) → EQ (l ++ m)
 | [], m, _, h, _ => h
 | a :: l, m, h1, h2, h => ⟨fun b hb => by
  rcases L3.1 hb with hb | hb
  · exact h1.1 b hb
  · exact h a (by simp) b hb, Ux h1.2 h2 (fun x hx y hy => h x (by simp [hx]) y hy)⟩
mutual
theorem Vq : ∀ (t : Tr) (own : List Int) (q : Nat), EQ (QY own q t)
 | .node x ks, own, q => by
  rw [QY]
  refine ⟨fun b hb => ?_, Vp ks own (q + 1) 0⟩
  obtain ⟨r, σ⟩ := b
  obtain ⟨j, ρ, e, _⟩ := Xc ks own (q + 1) 0 r σ hb
  simp only
  rw [e, show Zt own (own ++ j :: ρ) = Zt (own ++ []) (own ++ j :: ρ) by rw [LU], VX]
  simp [Zt]
theorem Vp : ∀ (ts : List Tr) (own : List Int) (q : Nat) (i : Int), EQ (Zq own q i ts)
 | [], _, _, _ => trivial
 | t :: ts, own, q, i => by
  rw [Zq]
  refine Ux (Vq t _ q) (Vp ts own _ (i + 1)) fun a ha b hb => ?_
  obtain ⟨r, σ⟩ := a
  obtain ⟨r', σ'⟩ := b
  obtain ⟨ρ, e⟩ := Y0 t (own ++ [i]) q r σ ha
  obtain ⟨j, ρ', e', hj⟩ := Xc ts own _ (i + 1) r' σ' hb
  simp only
  have hij : ZH i j < 0 := cmpI_lt.2 (by omega)
  rw [e, e', Lz, VX, Lk, Lo, Zt, if_pos (by omega)]
  exact hij
end
theorem EP : ∀ {l : List Int}, JR l → l.Pairwise (· < ·)
 | [], _ => .nil
 | a :: l, h => .cons (fun b hb => Jm h hb) (EP (Km h))
theorem AhX {l : List Dl} (h : l.Pairwise fun a b => Jv a b < 0) : YM l := by
 induction h with
 | nil => trivial
 | @cons a l ha _ ih =>
  cases l with
  | nil => trivial
  | cons b l => exact ⟨ha b (by simp), ih⟩
theorem ER : ∀ {l : List (Nat × List Int)}, EQ l → l.Pairwise fun a b => Zt a.2 b.2 < 0
 | [], _ => .nil
 | a :: l, h => .cons h.1 (ER h.2)
theorem Aak (x y : Nd) : (ZM x y).Pairwise fun a b => a.1 < b.1 ∨ (a.1 = b.1 ∧ a.2 < b.2) := by
 unfold ZM;rw [List.pairwise_flatMap];refine ⟨fun e _ => ?_, ?_⟩
 · rw [N9];exact (EP (JN _ (Xe _))).imp fun h => .inr ⟨rfl, h⟩
 · rw [N9];refine List.pairwise_lt_range.imp fun {i j} hij => ?_
   intro a c b d;rw [LN] at c d;obtain ⟨m, _, rfl⟩ := c;obtain ⟨n, _, rfl⟩ := d;exact .inl (by show (i : Int) + 1 < (j : Int) + 1; omega)
def UW (l : List Nd) (q : Nat) : Nd := (l[q]?).getD ⟨0, 0⟩
def ZK (l : List Nd) (q : Nat) : List (Int × Int) := ZM (UW l q) (UW l (q + 1))
def Ji (l : List Nd) (t : Tr) : List Dl := (QY [] 0 t).flatMap fun e => (ZK l e.1).map fun c => ⟨e.2, c.1, c.2⟩
theorem Aaw (l : List Nd) (t : Tr) : YM (Ji l t) := by
 refine AhX ?_;unfold Ji;rw [List.pairwise_flatMap];refine ⟨fun e _ => ?_, ?_⟩
 · rw [N9];refine (Aak _ _).imp fun {a b} h => ?_
   unfold Jv orI;simp only [AaH];rw [if_neg (by simp)];rcases h with h | ⟨j, k⟩
   · have := cmpI_lt.2 h;rw [if_pos (by omega)]; exact this
   · rw [if_neg (by simpa using cmpI_eq.2 j)]; exact cmpI_lt.2 k
 · refine (ER (Vq t [] 0)).imp fun {a b} h => ?_
   intro d g e i;rw [LN] at g i;obtain ⟨c, _, rfl⟩ := g;obtain ⟨m, _, rfl⟩ := i;unfold Jv orI;simp only;rw [if_pos (by omega)]; exact h
theorem allZ_mem {l : List Nd} {t : Tr} {d : Dl} : d ∈ Ji l t ↔ ∃ q k, ZF d.path 0 t = some (q, k) ∧ (d.op, d.n) ∈ ZK l q := by
 unfold Ji;rw [Np];constructor
 · rintro ⟨⟨q, π⟩, g, e⟩;rw [LN] at e;obtain ⟨c, h, rfl⟩ := e;obtain ⟨k, i⟩ := (KL t [] 0 q π).1 (by simpa using g);exact ⟨q, k, i, h⟩
 · rintro ⟨q, k, g, e⟩;refine ⟨(q, d.path), ?_, ?_⟩
   · have := (KL t [] 0 q d.path).2 ⟨k, g⟩;simpa using this
   · rw [LN];exact ⟨_, e, rfl⟩
theorem Ajm {l : List Dl} (h : YM l) {m : Nat} {d e : Dl} (hm : l[m]? = some e) (hc : Jv e d < 0) : ∀ i, l[i]? = some d → m < i := by
 intro i hi;rcases LT m i with x | x | x
 · exact x
 · subst x; rw [hm] at hi; injection hi with hi; subst hi; rw [UP] at hc; omega
 · have := U3 h hi hm x;rw [AgZ] at this; omega
theorem Ajl {l : List Dl} (h : YM l) {m : Nat} {d e : Dl} (hm : l[m]? = some e) (hc : 0 < Jv e d) : ∀ i, l[i]? = some d → i < m := by
 intro i hi;rcases LT i m with x | x | x
 · exact x
 · subst x; rw [hm] at hi; injection hi with hi; subst hi; rw [UP] at hc; omega
 · have := U3 h hm hi x;omega
end Go.Proofs.YtdcmppdhdcjpfaaGreat
namespace Go.Proofs.YtdcmppdhdcjpfaaGreat
open Go.RowKit Go.Deep
def MapB (w : World) (r : Nat) (es : List (Int × Value)) : Prop := ∃ (arr : Array MapEntry) (clock : Nat), w.heap[r]? = some (.map arr clock) ∧ arr.toList.map (fun e => (e.key, e.val)) = es.map (fun p => (Value.int .i64 p.1, p.2))
def Jt (k : Int) : List (Int × Value) → Option Value
 | [] => none
 | (k', v) :: es => if k = k' then some v else Jt k es
theorem MapB.lt {w : World} {r : Nat} {es : List (Int × Value)} (h : MapB w r es) : r < w.heap.size := by
 obtain ⟨arr, c, d, _⟩ := h;exact (Ln.1 d).1
theorem MapB.below {w w' : World} {r B : Nat} {es : List (Int × Value)} (h : MapB w r es) (b : Below B w w') (hr : r < B) : MapB w' r es := by
 obtain ⟨arr, c, d, e⟩ := h;exact ⟨arr, c, (b.block r hr).trans d, e⟩
instance St.mapB {r : Nat} {es : List (Int × Value)} : St (fun W => MapB W r es) := ⟨fun h b => h.below b h.lt⟩
theorem Yl (k : Int) : ∀ (l : List MapEntry) (es : List (Int × Value)) (i : Nat), l.map (fun e => (e.key, e.val)) = es.map (fun p => (Value.int .i64 p.1, p.2)) →
 (match Jt k es with | some v => ∃ j, Instr.findNow (.int .i64) (.int .i64 k) l i = some (some (j, v)) | none => Instr.findNow (.int .i64) (.int .i64 k) l i = some none)
 | [], es, i, h => by
  have : es = [] := by simpa using h.symm
  subst this; rfl
 | e :: l, [], i, h => by simp at h
 | e :: l, (k', v) :: es, i, h => by
  simp only [LE, N5, Prod.mk.injEq] at h
  obtain ⟨⟨h1, h2⟩, h3⟩ := h
  have ih := Yl k l es (i + 1) h3
  have e1 : Instr.findNow (.int .i64) (.int .i64 k) (e :: l) i = match Instr.sameNow (.int .i64) (.int .i64 k) e.key with | some true => some (some (i, e.val)) | some false => Instr.findNow (.int .i64) (.int .i64 k) l (i + 1) | none => none := rfl
  rw [e1, h1]
  have e2 : Instr.sameNow (.int .i64) (.int .i64 k) (.int .i64 k') = some (k == k') := rfl
  rw [e2, Jt]
  by_cases hk : k = k'
  · rw [if_pos hk]
    refine ⟨i, ?_⟩
    rw [show (k == k') = true by simpa using hk, h2]
  · rw [if_neg hk, show (k == k') = false by simpa using hk]
    exact ih
section
variable {P : Program} {w : World} {t kt et : TypeId} {r : Nat} {es : List (Int × Value)}
theorem Kn {b : Bool} {k : Int} (hk : P.underlying kt = some (.int .i64)) : (Instr.checkKey b 10000 kt (.int .i64 k)).run P w = .ok () w := by
 show (Instr.checkKey b (9999 + 1) kt (.int .i64 k)).run P w = .ok () w;rw [Instr.checkKey];simp [run_underlying hk]
theorem EZ (ht : P.underlying t = some (.map kt et)) (hk : P.underlying kt = some (.int .i64)) (h : MapB w r es) (k : Int) {z : Value} (hz : (zeroValue et).run P w = .ok z w) :
 (Instr.lookup t (.map (some r)) (.int .i64 k) false).run P w = .ok ((Jt k es).getD z) w := by
 obtain ⟨arr, d, e, i⟩ := h;have c := Yl k arr.toList es 0 i;unfold Instr.lookup Instr.findKey;cases ha : Jt k es with
 | some v =>
  rw [ha] at c;obtain ⟨j, g⟩ := c;simp [run_underlying ht, run_underlying hk, Kn hk, MapKept.run_getObj_map e, g]
 | none =>
  rw [ha] at c;simp only at c;simp [run_underlying ht, run_underlying hk, Kn hk, MapKept.run_getObj_map e, c, hz]
theorem EY (ht : P.underlying t = some (.map kt et)) (hk : P.underlying kt = some (.int .i64)) (h : MapB w r es) (k : Int) (v : Value) (hn : Jt k es = none) :
 ∃ w', (Instr.mapUpdate t (.map (some r)) (.int .i64 k) v).run P w = .ok () w' ∧ MapB w' r (es ++ [(k, v)]) ∧ Only r w w' := by
 obtain ⟨arr, c, d, l⟩ := h;have g := Yl k arr.toList es 0 l;rw [hn] at g;simp only at g;have i : r < w.heap.size := (Ln.1 d).1;refine ⟨{ w with heap := w.heap.setIfInBounds r (.map (arr.push { key := .int .i64 k, val := v, born := c }) (c + 1)) }, ?_, ⟨arr.push { key := .int .i64 k, val := v, born := c }, c + 1, ?_, ?_⟩, ⟨rfl, rfl, rfl, by simp, fun j m => ?_⟩⟩
 · unfold Instr.mapUpdate Instr.findKey;simp [run_underlying ht, run_underlying hk, Kn hk, MapKept.run_getObj_map d, g, MapKept.run_setObj_map _ d]
 · simp [i]
 · simp [l]
 · simp [N6]; intro e; exact absurd e.symm m
theorem MapB.new (w : World) : MapB (w.alloc (.map #[] 0)) w.heap.size [] := ⟨#[], 0, heap_alloc_new w _, rfl⟩
end
section
variable {P : Program} {ops : Array Oper} {rest : List Oper} {o : Oper} {a : Act} {w : World} {Q : Exit → Act → World → Prop} {t kt et : TypeId} {r : Nat} {es : List (Int × Value)}
theorem Vy {ρ : Operand → Value} {m x y : Operand} (ho : o.op = .insert t m x y ∨ o.op = .mapUpdate t m x y) {k v : Value} {r : Value} (hm : ρ m = r) (hx : ρ x = k) (hy : ρ y = v) {w' : World} (h : (Instr.mapUpdate t r k v).run P w = .ok () w') : (execOp ρ o).run P w = .ok .skip w' := by
 rcases ho with ho | ho <;> simp [execOp, ho, hm, hx, hy, h]
theorem Xs (hgd : o.guard = none) (m x y : Operand) (ho : o.op = .insert t m x y ∨ o.op = .mapUpdate t m x y) (ht : P.underlying t = some (.map kt et)) (hk : P.underlying kt = some (.int .i64)) (hb : MapB w r es) (hm : a.eval m = .map (some r)) (k : Int) (v : Value) (hx : a.eval x = .int .i64 k) (hy : a.eval y = v) (hn : Jt k es = none)
 (h : ∀ w', MapB w' r (es ++ [(k, v)]) → Only r w w' → wpList P ops Q rest (a.put o.dst undef) w') : wpList P ops Q (o :: rest) a w :=
 wpList_plain hgd fun _ hK => by
  obtain ⟨w', h1, h2, h3⟩ := EY ht hk hb k v hn
  unfold Oper.wp
  rw [Vy ho hm hx hy h1]
  exact hK _ _ (h w' h2 h3)
theorem ZG (hgd : o.guard = none) (m x : Operand) (ho : o.op = .lookup t m x false) (ht : P.underlying t = some (.map kt et)) (hk : P.underlying kt = some (.int .i64)) (hb : MapB w r es) (hm : a.eval m = .map (some r)) (k : Int) (hx : a.eval x = .int .i64 k) {z : Value} (hz : (zeroValue et).run P w = .ok z w)
 (h : wpList P ops Q rest (a.put o.dst ((Jt k es).getD z)) w) : wpList P ops Q (o :: rest) a w :=
 X9 hgd _ (by simp only [execOp, ho, hm, hx, Sem.run_bind, EZ ht hk hb k hz, Result.andThen_ok, Sem.run_pure]) h
end
end Go.Proofs.YtdcmppdhdcjpfaaGreat
