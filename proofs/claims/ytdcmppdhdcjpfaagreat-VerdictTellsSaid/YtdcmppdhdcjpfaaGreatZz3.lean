/- Lemmas for VerdictTellsP. -/
import Derived.Test.YtdcmppdhdcjpfaaGreatZz2
import Derived.Test.YtdcmppdhdcjpfaaGreatZz1
import Derived.ChangeMaps4
set_option linter.unusedVariables false
set_option linter.unusedSimpArgs false
set_option maxRecDepth 100000
set_option maxHeartbeats 16000000
namespace Go.Proofs.YtdcmppdhdcjpfaaGreat
def ZE (a b : Int) : Int := if a < b then -1 else if b < a then 1 else 0
def Zt : List Int → List Int → Int
 | [], [] => 0
 | [], _ :: _ => -1
 | _ :: _, [] => 1
 | a :: xs, b :: ys => if ZE a b ≠ 0 then ZE a b else Zt xs ys
structure Dl where
 path : List Int
 op : Int
 n : Int
def orI (a b : Int) : Int := if a ≠ 0 then a else b
def JL (d e : Dl) : Int := orI (Zt d.path e.path) (orI (ZE d.op e.op) (ZE d.n e.n))
theorem Yz (a : Int) : ZE a a = 0 := by unfold ZE; rw [if_neg (by omega), if_neg (by omega)]
theorem cmpI_eq {a b : Int} : ZE a b = 0 ↔ a = b := by
 unfold ZE;constructor
 · intro h; split at h
   · cases h
   · split at h
     · cases h
     · omega
 · rintro rfl; rw [if_neg (by omega), if_neg (by omega)]
theorem cmpI_lt {a b : Int} : ZE a b < 0 ↔ a < b := by
 unfold ZE;split
 · simp_all
 · split <;> simp <;> omega
theorem Ec (a b : Int) : ZE b a = -ZE a b := by
 unfold ZE
 repeat' split
 all_goals omega
theorem Abt (a b : Int) : ZE a b = -1 ∨ ZE a b = 0 ∨ ZE a b = 1 := by
 unfold ZE
 repeat' split
 all_goals simp
theorem AaP : ∀ a : List Int, Zt a a = 0
 | [] => rfl
 | x :: xs => by rw [Zt, Yz, if_neg (by simp), AaP xs]
theorem cmpL_eq : ∀ {a b : List Int}, Zt a b = 0 ↔ a = b
 | [], [] => by simp [Zt]
 | [], _ :: _ => by simp [Zt]
 | _ :: _, [] => by simp [Zt]
 | a :: xs, b :: ys => by
  rw [Zt]
  by_cases h : ZE a b = 0
  · rw [if_neg (by simpa using h), cmpL_eq, cmpI_eq.1 h]; simp
  · rw [if_pos h]
    constructor
    · intro e; exact absurd e h
    · intro e; injection e with e1 e2; exact absurd (cmpI_eq.2 e1) h
theorem Acw : ∀ (a b : List Int), Zt b a = -Zt a b
 | [], [] => by simp [Zt]
 | [], _ :: _ => by simp [Zt]
 | _ :: _, [] => by simp [Zt]
 | a :: xs, b :: ys => by
  rw [Zt, Zt, Ec a b]
  by_cases h : ZE a b = 0
  · rw [if_neg (by omega), if_neg (by omega), Acw xs ys]
  · rw [if_pos (by omega), if_pos h]
theorem Ae2 : ∀ (a b : List Int), Zt a b = -1 ∨ Zt a b = 0 ∨ Zt a b = 1
 | [], [] => by simp [Zt]
 | [], _ :: _ => by simp [Zt]
 | _ :: _, [] => by simp [Zt]
 | a :: xs, b :: ys => by
  rw [Zt]
  split
  · exact Abt a b
  · exact Ae2 xs ys
theorem Ee : ∀ {a b c : List Int}, Zt a b < 0 → Zt b c < 0 → Zt a c < 0
 | [], [], _, h, _ => by simp [Zt] at h
 | [], b :: ys, [], _, h => by simp [Zt] at h
 | [], b :: ys, c :: zs, _, _ => by simp [Zt]
 | a :: xs, [], _, h, _ => by simp [Zt] at h
 | a :: xs, b :: ys, [], _, h => by simp [Zt] at h
 | a :: xs, b :: ys, c :: zs, h1, h2 => by
  rw [Zt] at h1 h2 ⊢
  by_cases e1 : ZE a b = 0
  · rw [if_neg (by simpa using e1)] at h1
    have := cmpI_eq.1 e1
    subst this
    by_cases e2 : ZE a c = 0
    · rw [if_neg (by simpa using e2)] at h2 ⊢
      exact Ee h1 h2
    · rw [if_pos e2] at h2 ⊢
      exact h2
  · rw [if_pos e1] at h1
    by_cases e2 : ZE b c = 0
    · have := cmpI_eq.1 e2
      subst this
      rw [if_pos e1]; exact h1
    · rw [if_pos e2] at h2
      have h3 : ZE a c < 0 := cmpI_lt.2 (Int.lt_trans (cmpI_lt.1 h1) (cmpI_lt.1 h2))
      rw [if_pos (by omega)]; exact h3
theorem Ahb {a b : Int} : orI a b = 0 ↔ a = 0 ∧ b = 0 := by
 unfold orI;split
 · rename_i h; exact ⟨fun e => absurd e h, fun e => e.1⟩
 · rename_i h; exact ⟨fun e => ⟨by omega, e⟩, fun e => e.2⟩
theorem cmpD_eq {d e : Dl} : JL d e = 0 ↔ d = e := by
 unfold JL;rw [Ahb, Ahb, cmpL_eq, cmpI_eq, cmpI_eq];cases d; cases e;simp
theorem AaO (d : Dl) : JL d d = 0 := cmpD_eq.2 rfl
theorem Afl (a b : Int) : orI (-a) (-b) = -orI a b := by
 unfold orI;by_cases h : a = 0
 · rw [if_neg (by omega), if_neg (by omega)]
 · rw [if_pos (by omega), if_pos h]
theorem AgF (d e : Dl) : JL e d = -JL d e := by
 unfold JL;rw [Acw, Ec d.op, Ec d.n, Afl, Afl]
theorem Aha {a b : Int} (h1 : a = -1 ∨ a = 0 ∨ a = 1) (h2 : b = -1 ∨ b = 0 ∨ b = 1) : orI a b = -1 ∨ orI a b = 0 ∨ orI a b = 1 := by
 unfold orI; split <;> assumption
theorem AhZ (d e : Dl) : JL d e = -1 ∨ JL d e = 0 ∨ JL d e = 1 := Aha (Ae2 _ _) (Aha (Abt _ _) (Abt _ _))
theorem Ad9 {d e f : Dl} (h1 : JL d e < 0) (h2 : JL e f < 0) : JL d f < 0 := by
 unfold JL orI at *;by_cases g : Zt d.path e.path = 0
 · rw [if_neg (by simpa using g)] at h1;rw [cmpL_eq.1 g];by_cases b : Zt e.path f.path = 0
   · rw [if_neg (by simpa using b)] at h2 ⊢;by_cases h : ZE d.op e.op = 0
     · rw [if_neg (by simpa using h)] at h1;rw [cmpI_eq.1 h];by_cases c : ZE e.op f.op = 0
       · rw [if_neg (by simpa using c)] at h2 ⊢;exact cmpI_lt.2 (Int.lt_trans (cmpI_lt.1 h1) (cmpI_lt.1 h2))
       · rw [if_pos c] at h2 ⊢; exact h2
     · rw [if_pos h] at h1;by_cases c : ZE e.op f.op = 0
       · rw [← cmpI_eq.1 c, if_pos h]; exact h1
       · rw [if_pos c] at h2;have i : ZE d.op f.op < 0 := cmpI_lt.2 (Int.lt_trans (cmpI_lt.1 h1) (cmpI_lt.1 h2));rw [if_pos (by omega)]; exact i
   · rw [if_pos b] at h2 ⊢; exact h2
 · rw [if_pos g] at h1;by_cases b : Zt e.path f.path = 0
   · rw [← cmpL_eq.1 b, if_pos g]; exact h1
   · rw [if_pos b] at h2;have i := Ee h1 h2;rw [if_pos (by omega)]; exact i
def YH : List Dl → Prop
 | [] => True
 | [_] => True
 | a :: b :: l => JL a b < 0 ∧ YH (b :: l)
theorem AeI {a : Dl} {l : List Dl} (h : YH (a :: l)) : YH l := by
 cases l with
 | nil => trivial
 | cons b l => exact h.2
theorem EW : ∀ {l : List Dl} {a b : Dl}, YH (a :: l) → b ∈ l → JL a b < 0
 | [], _, _, _, h => by simp at h
 | c :: l, a, b, hr, h => by
  rcases Lv.1 h with rfl | h
  · exact hr.1
  · exact Ad9 hr.1 (EW hr.2 h)
theorem UW : ∀ {l : List Dl} {i j : Nat} {a b : Dl}, YH l → l[i]? = some a → l[j]? = some b → i < j → JL a b < 0
 | [], _, _, _, _, _, h, _, _ => by simp at h
 | c :: l, 0, 0, _, _, _, _, _, h => by omega
 | c :: l, 0, j + 1, a, b, hr, h1, h2, _ => by
  simp at h1 h2
  subst h1
  exact EW hr (Lf h2)
 | c :: l, i + 1, 0, _, _, _, _, _, h => by omega
 | c :: l, i + 1, j + 1, a, b, hr, h1, h2, h => UW (AeI hr) (by simpa using h1) (by simpa using h2) (by omega)
end Go.Proofs.YtdcmppdhdcjpfaaGreat
namespace Go.Proofs.YtdcmppdhdcjpfaaGreat
open Go.RowKit
def JS : List Int → Prop
 | [] => True
 | [_] => True
 | a :: b :: l => a < b ∧ JS (b :: l)
theorem Kk {a : Int} {l : List Int} (h : JS (a :: l)) : JS l := by
 cases l with
 | nil => trivial
 | cons b l => exact h.2
theorem Jv : ∀ {l : List Int} {a b : Int}, JS (a :: l) → b ∈ l → a < b
 | [], _, _, _, h => by simp at h
 | c :: l, a, b, hr, h => by
  rcases Lv.1 h with rfl | h
  · exact hr.1
  · exact Int.lt_trans hr.1 (Jv hr.2 h)
theorem EX {a : Int} {l : List Int} (h : JS l) (hl : ∀ b ∈ l, a < b) : JS (a :: l) := by
 cases l with
 | nil => trivial
 | cons b l => exact ⟨hl b (by simp), h⟩
theorem UX : ∀ {l m : List Int}, JS l → JS m → (∀ x, x ∈ l ↔ x ∈ m) → l = m
 | [], [], _, _, _ => rfl
 | [], b :: m, _, _, h => absurd ((h b).2 (by simp)) (by simp)
 | a :: l, [], _, _, h => absurd ((h a).1 (by simp)) (by simp)
 | a :: l, b :: m, h1, h2, h => by
  have hab : a = b := by
   rcases Lv.1 ((h a).1 (by simp)) with e | i
   · exact e
   · rcases Lv.1 ((h b).2 (by simp)) with e | j
     · exact e.symm
     · have := Jv h1 j; have := Jv h2 i; omega
  subst hab
  rw [UX (Kk h1) (Kk h2) fun x => ?_]
  constructor
  · intro c
    have d := Jv h1 c
    rcases Lv.1 ((h x).1 (by simp [c])) with e | g
    · omega
    · exact g
  · intro c
    have d := Jv h2 c
    rcases Lv.1 ((h x).2 (by simp [c])) with e | g
    · omega
    · exact g
def Aat (a : Int) : List Int → List Int
 | [] => [a]
 | b :: l => if a < b then a :: b :: l else if a = b then b :: l else b :: Aat a l
theorem Et (a x : Int) : ∀ l : List Int, x ∈ Aat a l ↔ x = a ∨ x ∈ l
 | [] => by simp [Aat]
 | b :: l => by
  rw [Aat]
  split
  · simp
  · split
    · rename_i e; subst e; simp
    · rw [Lv, Et a x l, Lv]
      constructor
      · rintro (h | h | h) <;> simp [h]
      · rintro (h | h | h) <;> simp [h]
theorem AaX (a : Int) : ∀ {l : List Int}, JS l → JS (Aat a l)
 | [], _ => trivial
 | b :: l, h => by
  rw [Aat]
  split
  · rename_i hab; exact ⟨hab, h⟩
  · split
    · exact h
    · rename_i h1 h2
      refine EX (AaX a (Kk h)) fun x hx => ?_
      rcases (Et a x l).1 hx with rfl | hx
      · omega
      · exact Jv h hx
def Xg : List Int → List Int
 | [] => []
 | a :: l => Aat a (Xg l)
theorem KV (x : Int) : ∀ l : List Int, x ∈ Xg l ↔ x ∈ l
 | [] => by simp [Xg]
 | a :: l => by rw [Xg, Et, KV x l, Lv]
theorem Xi : ∀ l : List Int, JS (Xg l)
 | [] => trivial
 | a :: l => AaX a (Xi l)
theorem JP (f : Int → Bool) : ∀ {l : List Int}, JS l → JS (l.filter f)
 | [], _ => trivial
 | a :: l, h => by
  rw [List.filter_cons]
  split
  · exact EX (JP f (Kk h)) fun b hb => Jv h ((LZ.1 hb).1)
  · exact JP f (Kk h)
def isC (x y : Nd) (op n : Int) : Bool :=
 if op = 1 then decide (7 ≤ x.tag ∧ x.tag ≤ 11 ∧ 7 ≤ n ∧ n ≤ 11 ∧ n ≠ x.tag) else if op = 2 then decide (12 ≤ x.tag ∧ x.tag ≤ 17 ∧ 12 ≤ n ∧ n ≤ 17 ∧ n ≠ x.tag)
 else if op = 3 then decide (18 ≤ x.tag ∧ x.tag ≤ 19 ∧ 18 ≤ n ∧ n ≤ 19 ∧ n ≠ x.tag)
 else if op = 4 then decide ((x.tag = 1 ∧ (n = 0 ∨ n = 1 ∨ n = -1 ∨ n = wrap64 (x.n + 1) ∨ n = wrap64 (x.n - 1)) ∧ n ≠ x.n) ∨ (x.tag = 2 ∧ n = wrap64 (1 - x.n)))
 else if op = 5 then decide ((x.tag = 21 ∨ x.tag = 22 ∨ x.tag = 23 ∨ x.tag = 24 ∨ x.tag = 25) ∧ n = 0)
 else if op = 6 then decide ((x.tag = 23 ∨ x.tag = 24) ∧ n = 0)
 else if op = 7 then decide (x.tag = 25 ∧ (n = 0 ∨ n = 1) ∧ ¬ (y.tag = 1 ∧ y.n = n)) else false
def U6 (x : Nd) : List Int := Xg ([-1, 0, 1, wrap64 (x.n - 1), wrap64 (x.n + 1)] ++ (List.range 13).map fun i : Nat => (i : Int) + 7)
def ZR (x y : Nd) : List (Int × Int) := ((List.range 7).map fun i : Nat => (i : Int) + 1).flatMap fun op => ((U6 x).filter (isC x y op)).map fun n => (op, n)
theorem AaY {x y : Nd} {op n : Int} (h : isC x y op n = true) (h2 : x.tag = 2 → x.n = 0 ∨ x.n = 1) : n ∈ U6 x := by
 unfold U6;rw [KV]
 have b : ∀ k : Int, 7 ≤ k → k ≤ 19 → k ∈ (List.range 13).map fun i : Nat => (i : Int) + 7 := fun k c h2 => by
  rw [LJ];exact ⟨(k - 7).toNat, N3.2 (by omega), by omega⟩
 unfold isC at h;rw [Lz]
 repeat' split at h
 all_goals (first | (cases h; done) | skip)
 all_goals (simp only [decide_eq_true_eq] at h)
 · exact .inr (b n (by omega) (by omega))
 · exact .inr (b n (by omega) (by omega))
 · exact .inr (b n (by omega) (by omega))
 · refine .inl ?_;rcases h with ⟨_, h, _⟩ | ⟨c, h⟩
   · simp; omega
   · have : n = 0 ∨ n = 1 := by
      subst h;unfold wrap64;rcases h2 c with e | e <;> rw [e] <;> omega
     simp; omega
 · exact .inl (by simp; omega)
 · exact .inl (by simp; omega)
 · exact .inl (by simp; omega)
theorem Abs {x y : Nd} {op n : Int} (h2 : x.tag = 2 → x.n = 0 ∨ x.n = 1) : (op, n) ∈ ZR x y ↔ isC x y op n = true := by
 unfold ZR;rw [Nt];constructor
 · rintro ⟨o, _, h⟩;rw [LJ] at h;obtain ⟨m, b, e⟩ := h;injection e with e1 e2;subst e1; subst e2;exact (LZ.1 b).2
 · intro h
   have c : 1 ≤ op ∧ op ≤ 7 := by
    unfold isC at h
    repeat' split at h
    all_goals (first | (cases h; done) | omega)
   refine ⟨op, ?_, ?_⟩
   · rw [LJ]; exact ⟨(op - 1).toNat, N3.2 (by omega), by omega⟩
   · rw [LJ]; exact ⟨n, LZ.2 ⟨AaY h h2, h⟩, rfl⟩
mutual
def Q0 (own : List Int) (q : Nat) : Tr → List (Nat × List Int)
 | .node _ ks => (q, own) :: Zs own (q + 1) 0 ks
def Zs (own : List Int) (q : Nat) (i : Int) : List Tr → List (Nat × List Int)
 | [] => []
 | t :: ts => Q0 (own ++ [i]) q t ++ Zs own (q + t.size) (i + 1) ts
end
mutual
theorem Ju : ∀ (t : Tr) (own : List Int) (q : Nat), (Q0 own q t).length = t.size
 | .node x ks, own, q => by rw [Q0, Lc, EP ks, Tr.size, Tr.flat, Lc]
theorem EP : ∀ (ts : List Tr) (own : List Int) (q : Nat) (i : Int), (Zs own q i ts).length = (QI ts).length
 | [], _, _, _ => by simp [Zs, QI]
 | t :: ts, own, q, i => by rw [Zs, Le, Ju t, EP ts, QI, Le]; rfl
end
mutual
theorem UV : ∀ (t : Tr) (own : List Int) (q j : Nat) (e : Nat × List Int), (Q0 own q t)[j]? = some e → e.1 = q + j
 | .node x ks, own, q, 0, e, h => by simp [Q0] at h; subst h; rfl
 | .node x ks, own, q, j + 1, e, h => by
  rw [Q0, Nl] at h
  have := Abc ks own (q + 1) 0 j e h
  omega
theorem Abc : ∀ (ts : List Tr) (own : List Int) (q : Nat) (i : Int) (j : Nat) (e : Nat × List Int), (Zs own q i ts)[j]? = some e → e.1 = q + j
 | [], _, _, _, _, _, h => by simp [Zs] at h
 | t :: ts, own, q, i, j, e, h => by
  rw [Zs] at h
  by_cases hj : j < t.size
  · rw [Lw (by rw [Ju]; exact hj)] at h
    exact UV t _ q j e h
  · rw [Ls (by rw [Ju]; omega), Ju] at h
    have := Abc ts own _ (i + 1) _ e h
    omega
end
def ZB : List Int → Nat → Tr → Option (Nat × Tr)
 | [], q, t => some (q, t)
 | i :: π, q, .node _ ks => if i < 0 then none else match (Q5 (q + 1) ks)[i.toNat]?, ks[i.toNat]? with
  | some r, some k => ZB π r k
  | _, _ => none
theorem Em {l : List Nd} : ∀ {π : List Int} {q r : Nat} {t k : Tr}, At l q t → ZB π q t = some (r, k) → At l r k
 | [], q, r, t, k, h, e => by simp [ZB] at e; obtain ⟨rfl, rfl⟩ := e; exact h
 | i :: π, q, r, .node x ks, k, h, e => by
  rw [ZB] at e
  split at e
  · cases e
  · split at e
    · rename_i r1 k1 h1 h2
      exact Em (h.kids.spot i.toNat r1 k1 h1 h2).1 e
    · cases e
mutual
theorem KB : ∀ (t : Tr) (own : List Int) (q r : Nat) (π : List Int), (r, own ++ π) ∈ Q0 own q t ↔ ∃ k, ZB π q t = some (r, k)
 | .node x ks, own, q, r, [] => by
  rw [Q0, LY, Lv, ZB]
  constructor
  · rintro (e | h)
    · injection e with e1 _; subst e1; exact ⟨_, rfl⟩
    · obtain ⟨j, ρ, e, _⟩ := Xd ks own (q + 1) 0 r own h
      have := congrArg List.length e
      simp at this
  · rintro ⟨k, e⟩
    injection e with e; injection e with e1 e2
    subst e1; exact .inl rfl
 | .node x ks, own, q, r, i :: π => by
  rw [Q0, Lv, ZB]
  have hne : (r, own ++ i :: π) ≠ (q, own) := fun e => by
   injection e with _ e;have := congrArg List.length e;simp at this
  rw [or_iff_right hne, Vh ks own (q + 1) 0 r i π]
  constructor
  · rintro ⟨hi, s, k, b, c, d, g⟩
    rw [Int.sub_zero] at b c
    rw [if_neg (by omega), b, c]
    exact ⟨d, g⟩
  · rintro ⟨d, h⟩
    split at h
    · cases h
    · split at h
      · rename_i s k b c
        exact ⟨by omega, s, k, by rw [Int.sub_zero]; exact b, by rw [Int.sub_zero]; exact c, d, h⟩
      · cases h
theorem Xd : ∀ (ts : List Tr) (own : List Int) (q : Nat) (i : Int) (r : Nat) (σ : List Int), (r, σ) ∈ Zs own q i ts → ∃ (j : Int) (ρ : List Int), σ = own ++ j :: ρ ∧ i ≤ j
 | [], _, _, _, _, _, h => by simp [Zs] at h
 | t :: ts, own, q, i, r, σ, h => by
  rw [Zs, Lz] at h
  rcases h with h | h
  · obtain ⟨ρ, e⟩ := YR t (own ++ [i]) q r σ h
    exact ⟨i, ρ, by rw [e]; simp, Int.le_refl _⟩
  · obtain ⟨j, ρ, e, hj⟩ := Xd ts own _ (i + 1) r σ h
    exact ⟨j, ρ, e, by omega⟩
theorem YR : ∀ (t : Tr) (own : List Int) (q r : Nat) (σ : List Int), (r, σ) ∈ Q0 own q t → ∃ ρ, σ = own ++ ρ
 | .node x ks, own, q, r, σ, h => by
  rw [Q0, Lv] at h
  rcases h with e | h
  · injection e with _ e; exact ⟨[], by rw [e]; simp⟩
  · obtain ⟨j, ρ, e, _⟩ := Xd ks own (q + 1) 0 r σ h
    exact ⟨j :: ρ, e⟩
theorem Vh : ∀ (ts : List Tr) (own : List Int) (q : Nat) (i : Int) (r : Nat) (j : Int) (π : List Int), (r, own ++ j :: π) ∈ Zs own q i ts ↔ i ≤ j ∧ ∃ s k, (Q5 q ts)[(j - i).toNat]? = some s ∧ ts[(j - i).toNat]? = some k ∧ ∃ k', ZB π s k = some (r, k')
 | [], _, _, _, _, _, _ => by simp [Zs]
 | t :: ts, own, q, i, r, j, π => by
  rw [Zs, Lz, Vh ts own _ (i + 1) r j π]
  constructor
  · rintro (h | ⟨hi, s, k, h1, h2, h3⟩)
    · obtain ⟨ρ, e⟩ := YR t (own ++ [i]) q r _ h
      rw [Lx, List.append_cancel_left_eq] at e
      injection e with e1 e2
      subst e1
      rw [show own ++ j :: π = (own ++ [j]) ++ π by simp] at h
      refine ⟨Int.le_refl _, q, t, by simp [Q5], by simp, (KB t (own ++ [j]) q r π).1 h⟩
    · refine ⟨by omega, s, k, ?_, ?_, h3⟩
      · rw [show (j - i).toNat = (j - (i + 1)).toNat + 1 by omega, Q5, Nl]; exact h1
      · rw [show (j - i).toNat = (j - (i + 1)).toNat + 1 by omega, Nl]; exact h2
  · rintro ⟨hi, s, k, h1, h2, h3⟩
    by_cases e : j = i
    · subst e
      rw [Int.sub_self] at h1 h2
      simp [Q5] at h1 h2
      subst h1; subst h2
      refine .inl ?_
      rw [show own ++ j :: π = (own ++ [j]) ++ π by simp]
      exact (KB t (own ++ [j]) q r π).2 h3
    · refine .inr ⟨by omega, s, k, ?_, ?_, h3⟩
      · rw [show (j - i).toNat = (j - (i + 1)).toNat + 1 by omega, Q5, Nl] at h1; exact h1
      · rw [show (j - i).toNat = (j - (i + 1)).toNat + 1 by omega, Nl] at h2; exact h2
end
theorem Ed : ∀ (own a b : List Int), Zt (own ++ a) (own ++ b) = Zt a b
 | [], _, _ => rfl
 | x :: own, a, b => by rw [Ln, Ln, Zt, Yz, if_neg (by simp), Ed own]
def E1 : List (Nat × List Int) → Prop
 | [] => True
 | a :: l => (∀ b ∈ l, Zt a.2 b.2 < 0) ∧ E1 l
theorem Ur : ∀ {l m : List (Nat × List Int)}, E1 l → E1 m → (∀ a ∈ l, ∀ b ∈ m, Zt a.2 b.2 < 0) → E1 (l ++ m)
 | [], m, _, h, _ => h
 | a :: l, m, h1, h2, h => ⟨fun b hb => by
  rcases Lz.1 hb with hb | hb
  · exact h1.1 b hb
  · exact h a (by simp) b hb, Ur h1.2 h2 (fun x hx y hy => h x (by simp [hx]) y hy)⟩
mutual
theorem Vj : ∀ (t : Tr) (own : List Int) (q : Nat), E1 (Q0 own q t)
 | .node x ks, own, q => by
  rw [Q0]
  refine ⟨fun b hb => ?_, Vi ks own (q + 1) 0⟩
  obtain ⟨r, σ⟩ := b
  obtain ⟨j, ρ, e, _⟩ := Xd ks own (q + 1) 0 r σ hb
  simp only
  rw [e, show Zt own (own ++ j :: ρ) = Zt (own ++ []) (own ++ j :: ρ) by rw [LY], Ed]
  simp [Zt]
theorem Vi : ∀ (ts : List Tr) (own : List Int) (q : Nat) (i : Int), E1 (Zs own q i ts)
 | [], _, _, _ => trivial
 | t :: ts, own, q, i => by
  rw [Zs]
  refine Ur (Vj t _ q) (Vi ts own _ (i + 1)) fun a ha b hb => ?_
  obtain ⟨r, σ⟩ := a
  obtain ⟨r', σ'⟩ := b
  obtain ⟨ρ, e⟩ := YR t (own ++ [i]) q r σ ha
  obtain ⟨j, ρ', e', hj⟩ := Xd ts own _ (i + 1) r' σ' hb
  simp only
  have hij : ZE i j < 0 := cmpI_lt.2 (by omega)
  rw [e, e', Lx, Ed, Ln, Lp, Zt, if_pos (by omega)]
  exact hij
end
theorem EZ : ∀ {l : List Int}, JS l → l.Pairwise (· < ·)
 | [], _ => .nil
 | a :: l, h => .cons (fun b hb => Jv h hb) (EZ (Kk h))
theorem Ahp {l : List Dl} (h : l.Pairwise fun a b => JL a b < 0) : YH l := by
 induction h with
 | nil => trivial
 | @cons a l ha _ ih =>
  cases l with
  | nil => trivial
  | cons b l => exact ⟨ha b (by simp), ih⟩
theorem E3 : ∀ {l : List (Nat × List Int)}, E1 l → l.Pairwise fun a b => Zt a.2 b.2 < 0
 | [], _ => .nil
 | a :: l, h => .cons h.1 (E3 h.2)
theorem Aas (x y : Nd) : (ZR x y).Pairwise fun a b => a.1 < b.1 ∨ (a.1 = b.1 ∧ a.2 < b.2) := by
 unfold ZR;rw [List.pairwise_flatMap];refine ⟨fun e _ => ?_, ?_⟩
 · rw [NA];exact (EZ (JP _ (Xi _))).imp fun h => .inr ⟨rfl, h⟩
 · rw [NA];refine List.pairwise_lt_range.imp fun {i j} hij => ?_
   intro a c b d;rw [LJ] at c d;obtain ⟨m, _, rfl⟩ := c;obtain ⟨n, _, rfl⟩ := d;exact .inl (by show (i : Int) + 1 < (j : Int) + 1; omega)
def US (l : List Nd) (q : Nat) : Nd := (l[q]?).getD ⟨0, 0⟩
def ZO (l : List Nd) (q : Nat) : List (Int × Int) := ZR (US l q) (US l (q + 1))
def Jo (l : List Nd) (t : Tr) : List Dl := (Q0 [] 0 t).flatMap fun e => (ZO l e.1).map fun c => ⟨e.2, c.1, c.2⟩
theorem AaF (l : List Nd) (t : Tr) : YH (Jo l t) := by
 refine Ahp ?_;unfold Jo;rw [List.pairwise_flatMap];refine ⟨fun e _ => ?_, ?_⟩
 · rw [NA];refine (Aas _ _).imp fun {a b} h => ?_
   unfold JL orI;simp only [AaP];rw [if_neg (by simp)];rcases h with h | ⟨j, k⟩
   · have := cmpI_lt.2 h;rw [if_pos (by omega)]; exact this
   · rw [if_neg (by simpa using cmpI_eq.2 j)]; exact cmpI_lt.2 k
 · refine (E3 (Vj t [] 0)).imp fun {a b} h => ?_
   intro d g e i;rw [LJ] at g i;obtain ⟨c, _, rfl⟩ := g;obtain ⟨m, _, rfl⟩ := i;unfold JL orI;simp only;rw [if_pos (by omega)]; exact h
theorem allZ_mem {l : List Nd} {t : Tr} {d : Dl} : d ∈ Jo l t ↔ ∃ q k, ZB d.path 0 t = some (q, k) ∧ (d.op, d.n) ∈ ZO l q := by
 unfold Jo;rw [Nt];constructor
 · rintro ⟨⟨q, π⟩, e, b⟩;rw [LJ] at b;obtain ⟨c, g, rfl⟩ := b;obtain ⟨k, h⟩ := (KB t [] 0 q π).1 (by simpa using e);exact ⟨q, k, h, g⟩
 · rintro ⟨q, k, e, b⟩;refine ⟨(q, d.path), ?_, ?_⟩
   · have := (KB t [] 0 q d.path).2 ⟨k, e⟩;simpa using this
   · rw [LJ];exact ⟨_, b, rfl⟩
theorem AiA {l : List Dl} (h : YH l) {m : Nat} {d e : Dl} (hm : l[m]? = some e) (hc : JL e d < 0) : ∀ i, l[i]? = some d → m < i := by
 intro i hi;rcases LS m i with x | x | x
 · exact x
 · subst x; rw [hm] at hi; injection hi with hi; subst hi; rw [AaO] at hc; omega
 · have := UW h hi hm x;rw [AgF] at this; omega
theorem Aiz {l : List Dl} (h : YH l) {m : Nat} {d e : Dl} (hm : l[m]? = some e) (hc : 0 < JL e d) : ∀ i, l[i]? = some d → i < m := by
 intro i hi;rcases LS i m with x | x | x
 · exact x
 · subst x; rw [hm] at hi; injection hi with hi; subst hi; rw [AaO] at hc; omega
 · have := UW h hm hi x;omega
end Go.Proofs.YtdcmppdhdcjpfaaGreat
namespace Go.Proofs.YtdcmppdhdcjpfaaGreat
open Go.RowKit Go.Deep
def MapB (w : World) (r : Nat) (es : List (Int × Value)) : Prop := ∃ (arr : Array MapEntry) (clock : Nat), w.heap[r]? = some (.map arr clock) ∧ arr.toList.map (fun e => (e.key, e.val)) = es.map (fun p => (Value.int .i64 p.1, p.2))
def JD (k : Int) : List (Int × Value) → Option Value
 | [] => none
 | (k', v) :: es => if k = k' then some v else JD k es
theorem MapB.lt {w : World} {r : Nat} {es : List (Int × Value)} (h : MapB w r es) : r < w.heap.size := by
 obtain ⟨arr, b, c, _⟩ := h;exact (Lj.1 c).1
theorem MapB.below {w w' : World} {r B : Nat} {es : List (Int × Value)} (h : MapB w r es) (b : Below B w w') (hr : r < B) : MapB w' r es := by
 obtain ⟨arr, c, d, e⟩ := h;exact ⟨arr, c, (b.block r hr).trans d, e⟩
instance St.mapB {r : Nat} {es : List (Int × Value)} : St (fun W => MapB W r es) := ⟨fun h b => h.below b h.lt⟩
theorem Yd (k : Int) : ∀ (l : List MapEntry) (es : List (Int × Value)) (i : Nat), l.map (fun e => (e.key, e.val)) = es.map (fun p => (Value.int .i64 p.1, p.2)) →
 (match JD k es with | some v => ∃ j, Instr.findNow (.int .i64) (.int .i64 k) l i = some (some (j, v)) | none => Instr.findNow (.int .i64) (.int .i64 k) l i = some none)
 | [], es, i, h => by
  have : es = [] := by simpa using h.symm
  subst this; rfl
 | e :: l, [], i, h => by simp at h
 | e :: l, (k', v) :: es, i, h => by
  simp only [LF, N0, Prod.mk.injEq] at h
  obtain ⟨⟨h1, h2⟩, h3⟩ := h
  have ih := Yd k l es (i + 1) h3
  have e1 : Instr.findNow (.int .i64) (.int .i64 k) (e :: l) i = match Instr.sameNow (.int .i64) (.int .i64 k) e.key with | some true => some (some (i, e.val)) | some false => Instr.findNow (.int .i64) (.int .i64 k) l (i + 1) | none => none := rfl
  rw [e1, h1]
  have e2 : Instr.sameNow (.int .i64) (.int .i64 k) (.int .i64 k') = some (k == k') := rfl
  rw [e2, JD]
  by_cases hk : k = k'
  · rw [if_pos hk]
    refine ⟨i, ?_⟩
    rw [show (k == k') = true by simpa using hk, h2]
  · rw [if_neg hk, show (k == k') = false by simpa using hk]
    exact ih
section
variable {P : Program} {w : World} {t kt et : TypeId} {r : Nat} {es : List (Int × Value)}
theorem Kl {b : Bool} {k : Int} (hk : P.underlying kt = some (.int .i64)) : (Instr.checkKey b 10000 kt (.int .i64 k)).run P w = .ok () w := by
 show (Instr.checkKey b (9999 + 1) kt (.int .i64 k)).run P w = .ok () w;rw [Instr.checkKey];simp [run_underlying hk]
theorem Aab (ht : P.underlying t = some (.map kt et)) (hk : P.underlying kt = some (.int .i64)) (h : MapB w r es) (k : Int) {z : Value} (hz : (zeroValue et).run P w = .ok z w) :
 (Instr.lookup t (.map (some r)) (.int .i64 k) false).run P w = .ok ((JD k es).getD z) w := by
 obtain ⟨arr, c, d, g⟩ := h;have b := Yd k arr.toList es 0 g;unfold Instr.lookup Instr.findKey;cases ha : JD k es with
 | some v =>
  rw [ha] at b;obtain ⟨j, e⟩ := b;simp [run_underlying ht, run_underlying hk, Kl hk, MapKept.run_getObj_map d, e]
 | none =>
  rw [ha] at b;simp only at b;simp [run_underlying ht, run_underlying hk, Kl hk, MapKept.run_getObj_map d, b, hz]
theorem Aaa (ht : P.underlying t = some (.map kt et)) (hk : P.underlying kt = some (.int .i64)) (h : MapB w r es) (k : Int) (v : Value) (hn : JD k es = none) :
 ∃ w', (Instr.mapUpdate t (.map (some r)) (.int .i64 k) v).run P w = .ok () w' ∧ MapB w' r (es ++ [(k, v)]) ∧ Only r w w' := by
 obtain ⟨arr, b, c, i⟩ := h;have d := Yd k arr.toList es 0 i;rw [hn] at d;simp only at d;have g : r < w.heap.size := (Lj.1 c).1;refine ⟨{ w with heap := w.heap.setIfInBounds r (.map (arr.push { key := .int .i64 k, val := v, born := b }) (b + 1)) }, ?_, ⟨arr.push { key := .int .i64 k, val := v, born := b }, b + 1, ?_, ?_⟩, ⟨rfl, rfl, rfl, by simp, fun j l => ?_⟩⟩
 · unfold Instr.mapUpdate Instr.findKey;simp [run_underlying ht, run_underlying hk, Kl hk, MapKept.run_getObj_map c, d, MapKept.run_setObj_map _ c]
 · simp [g]
 · simp [i]
 · simp [N6]; intro e; exact absurd e.symm l
theorem MapB.new (w : World) : MapB (w.alloc (.map #[] 0)) w.heap.size [] := ⟨#[], 0, heap_alloc_new w _, rfl⟩
end
section
variable {P : Program} {ops : Array Oper} {rest : List Oper} {o : Oper} {a : Act} {w : World} {Q : Exit → Act → World → Prop} {t kt et : TypeId} {r : Nat} {es : List (Int × Value)}
theorem Vs {ρ : Operand → Value} {m x y : Operand} (ho : o.op = .insert t m x y ∨ o.op = .mapUpdate t m x y) {k v : Value} {r : Value} (hm : ρ m = r) (hx : ρ x = k) (hy : ρ y = v) {w' : World} (h : (Instr.mapUpdate t r k v).run P w = .ok () w') : (execOp ρ o).run P w = .ok .skip w' := by
 rcases ho with ho | ho <;> simp [execOp, ho, hm, hx, hy, h]
theorem Xx (hgd : o.guard = none) (m x y : Operand) (ho : o.op = .insert t m x y ∨ o.op = .mapUpdate t m x y) (ht : P.underlying t = some (.map kt et)) (hk : P.underlying kt = some (.int .i64)) (hb : MapB w r es) (hm : a.eval m = .map (some r)) (k : Int) (v : Value) (hx : a.eval x = .int .i64 k) (hy : a.eval y = v) (hn : JD k es = none)
 (h : ∀ w', MapB w' r (es ++ [(k, v)]) → Only r w w' → wpList P ops Q rest (a.put o.dst undef) w') : wpList P ops Q (o :: rest) a w :=
 wpList_plain hgd fun _ hK => by
  obtain ⟨w', h1, h2, h3⟩ := Aaa ht hk hb k v hn
  unfold Oper.wp
  rw [Vs ho hm hx hy h1]
  exact hK _ _ (h w' h2 h3)
theorem ZD (hgd : o.guard = none) (m x : Operand) (ho : o.op = .lookup t m x false) (ht : P.underlying t = some (.map kt et)) (hk : P.underlying kt = some (.int .i64)) (hb : MapB w r es) (hm : a.eval m = .map (some r)) (k : Int) (hx : a.eval x = .int .i64 k) {z : Value} (hz : (zeroValue et).run P w = .ok z w)
 (h : wpList P ops Q rest (a.put o.dst ((JD k es).getD z)) w) : wpList P ops Q (o :: rest) a w :=
 Y2 hgd _ (by simp only [execOp, ho, hm, hx, Sem.run_bind, Aab ht hk hb k hz, Result.andThen_ok, Sem.run_pure]) h
end
end Go.Proofs.YtdcmppdhdcjpfaaGreat
