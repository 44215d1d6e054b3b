/- Lemmas for RunnerTurnsP. -/
import Derived.Test.YtkoikjnlpifbjaaGreatZa5
import Derived.Test.YtkoikjnlpifbjaaGreatZa11
import Derived.Test.YtkoikjnlpifbjaaGreatZa23
import Derived.Test.YtkoikjnlpifbjaaGreatZa17
import Derived.Test.YtkoikjnlpifbjaaGreatZa1
set_option linter.unusedVariables false
set_option linter.unusedSimpArgs false
set_option maxRecDepth 100000
set_option maxHeartbeats 16000000
namespace Go.Proofs.YtkoikjnlpifbjaaGreat
open Go.RowKit
def VP (x : Nd) (q s : Nat) (op n : Int) : Nat × Nd × Nat :=
 if op ≤ 3 then (q, ⟨n, x.n⟩, q + 1) else if op = 4 then (q, ⟨x.tag, n⟩, q + 1) else if op = 5 then (q, ⟨26, 0⟩, q + s) else if op = 6 then (q + 1, ⟨6, 0⟩, q + 1) else (q + 1, ⟨1, n⟩, q + s)
def Vj (l : List Nd) (c : Nat × Nd × Nat) : List Nd := l.take c.1 ++ (c.2.1 :: l.drop c.2.2)
def Ji (l : List Nd) (q : Nat) (k : Tr) (op n : Int) : List Nd := Vj l (VP k.root q k.size op n)
def Ajs : List Tr → List Tr
 | [] => []
 | c :: r => .node ⟨6, 0⟩ [c] :: r
def chT (op n : Int) : Tr → Tr
 | .node x ks => if op ≤ 3 then .node ⟨n, x.n⟩ ks else if op = 4 then .node ⟨x.tag, n⟩ ks else if op = 5 then .node ⟨26, 0⟩ [] else
  if op = 6 then .node x (Ajs ks) else .node x [.node ⟨1, n⟩ []]
mutual
def Xj (f : Tr → Tr) : List Int → Tr → Tr
 | [], t => f t
 | i :: π, .node x ks => .node x (XT f π i.toNat ks)
def XT (f : Tr → Tr) (π : List Int) : Nat → List Tr → List Tr
 | _, [] => []
 | 0, t :: ts => Xj f π t :: ts
 | i + 1, t :: ts => t :: XT f π i ts
end
theorem EM (f : Tr → Tr) (π : List Int) : ∀ (i : Nat) (ks : List Tr), (XT f π i ks).length = ks.length
 | _, [] => by simp [XT]
 | 0, t :: ts => by simp [XT]
 | i + 1, t :: ts => by simp [XT, EM f π i ts]
theorem Aa3 : ∀ (ts : List Tr) (p i : Nat) (r : Nat) (k : Tr), (Zi p ts)[i]? = some r → ts[i]? = some k → ∃ a b : List Nd, QE ts = a ++ (k.flat ++ b) ∧ r = p + a.length ∧ ∀ (f : Tr → Tr) (π : List Int), QE (XT f π i ts) = a ++ ((Xj f π k).flat ++ b)
 | [], _, _, _, _, h, _ => by simp [Zi] at h
 | t :: ts, p, 0, r, k, h1, h2 => by
  simp [Zi] at h1 h2
  subst h1 h2
  exact ⟨[], QE ts, by simp [QE], by simp, fun f π => by simp [XT, QE]⟩
 | t :: ts, p, i + 1, r, k, h1, h2 => by
  simp [Zi] at h1 h2
  obtain ⟨a, b, e1, e2, e3⟩ := Aa3 ts (p + t.size) i r k h1 h2
  refine ⟨t.flat ++ a, b, by rw [QE, e1, Ly], by rw [e2, Ld]; show p + t.flat.length + a.length = _; omega, fun f π => ?_⟩
  rw [XT, QE, e3, Ly]
theorem VV : ∀ (π : List Int) (q r : Nat) (t k : Tr), ZG π q t = some (r, k) → ∃ a b : List Nd, t.flat = a ++ (k.flat ++ b) ∧ r = q + a.length ∧ ∀ f : Tr → Tr, (Xj f π t).flat = a ++ ((f k).flat ++ b)
 | [], q, r, t, k, h => by
  simp [ZG] at h
  obtain ⟨rfl, rfl⟩ := h
  exact ⟨[], [], by simp, by simp, fun f => by simp [Xj]⟩
 | i :: π, q, r, .node x ks, k, h => by
  rw [ZG] at h
  split at h
  · cases h
  · split at h
    · rename_i s u h1 h2
      obtain ⟨a, b, e1, e2, e3⟩ := Aa3 ks (q + 1) i.toNat s u h1 h2
      obtain ⟨a2, b2, g1, g2, g3⟩ := VV π s r u k h
      refine ⟨x :: (a ++ a2), b2 ++ b, by rw [Tr.flat, e1, g1]; simp, by rw [g2, e2]; simp; omega, fun f => ?_⟩
      rw [Xj, Tr.flat, e3, g3]
      simp
    · cases h
theorem XI {π : List Int} {i : Int} {q r : Nat} {x : Nd} {ks : List Tr} {k : Tr} (h : ZG (i :: π) q (.node x ks) = some (r, k)) : ∃ s u, (Zi (q + 1) ks)[i.toNat]? = some s ∧ ks[i.toNat]? = some u ∧ ZG π s u = some (r, k) := by
 rw [ZG] at h;split at h
 · cases h
 · split at h
   · rename_i s u b c; exact ⟨s, u, b, c, h⟩
   · cases h
theorem Adk (f : Tr → Tr) (π : List Int) : ∀ (ks : List Tr) (i j : Nat) (u : Tr), ks[i]? = some u → (XT f π i ks)[j]? = if j = i then some (Xj f π u) else ks[j]?
 | [], i, _, _, h => by simp at h
 | t :: ts, 0, j, u, h => by
  simp at h; subst h
  cases j with
  | zero => simp [XT]
  | succ j => simp [XT]
 | t :: ts, i + 1, j, u, h => by
  simp at h
  cases j with
  | zero => simp [XT]
  | succ j => simp [XT, Adk f π ts i j u h]
theorem Aa1 {f : Tr → Tr} : ∀ {π : List Int} {q r : Nat} {t k : Tr}, t.fits → ZG π q t = some (r, k) → (k.fits → (f k).fits) → (Xj f π t).fits
 | [], q, r, t, k, ht, h, hf => by
  simp [ZG] at h
  obtain ⟨_, rfl⟩ := h
  rw [Xj]; exact hf ht
 | i :: π, q, r, .node x ks, k, ht, h, hf => by
  obtain ⟨s, u, h1, h2, h3⟩ := XI h
  cases ht with
  | mk _ _ ha hk =>
   rw [Xj]
   refine .mk _ _ (by rw [EM]; exact ha) fun c hc => ?_
   obtain ⟨j, hj⟩ := List.mem_iff_getElem?.1 hc
   rw [Adk f π ks i.toNat j u h2] at hj
   split at hj
   · injection hj with hj
     subst hj
     exact Aa1 (hk u (Lg h2)) h3 hf
   · exact hk c (Lg hj)
theorem VU : ∀ {π : List Int} {q r : Nat} {t k : Tr}, t.fits → ZG π q t = some (r, k) → k.fits
 | [], q, r, t, k, ht, h => by simp [ZG] at h; obtain ⟨_, rfl⟩ := h; exact ht
 | i :: π, q, r, .node x ks, k, ht, h => by
  obtain ⟨s, u, h1, h2, h3⟩ := XI h
  cases ht with
  | mk _ _ ha hk => exact VU (hk u (Lg h2)) h3
theorem Eh {V : List Int} {inn : Bool} {f : Tr → Tr} {π : List Int} : ∀ (ts : List Tr) (ws : List Int) (b : Bool) (i : Nat) (u : Tr), ts[i]? = some u → ofT V (Xj f π u) = ofT V u → (Xj f π u).root.tag = u.root.tag ∨ (¬ (Xj f π u).root.tag = 20 ∧ ¬ u.root.tag = 20) → Q1 V inn b (XT f π i ts) ws = Q1 V inn b ts ws
 | [], _, _, i, u, h, _, _ => by simp at h
 | t :: ts, [], b, i, u, h, _, _ => by
  cases i <;> simp [XT, Q1]
 | t :: ts, w :: ws, b, 0, u, h, h1, h2 => by
  simp at h; subst h
  have e : ((Xj f π t).root.tag == 20) = (t.root.tag == 20) := by
   rcases h2 with h2 | ⟨h2, c⟩
   · rw [h2]
   · rw [Nr, beq_iff_eq, beq_iff_eq];exact ⟨fun h => absurd h h2, fun h => absurd h c⟩
  rw [XT, Q1, Q1, h1, e]
 | t :: ts, w :: ws, b, i + 1, u, h, h1, h2 => by
  simp at h
  rw [XT, Q1, Q1, Eh ts ws false i u h h1 h2]
theorem AiZ {V : List Int} {x : Nd} {n : Nat} (hx : isZ V x ≠ -1) (h : (-1 : Int) ∈ QQ V x n) : False := by
 unfold QQ at h
 repeat' split at h
 all_goals (try (simp at h; done))
 · rename_i _ _ _ _ c
   have b : Ka V x.n = true := by
    by_cases b : Ka V x.n = true
    · exact b
    · exfalso;apply hx;unfold isZ;rw [if_neg (by omega), if_neg (by omega), if_neg (by omega), if_neg (by omega), if_neg (by omega), if_neg (by omega), if_neg (by omega), if_neg (by omega), if_pos c, if_neg b]
   obtain ⟨t, e, d⟩ := XK b;rw [e] at h;simp at h;omega
theorem UY {V : List Int} : ∀ {π : List Int} {q r : Nat} {t k : Tr}, ofT V t ≠ -1 → ZG π q t = some (r, k) → ofT V k ≠ -1
 | [], q, r, t, k, ht, h => by simp [ZG] at h; obtain ⟨_, rfl⟩ := h; exact ht
 | i :: π, q, r, .node x ks, k, ht, h => by
  obtain ⟨s, u, h1, h2, h3⟩ := XI h
  obtain ⟨_, g2, g3, g4⟩ := KC ht
  have hl : i.toNat < (QQ V x ks.length).length := by rw [g3]; exact (Lb.1 h2).1
  have := Xx g4 i.toNat u _ h2 (La hl)
  refine UY (t := u) ?_ h3
  rw [this]
  intro e
  have hm : (-1 : Int) ∈ QQ V x ks.length := by rw [← e]; exact List.getElem_mem hl
  exact AiZ g2 hm
def Ae7 (a b : Int) : Prop := a = b ∨ (¬ a = 20 ∧ ¬ b = 20)
theorem Aa2 {V : List Int} {f : Tr → Tr} : ∀ {π : List Int} {q r : Nat} {t k : Tr}, ZG π q t = some (r, k) → ofT V (f k) = ofT V k → Ae7 (f k).root.tag k.root.tag → ofT V (Xj f π t) = ofT V t ∧ Ae7 (Xj f π t).root.tag t.root.tag
 | [], q, r, t, k, h, h1, h2 => by simp [ZG] at h; obtain ⟨_, rfl⟩ := h; rw [Xj]; exact ⟨h1, h2⟩
 | i :: π, q, r, .node x ks, k, h, h1, h2 => by
  obtain ⟨s, u, g1, g2, g3⟩ := XI h
  obtain ⟨e1, e2⟩ := Aa2 g3 h1 h2
  rw [Xj]
  refine ⟨?_, .inl rfl⟩
  rw [ofT, ofT, EM, Eh ks _ _ i.toNat u g2 e1 e2]
theorem Tr.fits.len {x : Nd} {ks : List Tr} (h : (Tr.node x ks).fits) : Qs x = (ks.length : Int) := by cases h; assumption
theorem Tr.fits.kids {x : Nd} {ks : List Tr} (h : (Tr.node x ks).fits) : ∀ k ∈ ks, k.fits := by cases h; assumption
theorem VB {t n m a : Int} (h : Q0 ⟨t, n⟩ = (m, a)) (ht : ¬ t = 1) (h0 : 0 ≤ n) (h1 : n ≤ m) : Qs ⟨t, n⟩ = a := by
 unfold Qs;rw [if_neg ht, h, if_neg (by simp only; omega)]
theorem Abq {t n : Int} (h : 7 ≤ t ∧ t ≤ 19) : Q0 ⟨t, n⟩ = (0, 2) := by
 unfold Q0;simp only;rw [if_neg (by omega), if_neg (by omega), if_neg (by omega), if_neg (by omega), if_neg (by omega), if_neg (by omega), if_neg (by omega), if_neg (by omega), if_neg (by omega), if_pos h]
theorem Afq {x : Nd} (h : 7 ≤ x.tag ∧ x.tag ≤ 19) (ha : Qs x ≠ -1) : x.n = 0 := by
 unfold Qs at ha;rw [if_neg (by omega), show Q0 x = (0, 2) from Abq (t := x.tag) (n := x.n) h] at ha;by_cases b : x.n < 0 ∨ 0 < x.n
 · rw [if_pos b] at ha; exact absurd rfl ha
 · omega
theorem UF {x y : Nd} {op n : Int} (h : isC x y op n = true) :
 (op = 1 ∧ (7 ≤ x.tag ∧ x.tag ≤ 11) ∧ 7 ≤ n ∧ n ≤ 11 ∧ n ≠ x.tag) ∨ (op = 2 ∧ (12 ≤ x.tag ∧ x.tag ≤ 17) ∧ 12 ≤ n ∧ n ≤ 17 ∧ n ≠ x.tag) ∨ (op = 3 ∧ (18 ≤ x.tag ∧ x.tag ≤ 19) ∧ 18 ≤ n ∧ n ≤ 19 ∧ n ≠ x.tag) ∨
 (op = 4 ∧ ((x.tag = 1 ∧ n ≠ x.n) ∨ (x.tag = 2 ∧ n = wrap64 (1 - x.n)))) ∨ (op = 5 ∧ (x.tag = 21 ∨ x.tag = 22 ∨ x.tag = 23 ∨ x.tag = 24 ∨ x.tag = 25) ∧ n = 0) ∨ (op = 6 ∧ (x.tag = 23 ∨ x.tag = 24) ∧ n = 0) ∨ (op = 7 ∧ x.tag = 25 ∧ (n = 0 ∨ n = 1)) := by
 unfold isC at h;by_cases d : op = 1
 · rw [if_pos d, decide_eq_true_eq] at h; exact .inl ⟨d, ⟨h.1, h.2.1⟩, h.2.2.1, h.2.2.2.1, h.2.2.2.2⟩
 rw [if_neg d] at h;by_cases e : op = 2
 · rw [if_pos e, decide_eq_true_eq] at h; exact .inr (.inl ⟨e, ⟨h.1, h.2.1⟩, h.2.2.1, h.2.2.2.1, h.2.2.2.2⟩)
 rw [if_neg e] at h;by_cases g : op = 3
 · rw [if_pos g, decide_eq_true_eq] at h; exact .inr (.inr (.inl ⟨g, ⟨h.1, h.2.1⟩, h.2.2.1, h.2.2.2.1, h.2.2.2.2⟩))
 rw [if_neg g] at h;by_cases i : op = 4
 · rw [if_pos i, decide_eq_true_eq] at h;refine .inr (.inr (.inr (.inl ⟨i, ?_⟩)));rcases h with ⟨b, _, c⟩ | ⟨b, c⟩
   · exact .inl ⟨b, c⟩
   · exact .inr ⟨b, c⟩
 rw [if_neg i] at h;by_cases j : op = 5
 · rw [if_pos j, decide_eq_true_eq] at h; exact .inr (.inr (.inr (.inr (.inl ⟨j, h.1, h.2⟩))))
 rw [if_neg j] at h;by_cases k : op = 6
 · rw [if_pos k, decide_eq_true_eq] at h; exact .inr (.inr (.inr (.inr (.inr (.inl ⟨k, h.1, h.2⟩)))))
 rw [if_neg k] at h;by_cases l : op = 7
 · rw [if_pos l, decide_eq_true_eq] at h; exact .inr (.inr (.inr (.inr (.inr (.inr ⟨l, h.1, h.2.1⟩)))))
 rw [if_neg l] at h;cases h
theorem AgU {V : List Int} {x : Nd} (h : x.tag = 21 ∨ x.tag = 22 ∨ x.tag = 23 ∨ x.tag = 24 ∨ x.tag = 25) (h2 : isZ V x ≠ -1) : isZ V x = 2 := by
 unfold isZ at h2 ⊢;rw [if_neg (by omega), if_neg (by omega), if_neg (by omega), if_neg (by omega), if_neg (by omega), if_neg (by omega), if_neg (by omega), if_neg (by omega)] at h2 ⊢;by_cases b : x.tag = 21
 · rw [if_pos b] at h2 ⊢;split at h2
   · rename_i d; rw [if_pos d]
   · exact absurd rfl h2
 · rw [if_neg b] at h2 ⊢;by_cases c : x.tag = 22
   · rw [if_pos c] at h2 ⊢;split at h2
     · rename_i d; rw [if_pos d]
     · exact absurd rfl h2
   · rw [if_neg c]
theorem AbR (V : List Int) {x : Nd} {n : Nat} (h : x.tag = 23 ∨ x.tag = 24) : ∃ r, QQ V x n = 1 :: r := by
 unfold QQ;rw [if_neg (by omega), if_neg (by omega), if_neg (by omega), if_neg (by omega), if_neg (by omega)];rcases h with h | h
 · rw [if_pos h]; exact ⟨_, rfl⟩
 · rw [if_neg (by omega), if_pos h]; exact ⟨_, rfl⟩
theorem Uu (V : List Int) {x : Nd} {n : Nat} (h : x.tag = 1 ∨ x.tag = 2 ∨ x.tag = 26) : QQ V x n = [] := by
 unfold QQ;rw [if_neg (by omega), if_neg (by omega), if_neg (by omega), if_neg (by omega), if_neg (by omega), if_neg (by omega), if_neg (by omega), if_pos (by omega)]
theorem Adw (V : List Int) {x : Nd} {n : Nat} (h : x.tag = 25) : QQ V x n = [0] := by
 unfold QQ; rw [if_pos (by omega)]
theorem AhN (V : List Int) {x : Nd} {n : Nat} (h : x.tag = 6) : QQ V x n = [1] := by
 unfold QQ; rw [if_neg (by omega), if_pos h]
theorem isZ_t {V : List Int} {x : Nd} : (x.tag = 1 → isZ V x = 0) ∧ (x.tag = 2 → isZ V x = 1) ∧ (x.tag = 6 → isZ V x = 1) ∧ (x.tag = 26 → isZ V x = 2) ∧ (7 ≤ x.tag ∧ x.tag ≤ 11 → isZ V x = 0) ∧ (12 ≤ x.tag ∧ x.tag ≤ 19 → isZ V x = 1) := by
 unfold isZ;refine ⟨fun h => ?_, fun h => ?_, fun h => ?_, fun h => ?_, fun h => ?_, fun h => ?_⟩
 · rw [if_pos h]
 · rw [if_neg (by omega), if_pos h]
 · rw [if_neg (by omega), if_neg (by omega), if_neg (by omega), if_neg (by omega), if_neg (by omega), if_pos h]
 · rw [if_neg (by omega), if_neg (by omega), if_neg (by omega), if_neg (by omega), if_neg (by omega), if_neg (by omega), if_neg (by omega), if_neg (by omega), if_neg (by omega), if_neg (by omega)]
 · rw [if_neg (by omega), if_neg (by omega), if_neg (by omega), if_neg (by omega), if_neg (by omega), if_neg (by omega), if_pos h]
 · rw [if_neg (by omega), if_neg (by omega), if_neg (by omega), if_neg (by omega), if_neg (by omega), if_neg (by omega), if_neg (by omega), if_pos h]
theorem XC (V : List Int) {x : Nd} {n : Nat} : (7 ≤ x.tag ∧ x.tag ≤ 17 → QQ V x n = [0, 0]) ∧ (18 ≤ x.tag ∧ x.tag ≤ 19 → QQ V x n = [1, 1]) := by
 unfold QQ;refine ⟨fun h => ?_, fun h => ?_⟩
 · rw [if_neg (by omega), if_neg (by omega), if_pos (by omega)]
 · rw [if_neg (by omega), if_neg (by omega), if_neg (by omega), if_pos (by omega)]
theorem VX {x : Nd} (h : ¬ x.tag = 23) (h2 : ¬ x.tag = 24) : Zz x = false := by unfold Zz; simp [h, h2]
theorem Aib {V : List Int} {k : Tr} {y : Nd} {op n : Int} (hk : k.fits) (ht : ofT V k ≠ -1) (hc : isC k.root y op n = true) (hn : k.root.tag = 2 → k.root.n = 0 ∨ k.root.n = 1) :
 (chT op n k).fits ∧ ofT V (chT op n k) = ofT V k ∧ Ae7 (chT op n k).root.tag k.root.tag := by
 obtain ⟨x, j⟩ := k;obtain ⟨h1, h2, i, m⟩ := KC ht;have o := hk.len;have b := hk.kids;have q : (Tr.node x j).root = x := rfl;rw [q] at hc hn
 have hb : ∀ t : Int, (7 ≤ x.tag ∧ x.tag ≤ 19) → 7 ≤ t ∧ t ≤ 19 → (QQ V x j.length = QQ V ⟨t, x.n⟩ j.length) → isZ V x = isZ V ⟨t, x.n⟩ → (Tr.node ⟨t, x.n⟩ j).fits ∧ ofT V (.node ⟨t, x.n⟩ j) = ofT V (.node x j) ∧ Ae7 t x.tag := by
  intro t w z g hi;have ac := Afq w (by omega);have h2 : Qs x = 2 := VB (t := x.tag) (n := x.n) (Abq w) (by omega) (by omega) (by omega);refine ⟨.mk _ _ ?_ b, ?_, .inr ⟨by omega, by omega⟩⟩
  · rw [VB (Abq z) (by omega) (by omega) (by omega), ← o, h2]
  · rw [ofT, ofT, ← g, ← hi, VX (x := ⟨t, x.n⟩) (by simp only; omega) (by simp only; omega), VX (x := x) (by omega) (by omega)]
 rcases UF hc with ⟨rfl, w, z, h8, _⟩ | ⟨rfl, w, z, h8, _⟩ | ⟨rfl, w, z, h8, _⟩ | ⟨rfl, h⟩ | ⟨rfl, h, rfl⟩ | ⟨rfl, h, rfl⟩ | ⟨rfl, h, _⟩
 · rw [chT, if_pos (by decide)];exact hb n (by omega) (by omega) (by rw [(XC V).1 (by omega), (XC V).1 (by simp only; omega)]) (by rw [isZ_t.2.2.2.2.1 (by omega), isZ_t.2.2.2.2.1 (by simp only; omega)])
 · rw [chT, if_pos (by decide)];exact hb n (by omega) (by omega) (by rw [(XC V).1 (by omega), (XC V).1 (by simp only; omega)]) (by rw [isZ_t.2.2.2.2.2 (by omega), isZ_t.2.2.2.2.2 (by simp only; omega)])
 · rw [chT, if_pos (by decide)];exact hb n (by omega) (by omega) (by rw [(XC V).2 (by omega), (XC V).2 (by simp only; omega)]) (by rw [isZ_t.2.2.2.2.2 (by omega), isZ_t.2.2.2.2.2 (by simp only; omega)])
 · rw [chT, if_neg (by decide), if_pos rfl];have g : QQ V x j.length = [] := Uu V (by omega);have aa : QQ V ⟨x.tag, n⟩ j.length = [] := Uu V (by simp only; omega);rw [g] at i;have u : j = [] := Lr (by simpa using i.symm);subst u;refine ⟨.mk _ _ ?_ b, ?_, .inl rfl⟩
   · rcases h with ⟨h, _⟩ | ⟨h, h5⟩
     · unfold Qs; rw [if_pos h]; rfl
     · have hl : Q0 ⟨x.tag, n⟩ = (1, 0) := by unfold Q0; rw [if_pos h]
       have ab : n = 0 ∨ n = 1 := by
        rw [h5]; unfold wrap64;rcases hn h with e | e <;> rw [e] <;> omega
       rw [VB hl (by omega) (by omega) (by omega)]; rfl
   · have hi : isZ V ⟨x.tag, n⟩ = isZ V x := by
      rcases h with ⟨h, _⟩ | ⟨h, _⟩
      · rw [(isZ_t (x := x)).1 h, (isZ_t (x := ⟨x.tag, n⟩)).1 h]
      · rw [(isZ_t (x := x)).2.1 h, (isZ_t (x := ⟨x.tag, n⟩)).2.1 h]
     rw [ofT, ofT, g, aa, hi];simp [Q1]
 · rw [chT, if_neg (by decide), if_neg (by decide), if_pos rfl];refine ⟨.mk _ _ (by decide) (fun k hk => by cases hk), ?_, .inr ⟨by show ¬ (26 : Int) = 20; decide, by show ¬ x.tag = 20; omega⟩⟩;rw [h1, AgU h h2, ofT, Uu V (by simp), isZ_t.2.2.2.1 rfl];simp [Q1]
 · rw [chT, if_neg (by decide), if_neg (by decide), if_neg (by decide), if_pos rfl];obtain ⟨ws, g⟩ := AbR V (n := j.length) h;rw [g] at i m
   match j, o, b, i, m, g with
   | [], _, _, i, _, _ => simp at i
   | c :: r, o, b, i, m, g =>
    have l : ofT V c = 1 := Xx m 0 c 1 rfl rfl;refine ⟨.mk _ _ o fun k hk => ?_, ?_, .inl rfl⟩
    · rcases Lt.1 hk with rfl | hk
      · exact .mk _ _ (show Qs ⟨6, 0⟩ = ((1 : Nat) : Int) by decide) fun k hk => by rw [Lv.1 hk]; exact b c (by simp)
      · exact b k (by simp [hk])
    · have v : ofT V (.node ⟨6, 0⟩ [c]) = 1 := by
       rw [ofT, AhN V rfl, isZ_t.2.2.1 rfl];simp [Q1, l, VX]
      rw [ofT, ofT, g];have hl : ((Tr.node ⟨6, 0⟩ [c]) :: r).length = (c :: r).length := rfl;rw [Ajs, hl, g]
      have p : Q1 V (Zz x) true ((Tr.node ⟨6, 0⟩ [c]) :: r) (1 :: ws) = Q1 V (Zz x) true (c :: r) (1 :: ws) := by
       rw [Q1, Q1, v, l]; simp
      rw [p]
 · rw [chT, if_neg (by decide), if_neg (by decide), if_neg (by decide), if_neg (by decide)];have g : QQ V x j.length = [0] := Adw V h;rw [g] at i m
   match j, o, b, i, m, g with
   | [], _, _, i, _, _ => simp at i
   | c :: d :: r, _, _, i, _, _ => simp at i
   | [c], o, b, i, m, g =>
    have l : ofT V c = 0 := Xx m 0 c 0 rfl rfl;refine ⟨.mk _ _ o fun k hk => ?_, ?_, .inl rfl⟩
    · rw [Lv.1 hk];exact .mk _ _ (by unfold Qs; rfl) fun k hk => by cases hk
    · have s : ofT V (.node ⟨1, n⟩ []) = 0 := by
       rw [ofT, Uu V (by simp), isZ_t.1 rfl];simp [Q1]
      rw [ofT, ofT];show (if isZ V x = -1 ∨ (QQ V x 1).length ≠ 1 then _ else _) = (if isZ V x = -1 ∨ (QQ V x 1).length ≠ 1 then _ else _)
      have p : Q1 V (Zz x) true [(Tr.node ⟨1, n⟩ [])] (QQ V x 1) = Q1 V (Zz x) true [c] (QQ V x 1) := by
       rw [show QQ V x 1 = [0] from g]; simp [Q1, s, l]
      rw [show QQ V x [Tr.node ⟨1, n⟩ []].length = QQ V x 1 from rfl, show QQ V x [c].length = QQ V x 1 from rfl, p]
theorem Ags {l a b : List Nd} {k : Tr} {op n : Int} {V : List Int} {y : Nd} (h : l = a ++ (k.flat ++ b)) (hk : k.fits) (ht : ofT V k ≠ -1) (hc : isC k.root y op n = true) : Ji l a.length k op n = a ++ ((chT op n k).flat ++ b) := by
 obtain ⟨x, e⟩ := k;obtain ⟨_, _, o, _⟩ := KC ht;have d : (Tr.node x e).root = x := rfl;rw [d] at hc;have g : l.take a.length = a := by rw [h]; simp
 have i : l.drop (a.length + 1) = QE e ++ b := by rw [h, Tr.flat]; simp
 have j : l.drop (a.length + (Tr.node x e).size) = b := by
  rw [h, ← Ly];exact List.drop_left' (by simp [Tr.size])
 have m : l.take (a.length + 1) = a ++ [x] := by
  rw [h, Tr.flat, show a ++ (x :: QE e ++ b) = (a ++ [x]) ++ (QE e ++ b) by simp];exact Nq (by simp)
 unfold Ji Vj VP;rw [d];rcases UF hc with ⟨rfl, _⟩ | ⟨rfl, _⟩ | ⟨rfl, _⟩ | ⟨rfl, h⟩ | ⟨rfl, h, rfl⟩ | ⟨rfl, h, rfl⟩ | ⟨rfl, h, _⟩
 · rw [chT, if_pos (by decide), if_pos (by decide), g, i, Tr.flat]; simp
 · rw [chT, if_pos (by decide), if_pos (by decide), g, i, Tr.flat]; simp
 · rw [chT, if_pos (by decide), if_pos (by decide), g, i, Tr.flat]; simp
 · rw [chT, if_neg (by decide), if_pos rfl, if_neg (by decide), if_pos rfl, g, i, Tr.flat]; simp
 · rw [chT, if_neg (by decide), if_neg (by decide), if_pos rfl, if_neg (by decide), if_neg (by decide), if_pos rfl, g, j, Tr.flat]; simp [QE]
 · rw [chT, if_neg (by decide), if_neg (by decide), if_neg (by decide), if_pos rfl, if_neg (by decide), if_neg (by decide), if_neg (by decide), if_pos rfl];simp only;rw [m, i, Tr.flat];obtain ⟨q, p⟩ := AbR V (n := e.length) h;rw [p] at o
   match e, o with
   | c :: r, _ => simp [Ajs, QE, Tr.flat]
 · rw [chT, if_neg (by decide), if_neg (by decide), if_neg (by decide), if_neg (by decide), if_neg (by decide), if_neg (by decide), if_neg (by decide), if_neg (by decide)];simp only;rw [m, j, Tr.flat]; simp [QE, Tr.flat]
theorem Ado {x : Nd} {ks : List Tr} (h : (Tr.node x ks).fits) (h2 : x.tag = 2) : x.n = 0 ∨ x.n = 1 := by
 have d := h.len;obtain ⟨a, b⟩ := x;simp only at h2;subst h2;by_cases e : b < 0 ∨ 1 < b
 · have c : Qs ⟨2, b⟩ = -1 := by
    unfold Qs;rw [if_neg (by simp), show Q0 ⟨2, b⟩ = (1, 0) from by unfold Q0; rw [if_pos rfl], if_pos e]
   rw [c] at d; omega
 · simp only; omega
theorem Good.typed {p : PgV} {t : Tr} (h : Good p t) : ofT p.V t ≠ -1 := by rw [h.kind]; decide
theorem Good.change {p : PgV} {t : Tr} (h : Good p t) {d : Dl} (hd : d ∈ ZS p.body t) : ∃ q k, ZG d.path 0 t = some (q, k) ∧ At p.body q k ∧ ofT p.V k ≠ -1 ∧ isC k.root (UI p.body (q + 1)) d.op d.n = true ∧ UI p.body q = k.root ∧
 ∀ m : PgV, m.params = p.params → m.V = p.V → m.body = Ji p.body q k d.op d.n → Good m (Xj (chT d.op d.n) d.path t) := by
 obtain ⟨q, k, g, hc⟩ := allZ_mem.1 hd;have hat := VT h.hat g
 have o : UI p.body q = k.root := by
  obtain ⟨r, u⟩ := hat.here
  have : p.body[q]? = some k.root := by
   have := congrArg (·[0]?) u;obtain ⟨x, ks⟩ := k;simpa [No, Tr.flat, Tr.root] using this
  unfold UI; rw [this]; rfl
 have i := VU h.hat.fits g;have j := UY h.typed g
 have w : k.root.tag = 2 → k.root.n = 0 ∨ k.root.n = 1 := by
  obtain ⟨x, ks⟩ := k;exact Ado i
 have e : isC k.root (UI p.body (q + 1)) d.op d.n = true := by
  have l : (d.op, d.n) ∈ Je (UI p.body q) (UI p.body (q + 1)) := hc;rw [o] at l;exact (Abe w).1 l
 refine ⟨q, k, g, hat, j, e, o, fun m m1 m2 m3 => ?_⟩;obtain ⟨c1, c2, c3⟩ := Aib i j e w;obtain ⟨k1, s⟩ := Aa2 g c2 c3;obtain ⟨a, b, f1, f2, f3⟩ := VV _ _ _ _ _ g
 have c : p.body = t.flat := by
  obtain ⟨r, u⟩ := h.hat.here;have y := congrArg List.length u;have hs := h.size;rw [Ld] at y;have : t.flat.length = p.body.length := hs;have v : r = [] := Lr (by simp at y; omega);subst v;simpa using u
 have hq : q = a.length := by omega
 subst hq
 have z : m.body = (Xj (chT d.op d.n) d.path t).flat := by
  rw [m3, f3, Ags (c.trans f1) i j e]
 refine ⟨⟨Aa1 h.hat.fits g (fun _ => c1), [], ?_⟩, ?_, ?_, ?_, ?_⟩
 · rw [z]; simp
 · rw [z]; rfl
 · rw [m1, m2]; exact h.vars
 · rcases s with s | ⟨_, s⟩
   · rw [s, h.tag]
   · exact absurd h.tag s
 · rw [m2, k1, h.kind]
end Go.Proofs.YtkoikjnlpifbjaaGreat
namespace Go.Proofs.YtkoikjnlpifbjaaGreat
open Go.RowKit Go.Deep
theorem EN : ∀ {l : List Nd} {q : Nat} (y : Nd), q < l.length → l.set q y = l.take q ++ y :: l.drop (q + 1)
 | [], _, _, h => by simp at h
 | x :: l, 0, y, _ => by simp
 | x :: l, q + 1, y, h => by
  rw [List.set_cons_succ, EN (l := l) y (by simpa using h)]
  simp
theorem AcK : ∀ ks : List Tr, ks.length ≤ (QE ks).length
 | [] => by simp
 | .node x js :: ts => by
  have := AcK ts
  rw [QE, Ld, Tr.flat, Lc, Lc]
  omega
def AdG (p : PgV) (w : World) : Prop := ∀ (q : Nat) (t : Tr) (W : World), Below w.heap.size w W → At p.body q t → (t.root.tag = 23 ∨ t.root.tag = 24) → q + 1 < p.body.length → Calls Tryz.prog 92 #[.agg (ZE p q 0)] W fun e w' => NdsR (p.body.take (q + 1) ++ (⟨6, 0⟩ :: p.body.drop (q + 1))) W w' e
theorem AfB {p : PgV} {t k : Tr} {π : List Int} {q : Nat} (h : Good p t) (hf : ZG π 0 t = some (q, k)) : KJ p.body π = (q : Int) := by
 unfold KJ;rw [if_pos h.whole.endZ];have := EV π 0 t h.hat;rw [hf] at this;exact this
theorem Aan (p : PgV) (t : Tr) (A : Option Addr) (cap : Nat) (d : Dl) (w : World) (hok : p.ok w) (hra : Rd w A (Qi d.path)) (hπ : d.path.length ≤ 1000000) (hbl : p.body.length ≤ 1000) (hg : Good p t) (hd : d ∈ ZS p.body t) (hneg : AdG p w) :
 ∃ q k, ZG d.path 0 t = some (q, k) ∧ (∀ m : PgV, m.params = p.params → m.V = p.V → m.body = Ji p.body q k d.op d.n → Good m (Xj (chT d.op d.n) d.path t)) ∧
  Calls Tryz.prog 56 #[.agg p.cells, .agg #[.slice A d.path.length cap, .int .i64 d.op, .int .i64 d.n]] w fun e w' => AplR p (Ji p.body q k d.op d.n) w w' e := by
 obtain ⟨q, k, hf, i, z, hc, _, hm⟩ := hg.change hd;refine ⟨q, k, hf, hm, ?_⟩;have l := AfB hg hf;have y : p.V.length ≤ 12 := hg.vars.2.2.1;have hq := i.lt;have hx := i.root;have hs := i.le;obtain ⟨π, op, n⟩ := d;dsimp only at hra hπ hf hc l ⊢;obtain ⟨x, o⟩ := k;have g : (Tr.node x o).root = x := rfl;rw [g] at hc hx;have j : ∀ c : Nat × Nd × Nat, 0 < (Vj p.body c).length := fun c => by unfold Vj; simp; omega
 have s : op ≤ 3 → Ji p.body q (.node x o) op n = p.body.set q ⟨n, x.n⟩ := fun h => by
  unfold Ji VP Vj;rw [g, if_pos h, EN _ hq]
 rcases UF hc with ⟨rfl, h1, v, u, _⟩ | ⟨rfl, h1, v, u, _⟩ | ⟨rfl, h1, v, u, _⟩ | ⟨rfl, h⟩ | ⟨rfl, h, rfl⟩ | ⟨rfl, h, rfl⟩ | ⟨rfl, h, v⟩
 · exact AdI 1 87 (by decide) rfl (enters_of Tryz.func87 (by kernel_rfl) rfl) p A cap π n q _ w hok hra hπ l hbl y (j _) fun W b => by rw [s (by decide)]; exact AdL p q n x W hx hbl (hok.go b) ⟨h1, v, u⟩
 · exact AdI 2 88 (by decide) rfl (enters_of Tryz.func88 (by kernel_rfl) rfl) p A cap π n q _ w hok hra hπ l hbl y (j _) fun W b => by rw [s (by decide)]; exact AgB p q n x W hx hbl (hok.go b) ⟨h1, v, u⟩
 · exact AdI 3 89 (by decide) rfl (enters_of Tryz.func89 (by kernel_rfl) rfl) p A cap π n q _ w hok hra hπ l hbl y (j _) fun W b => by rw [s (by decide)]; exact AdT p q n x W hx hbl (hok.go b) ⟨h1, v, u⟩
 · refine AdI 4 90 (by decide) rfl (enters_of Tryz.func90 (by kernel_rfl) rfl) p A cap π n q _ w hok hra hπ l hbl y (j _) fun W b => ?_
   have e : Ji p.body q (.node x o) 4 n = p.body.set q ⟨x.tag, n⟩ := by
    unfold Ji VP Vj;rw [g, if_neg (by decide), if_pos rfl, EN _ hq]
   rw [e];refine AdM p q n x W hx hbl (hok.go b) ?_;rcases h with ⟨h, _⟩ | ⟨h, h5⟩
   · exact .inl h
   · have v := Ado i.fits h;refine .inr ⟨h, ?_⟩;rw [h5];unfold wrap64;rcases v with e | e <;> rw [e] <;> omega
 · refine AdI 5 91 (by decide) rfl (enters_of Tryz.func91 (by kernel_rfl) rfl) p A cap π 0 q _ w hok hra hπ l hbl y (j _) fun W b => ?_
   have e : Ji p.body q (.node x o) 5 0 = p.body.take q ++ ([⟨26, 0⟩] ++ p.body.drop (q + (Tr.node x o).size)) := by
    unfold Ji VP Vj;rw [g, if_neg (by decide), if_neg (by decide), if_pos rfl];rfl
   rw [e];exact AgC p q (.node x o) W i hbl (hok.go b) h
 · refine AdI 6 92 (by decide) rfl (enters_of Tryz.func92 (by kernel_rfl) rfl) p A cap π 0 q _ w hok hra hπ l hbl y (j _) fun W b => ?_
   have e : Ji p.body q (.node x o) 6 0 = p.body.take (q + 1) ++ (⟨6, 0⟩ :: p.body.drop (q + 1)) := by
    unfold Ji VP Vj;rw [g, if_neg (by decide), if_neg (by decide), if_neg (by decide), if_pos rfl]
   rw [e];refine hneg q (.node x o) W b i h ?_;obtain ⟨_, _, u, _⟩ := KC z;obtain ⟨ws, hw⟩ := AbR p.V (n := o.length) h;rw [hw] at u;have h4 := AcK o;have h5 : (Tr.node x o).size = (QE o).length + 1 := by unfold Tr.size; rw [Tr.flat, Lc]
   simp only [Lc] at u;omega
 · refine AdI 7 93 (by decide) rfl (enters_of Tryz.func93 (by kernel_rfl) rfl) p A cap π n q _ w hok hra hπ l hbl y (j _) fun W b => ?_
   obtain ⟨_, _, u, _⟩ := KC z;rw [Adw p.V h] at u
   match o, u, i, hf, z with
   | [c], _, i, _, _ =>
    have ab : (Tr.node x [c]).size = 1 + c.size := by unfold Tr.size; rw [Tr.flat, Lc, QE, QE, LR]; omega
    have aa : At p.body (q + 1) c := by
     obtain ⟨r, hr⟩ := i.here;refine ⟨i.fits.kids c (by simp), r, ?_⟩;rw [← Na, hr, Tr.flat, QE, QE, LR];rfl
    have e : Ji p.body q (.node x [c]) 7 n = p.body.take (q + 1) ++ ([⟨1, n⟩] ++ p.body.drop (q + 1 + c.size)) := by
     unfold Ji VP Vj;rw [g, if_neg (by decide), if_neg (by decide), if_neg (by decide), if_neg (by decide), ab];simp only;rw [show q + (1 + c.size) = q + 1 + c.size by omega];rfl
    rw [e];exact Agv p q n (.node x [c]) c W i aa hbl (hok.go b) h
theorem Aej (p : PgV) (t : Tr) (x : DlV) (w : World) (hok : p.ok w) (hx : DlOk w x) (hbl : p.body.length ≤ 1000) (hg : Fine p t) (hd : x.d ∈ ZS p.body t) (hneg : ∀ W, p.ok W → AdG p W) :
 ∃ q k, ZG x.d.path 0 t = some (q, k) ∧ (∀ m : PgV, m.params = p.params → m.V = p.V → m.body = Ji p.body q k x.d.op x.d.n → Good m (Xj (chT x.d.op x.d.n) x.d.path t)) ∧
  Calls Tryz.prog 21 #[.agg p.cells, .agg x.cells] w fun e w' => AplR p (Ji p.body q k x.d.op x.d.n) w w' e := by
 obtain ⟨q, k, hf, hm, _⟩ := Aan p t x.A x.cap x.d w hok hx.1 hx.2 hbl hg.good hd (hneg w hok);refine ⟨q, k, hf, hm, ?_⟩;obtain ⟨bd, s⟩ : ∃ bd, bd = Ji p.body q k x.d.op x.d.n := ⟨_, rfl⟩;rw [← s]
 have HA : Hid (∀ W, Below w.heap.size w W → Calls Tryz.prog 56 #[.agg p.cells, .agg x.cells] W fun e w' => AplR p bd W w' e) := fun W b => by
  obtain ⟨q', k', j, _, h⟩ := Aan p t x.A x.cap x.d W (hok.go b) (hx.1.go b) hx.2 hbl hg.good hd (hneg W (hok.go b));rw [hf] at j;injection j with j;injection j with h1 h2;subst h1 h2;rw [s];exact h
 have HS : Hid (∀ W, Below w.heap.size w W → Calls Tryz.prog 15 #[.agg p.cells] W fun e w' => AllR p W w' e) := fun W b => XL p hbl W (hok.go b);have HX : Hid (∀ W, Below w.heap.size w W → DlOk W x) := fun W b => ⟨hx.1.go b, hx.2⟩;have Hd := Lh hd;have Hg := Lh hg;have Hc := Lh (checkP_ok.2 ⟨t, hg⟩);clear hok hx hbl hg hd hneg hf hm s;go_enter Tryz.func21, Tryz.ntmps21
 go_wp2_with (refine Qm _ _ rfl ?_)
 refine Stop.to ?_;refine Qe rfl 25 _ rfl p.cells rfl ?_;intro G Gw Gh Gr Gb;go_wp2_with (refine Qm _ _ rfl ?_)
 refine Stop.to ?_;refine Qe rfl 50 _ rfl x.cells rfl ?_;intro D Dw Dh Dr Db;go_wp2_with (first | fail | (refine QS _ rfl ?_))
 refine Stop.to ?_;refine Qk rfl 25 rfl _ _ XE rfl ?_;intro R Rw Rh Rr Rb;have b1 := (Below.refl w.heap.size w).trans (Gb.mono Gh);have b2 := b1.trans ((Db.mono Dh).mono b1.size);have b3 := b2.trans ((Rb.mono Rh).mono b2.size);have hR : w.heap.size ≤ R := Lf b2.size Rh;have rG := (Gr.below Db (Le Gr.lt Dh));have c := rG.below Rb (Le rG.lt Rh);have l := Dr.below Rb (Le Dr.lt Rh);have i : Row Rw R 25 #[.int .i64 0, .slice none 0 0, .slice none 0 0] := Rr;have H1 := Lh (HS.out _ b3);clear Gr Gb Gh Dr Db Dh Rb Rh rG b1 b2 Rr HS;go_wp2_with (refine wpList_load_row rfl 25 _ rfl G rfl 25 p.cells (0, 0) _ c Tryz.underlying25 rfl (by kernel_rfl) ?_)
 refine H1.out.mono ?_;rintro e w1 ⟨A, cap, xs, rfl, ad, aa, ac, hT, o, _, ab, b4⟩;rw [Hc.out];have g := o t Hg.out;have b5 := b3.trans (b4.mono b3.size);replace c := c.below b4 c.lt;replace l := l.below b4 l.lt;replace i := i.below b4 i.lt;have v := Lh (Acr A cap xs x w1 ad (by omega) (fun y hy => (hT y hy).ok) (HX.out _ b5) (by rw [g]; exact Aal _ _));have z : Hid (x.d ∈ xs.map DlV.d) := by show _ ∈ _; rw [g]; exact Hd.out
 clear H1 ad aa ac hT o g ab b4 b3;go_wp2_with (refine wpList_load_row rfl 50 _ rfl D rfl 50 x.cells (0, 0) _ l Tryz.underlying50 rfl (by kernel_rfl) ?_)
 refine v.out.mono ?_;rintro e w2 ⟨⟨r, rfl, hr⟩, b6⟩;have ae : ¬ (r < 0) := by have := hr.2 z.out; omega
 have u := b5.trans (b6.mono b5.size);replace c := c.below b6 c.lt;replace l := l.below b6 l.lt;replace i := i.below b6 i.lt;have H2 := Lh (HA.out _ u);clear v z hr b6 b5 HA HX;go_wp2_with (first | (refine wpList_load_row rfl 25 _ rfl G rfl 25 p.cells (0, 0) _ c Tryz.underlying25 rfl (by kernel_rfl) ?_) | (refine wpList_load_row rfl 50 _ rfl D rfl 50 x.cells (0, 0) _ l Tryz.underlying50 rfl (by kernel_rfl) ?_))
 refine H2.out.mono ?_;rintro e w3 ⟨m, rfl, hm, o1, o2, b8⟩;replace i := i.below b8 i.lt;have b9 := u.trans (b8.mono u.size);have p1 := QL o1 u.size;have p2 := QL o2 u.size;have Hm := Lh hm;clear H2 c l o1 o2 b8 u hm;go_wp2_with (refine Qv 25 _ _ rfl ?_)
 refine Stop.to ?_;refine Ql rfl 25 _ _ rfl R m.cells rfl rfl 25 _ i (by kernel_rfl) rfl (by simp [PgV.cells, Value.oneCell']) ?_;intro W9 r9 o9;have q1 := Qu p1 o9 (Qx p1 i (by decide));have q2 := Qu p2 o9 (Qx p2 i (by decide));have bE := Qn b9 o9 hR;clear p1 p2 b9 o9 i;go_wp2_with fail
 refine bodyPost_ret (QZ Tryz.results21 _ _ R 25 _ (0, 0) _ rfl r9 Tryz.underlying25 rfl (by kernel_rfl)) rfl ?_;exact ⟨m, rfl, Hm.out, q1, q2, bE⟩
end Go.Proofs.YtkoikjnlpifbjaaGreat
namespace Go.Proofs.YtkoikjnlpifbjaaGreat
open Go.RowKit
theorem Vq {w : World} {base n size : Nat} {e : TypeId} {v : Value} {xs : List Value} (h : w.ownsRow base e size v n xs) : ∃ A cap, v = .slice A n cap ∧ Rd w A xs ∧ n ≤ cap ∧ cap ≤ maxLen ∧ (A = none → cap = 0) ∧ ∀ ad, A = some ad → base ≤ ad.block := by
 have o : xs.length = n * size := h.1;rcases h.2 with ⟨rfl, d⟩ | ⟨g, cap, b, rfl, k, m, l, p, s, t⟩
 · have x : xs = [] := Lr (by rw [o, d, Nat.zero_mul]);subst x;exact ⟨none, 0, by rw [d], Rd.nil _ _, by omega, by unfold maxLen; omega, fun _ => rfl, fun ad e => by cases e⟩
 · refine ⟨some ⟨g, 0, none⟩, cap, rfl, fun j u c => ⟨_, rfl, ?_⟩, l, p, fun e => (by cases e), fun ad e => by cases e; exact k⟩;have q : Row w g e b := m
   exact q.from_ 0 (cs := xs) (fun j v c => by
    rw [LF, ← LX]
    have i : (b.toList.take (n * size))[j]? = some v := by rw [t]; exact c
    rw [LL (by have := (Lb.1 c).1; omega)] at i; exact i) j u c
end Go.Proofs.YtkoikjnlpifbjaaGreat
namespace Go.Proofs.YtkoikjnlpifbjaaGreat
open Go.RowKit Go.Deep
noncomputable def mutB (p : PgV) (d : Dl) : List Nd := open Classical in if h : ∃ b, ∃ t q k, Fine p t ∧ ZG d.path 0 t = some (q, k) ∧ b = Ji p.body q k d.op d.n then h.choose else []
theorem Abr {p : PgV} {d : Dl} {t k : Tr} {q : Nat} (hf : Fine p t) (h : ZG d.path 0 t = some (q, k)) : mutB p d = Ji p.body q k d.op d.n := by
 unfold mutB;have c : ∃ b, ∃ t q k, Fine p t ∧ ZG d.path 0 t = some (q, k) ∧ b = Ji p.body q k d.op d.n := ⟨_, t, q, k, hf, h, rfl⟩;rw [dif_pos c];obtain ⟨m, l, j, g, e, i⟩ := c.choose_spec;rw [i];obtain rfl := g.good.whole.uniq hf.good.whole;rw [h] at e;injection e with e;injection e with e1 e2;subst e1 e2;rfl
noncomputable def mutC (p : PgV) (d : Dl) : Int := open Classical in if QV p ≠ 0 then QV p else if ∃ t, Fine p t ∧ d ∈ ZS p.body t then 0 else 17
theorem Ag6 {p : PgV} {d : Dl} {t : Tr} (hf : Fine p t) (hd : d ∈ ZS p.body t) : mutC p d = 0 := by
 unfold mutC; rw [if_neg (by rw [checkP_ok.2 ⟨t, hf⟩]; simp), if_pos ⟨t, hf, hd⟩]
theorem AiA {p : PgV} {d : Dl} {t : Tr} (hf : Fine p t) (hd : d ∉ ZS p.body t) : mutC p d = 17 := by
 unfold mutC; rw [if_neg (by rw [checkP_ok.2 ⟨t, hf⟩]; simp), if_neg (fun ⟨u, h1, h2⟩ => hd (by rw [hf.good.whole.uniq h1.good.whole]; exact h2))]
theorem Ajr {p : PgV} {d : Dl} (h : QV p ≠ 0) : mutC p d = QV p := by unfold mutC; rw [if_pos h]
theorem AiB {p : PgV} {d : Dl} (h : mutC p d = 0) : ∃ t, Fine p t ∧ d ∈ ZS p.body t := by
 unfold mutC at h;split at h
 · rename_i b; exact absurd h b
 · split at h
   · assumption
   · cases h
structure IsMut (p : PgV) (d : Dl) (m : PgV) : Prop where
 par : m.params = p.params
 vars : m.V = p.V
 body : m.body = mutB p d
theorem Ag7 {p m : PgV} {d : Dl} (h : IsMut p d m) (hc : mutC p d = 0) : ∃ t, Good m t := by
 obtain ⟨t, b, g⟩ := AiB hc;obtain ⟨q, k, c, _, _, _, _, e⟩ := b.good.change g;exact ⟨_, e m h.par h.vars (h.body.trans (Abr b c))⟩
theorem Ajo {x y : Nd} {op n : Int} (h : isC x y op n = true) : InI n := by
 unfold isC at h;have b : ∀ a : Int, InI (wrap64 a) := fun a => by unfold wrap64 InI; omega
 by_cases c : op = 1
 · rw [if_pos c, decide_eq_true_eq] at h; unfold InI; omega
 rw [if_neg c] at h;by_cases d : op = 2
 · rw [if_pos d, decide_eq_true_eq] at h; unfold InI; omega
 rw [if_neg d] at h;by_cases e : op = 3
 · rw [if_pos e, decide_eq_true_eq] at h; unfold InI; omega
 rw [if_neg e] at h;by_cases g : op = 4
 · rw [if_pos g, decide_eq_true_eq] at h;rcases h with ⟨_, h | h | h | h | h, _⟩ | ⟨_, h⟩
   · unfold InI; omega
   · unfold InI; omega
   · unfold InI; omega
   · rw [h]; exact b _
   · rw [h]; exact b _
   · rw [h]; exact b _
 rw [if_neg g] at h;by_cases i : op = 5
 · rw [if_pos i, decide_eq_true_eq] at h; unfold InI; omega
 rw [if_neg i] at h;by_cases j : op = 6
 · rw [if_pos j, decide_eq_true_eq] at h; unfold InI; omega
 rw [if_neg j] at h;by_cases k : op = 7
 · rw [if_pos k, decide_eq_true_eq] at h; unfold InI; omega
 rw [if_neg k] at h;cases h
theorem Ahr {l : List Nd} {c : Nat × Nd × Nat} {y : Nd} (h : y ∈ Vj l c) : y ∈ l ∨ y = c.2.1 := by
 unfold Vj at h;rcases L2.1 h with h | h
 · exact .inl (List.mem_of_mem_take h)
 · rcases Lt.1 h with h | h
   · exact .inr h
   · exact .inl (List.mem_of_mem_drop h)
theorem Agt {p : PgV} {t : Tr} {d : Dl} {q : Nat} {k : Tr} (hg : Good p t) (hd : d ∈ ZS p.body t) (hf : ZG d.path 0 t = some (q, k)) (hin : ∀ x ∈ p.body, InI x.tag ∧ InI x.n) : (∀ x ∈ Ji p.body q k d.op d.n, InI x.tag ∧ InI x.n) ∧ (Ji p.body q k d.op d.n).length ≤ p.body.length + 1 := by
 obtain ⟨v, u, e, i, _, l, _, _⟩ := hg.change hd;rw [hf] at e;injection e with e;injection e with e1 e2;subst e1 e2;have g := Ajo l;have s := k.size_eq;have m := i.le;have j := hin _ (Lg i.root);have c : InI 0 ∧ InI 1 ∧ InI 6 ∧ InI 26 := by unfold InI; omega
 have b : InI (VP k.root q k.size d.op d.n).2.1.tag ∧ InI (VP k.root q k.size d.op d.n).2.1.n := by
  unfold VP;split
  · exact ⟨g, j.2⟩
  · split
    · exact ⟨j.1, g⟩
    · split
      · exact ⟨c.2.2.2, c.1⟩
      · split
        · exact ⟨c.2.2.1, c.1⟩
        · exact ⟨c.2.1, g⟩
 constructor
 · intro x o;rcases Ahr o with h | h
   · exact hin x h
   · rw [h]; exact b
 · unfold Ji Vj;rw [Ld, Lc, L0, LK];unfold VP;split
   · simp only; omega
   · split
     · simp only; omega
     · split
       · simp only; omega
       · split <;> (simp only; omega)
theorem Aek (p : PgV) (hbl : p.body.length ≤ 1000) (W : World) (hok : p.ok W) : AdG p W := fun q t W2 b hat h hq => Agz p q t W2 hat hbl (hok.go b) h hq
theorem AplR.okm {p : PgV} {bd : List Nd} {w w' : World} {e : Ending} (h : AplR p bd w w' e) (hok : p.ok w) (hin : ∀ x ∈ bd, InI x.tag ∧ InI x.n) : ∃ m : PgV, e = .returned (.tuple #[.agg m.cells, .int .i64 0]) ∧ (m.params = p.params ∧ m.V = p.V ∧ m.body = bd) ∧ m.ok w' ∧ (∀ ad, m.va = some ad ∨ m.ba = some ad → w.heap.size ≤ ad.block) ∧ Below w.heap.size w w' := by
 obtain ⟨m, h1, b, s, t, h5⟩ := h;refine ⟨m, h1, b, ?_, ?_, h5⟩;rotate_left
 · obtain ⟨A, c, i, _, _, _, _, y⟩ := Vq s;obtain ⟨B, c2, j, _, _, _, _, z⟩ := Vq t;injection i with x1 _ _;injection j with y1 _ _;intro ad h;rcases h with h | h
   · exact y ad (x1 ▸ h)
   · exact z ad (y1 ▸ h)
 obtain ⟨A, c, i, u, k, l, d, _⟩ := Vq s;obtain ⟨B, c2, j, v, o, q, g, _⟩ := Vq t;injection i with x1 _ x3;injection j with y1 _ y3;rw [← x1] at u d;rw [← y1] at v g;rw [← x3] at k l d;rw [← y3] at o q g;exact ⟨by rw [b.1]; exact hok.par, k, l, d, u, by rw [b.2.1]; exact hok.vin, o, q, g, v, by rw [b.2.2]; exact hin⟩
end Go.Proofs.YtkoikjnlpifbjaaGreat
