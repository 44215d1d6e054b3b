/- Lemmas for VerdictTellsP. -/
import Derived.Test.YtdcmppdhdcjpfaaGreatZz3
import Derived.Test.YtdcmppdhdcjpfaaGreatZz12
import Derived.Test.YtdcmppdhdcjpfaaGreatZz23
import Derived.Test.YtdcmppdhdcjpfaaGreatZz17
import Derived.Test.YtdcmppdhdcjpfaaGreatZz1
set_option linter.unusedVariables false
set_option linter.unusedSimpArgs false
set_option maxRecDepth 100000
set_option maxHeartbeats 16000000
namespace Go.Proofs.YtdcmppdhdcjpfaaGreat
open Go.RowKit
def Eg (x : Nd) (q s : Nat) (op n : Int) : Nat × Nd × Nat :=
 if op ≤ 3 then (q, ⟨n, x.n⟩, q + 1) else if op = 4 then (q, ⟨x.tag, n⟩, q + 1) else if op = 5 then (q, ⟨26, 0⟩, q + s) else if op = 6 then (q + 1, ⟨6, 0⟩, q + 1) else (q + 1, ⟨1, n⟩, q + s)
def Vr (l : List Nd) (c : Nat × Nd × Nat) : List Nd := l.take c.1 ++ (c.2.1 :: l.drop c.2.2)
def Jm (l : List Nd) (q : Nat) (k : Tr) (op n : Int) : List Nd := Vr l (Eg k.root q k.size op n)
def Ajf : List Tr → List Tr
 | [] => []
 | c :: r => .node ⟨6, 0⟩ [c] :: r
def chT (op n : Int) : Tr → Tr
 | .node x ks => if op ≤ 3 then .node ⟨n, x.n⟩ ks else if op = 4 then .node ⟨x.tag, n⟩ ks else if op = 5 then .node ⟨26, 0⟩ [] else
  if op = 6 then .node x (Ajf ks) else .node x [.node ⟨1, n⟩ []]
mutual
def XD (f : Tr → Tr) : List Int → Tr → Tr
 | [], t => f t
 | i :: π, .node x ks => .node x (X8 f π i.toNat ks)
def X8 (f : Tr → Tr) (π : List Int) : Nat → List Tr → List Tr
 | _, [] => []
 | 0, t :: ts => XD f π t :: ts
 | i + 1, t :: ts => t :: X8 f π i ts
end
theorem Aaf (f : Tr → Tr) (π : List Int) : ∀ (i : Nat) (ks : List Tr), (X8 f π i ks).length = ks.length
 | _, [] => by simp [X8]
 | 0, t :: ts => by simp [X8]
 | i + 1, t :: ts => by simp [X8, Aaf f π i ts]
theorem Abf : ∀ (ts : List Tr) (p i : Nat) (r : Nat) (k : Tr), (Q5 p ts)[i]? = some r → ts[i]? = some k → ∃ a b : List Nd, QI ts = a ++ (k.flat ++ b) ∧ r = p + a.length ∧ ∀ (f : Tr → Tr) (π : List Int), QI (X8 f π i ts) = a ++ ((XD f π k).flat ++ b)
 | [], _, _, _, _, h, _ => by simp [Q5] at h
 | t :: ts, p, 0, r, k, h1, h2 => by
  simp [Q5] at h1 h2
  subst h1 h2
  exact ⟨[], QI ts, by simp [QI], by simp, fun f π => by simp [X8, QI]⟩
 | t :: ts, p, i + 1, r, k, h1, h2 => by
  simp [Q5] at h1 h2
  obtain ⟨a, b, e1, e2, e3⟩ := Abf ts (p + t.size) i r k h1 h2
  refine ⟨t.flat ++ a, b, by rw [QI, e1, Lx], by rw [e2, Le]; show p + t.flat.length + a.length = _; omega, fun f π => ?_⟩
  rw [X8, QI, e3, Lx]
theorem Eo : ∀ (π : List Int) (q r : Nat) (t k : Tr), ZB π q t = some (r, k) → ∃ a b : List Nd, t.flat = a ++ (k.flat ++ b) ∧ r = q + a.length ∧ ∀ f : Tr → Tr, (XD f π t).flat = a ++ ((f k).flat ++ b)
 | [], q, r, t, k, h => by
  simp [ZB] at h
  obtain ⟨rfl, rfl⟩ := h
  exact ⟨[], [], by simp, by simp, fun f => by simp [XD]⟩
 | i :: π, q, r, .node x ks, k, h => by
  rw [ZB] at h
  split at h
  · cases h
  · split at h
    · rename_i s u h1 h2
      obtain ⟨a, b, e1, e2, e3⟩ := Abf ks (q + 1) i.toNat s u h1 h2
      obtain ⟨a2, b2, g1, g2, g3⟩ := Eo π s r u k h
      refine ⟨x :: (a ++ a2), b2 ++ b, by rw [Tr.flat, e1, g1]; simp, by rw [g2, e2]; simp; omega, fun f => ?_⟩
      rw [XD, Tr.flat, e3, g3]
      simp
    · cases h
theorem XW {π : List Int} {i : Int} {q r : Nat} {x : Nd} {ks : List Tr} {k : Tr} (h : ZB (i :: π) q (.node x ks) = some (r, k)) : ∃ s u, (Q5 (q + 1) ks)[i.toNat]? = some s ∧ ks[i.toNat]? = some u ∧ ZB π s u = some (r, k) := by
 rw [ZB] at h;split at h
 · cases h
 · split at h
   · rename_i s u b c; exact ⟨s, u, b, c, h⟩
   · cases h
theorem Adp (f : Tr → Tr) (π : List Int) : ∀ (ks : List Tr) (i j : Nat) (u : Tr), ks[i]? = some u → (X8 f π i ks)[j]? = if j = i then some (XD f π u) else ks[j]?
 | [], i, _, _, h => by simp at h
 | t :: ts, 0, j, u, h => by
  simp at h; subst h
  cases j with
  | zero => simp [X8]
  | succ j => simp [X8]
 | t :: ts, i + 1, j, u, h => by
  simp at h
  cases j with
  | zero => simp [X8]
  | succ j => simp [X8, Adp f π ts i j u h]
theorem Abd {f : Tr → Tr} : ∀ {π : List Int} {q r : Nat} {t k : Tr}, t.fits → ZB π q t = some (r, k) → (k.fits → (f k).fits) → (XD f π t).fits
 | [], q, r, t, k, ht, h, hf => by
  simp [ZB] at h
  obtain ⟨_, rfl⟩ := h
  rw [XD]; exact hf ht
 | i :: π, q, r, .node x ks, k, ht, h, hf => by
  obtain ⟨s, u, h1, h2, h3⟩ := XW h
  cases ht with
  | mk _ _ ha hk =>
   rw [XD]
   refine .mk _ _ (by rw [Aaf]; exact ha) fun c hc => ?_
   obtain ⟨j, hj⟩ := List.mem_iff_getElem?.1 hc
   rw [Adp f π ks i.toNat j u h2] at hj
   split at hj
   · injection hj with hj
     subst hj
     exact Abd (hk u (Lf h2)) h3 hf
   · exact hk c (Lf hj)
theorem En : ∀ {π : List Int} {q r : Nat} {t k : Tr}, t.fits → ZB π q t = some (r, k) → k.fits
 | [], q, r, t, k, ht, h => by simp [ZB] at h; obtain ⟨_, rfl⟩ := h; exact ht
 | i :: π, q, r, .node x ks, k, ht, h => by
  obtain ⟨s, u, h1, h2, h3⟩ := XW h
  cases ht with
  | mk _ _ ha hk => exact En (hk u (Lf h2)) h3
theorem EH {V : List Int} {inn : Bool} {f : Tr → Tr} {π : List Int} : ∀ (ts : List Tr) (ws : List Int) (b : Bool) (i : Nat) (u : Tr), ts[i]? = some u → ofT V (XD f π u) = ofT V u → (XD f π u).root.tag = u.root.tag ∨ (¬ (XD f π u).root.tag = 20 ∧ ¬ u.root.tag = 20) → Q4 V inn b (X8 f π i ts) ws = Q4 V inn b ts ws
 | [], _, _, i, u, h, _, _ => by simp at h
 | t :: ts, [], b, i, u, h, _, _ => by
  cases i <;> simp [X8, Q4]
 | t :: ts, w :: ws, b, 0, u, h, h1, h2 => by
  simp at h; subst h
  have e : ((XD f π t).root.tag == 20) = (t.root.tag == 20) := by
   rcases h2 with h2 | ⟨h2, c⟩
   · rw [h2]
   · rw [LL, beq_iff_eq, beq_iff_eq];exact ⟨fun h => absurd h h2, fun h => absurd h c⟩
  rw [X8, Q4, Q4, h1, e]
 | t :: ts, w :: ws, b, i + 1, u, h, h1, h2 => by
  simp at h
  rw [X8, Q4, Q4, EH ts ws false i u h h1 h2]
theorem AiL {V : List Int} {x : Nd} {n : Nat} (hx : isZ V x ≠ -1) (h : (-1 : Int) ∈ QQ V x n) : False := by
 unfold QQ at h
 repeat' split at h
 all_goals (try (simp at h; done))
 · rename_i _ _ _ _ c
   have b : Jc V x.n = true := by
    by_cases b : Jc V x.n = true
    · exact b
    · exfalso;apply hx;unfold isZ;rw [if_neg (by omega), if_neg (by omega), if_neg (by omega), if_neg (by omega), if_neg (by omega), if_neg (by omega), if_neg (by omega), if_neg (by omega), if_pos c, if_neg b]
   obtain ⟨t, e, d⟩ := Xe b;rw [e] at h;simp at h;omega
theorem Vc {V : List Int} : ∀ {π : List Int} {q r : Nat} {t k : Tr}, ofT V t ≠ -1 → ZB π q t = some (r, k) → ofT V k ≠ -1
 | [], q, r, t, k, ht, h => by simp [ZB] at h; obtain ⟨_, rfl⟩ := h; exact ht
 | i :: π, q, r, .node x ks, k, ht, h => by
  obtain ⟨s, u, h1, h2, h3⟩ := XW h
  obtain ⟨_, g2, g3, g4⟩ := KS ht
  have hl : i.toNat < (QQ V x ks.length).length := by rw [g3]; exact (Lb.1 h2).1
  have := XN g4 i.toNat u _ h2 (La hl)
  refine Vc (t := u) ?_ h3
  rw [this]
  intro e
  have hm : (-1 : Int) ∈ QQ V x ks.length := by rw [← e]; exact List.getElem_mem hl
  exact AiL g2 hm
def Afg (a b : Int) : Prop := a = b ∨ (¬ a = 20 ∧ ¬ b = 20)
theorem Abe {V : List Int} {f : Tr → Tr} : ∀ {π : List Int} {q r : Nat} {t k : Tr}, ZB π q t = some (r, k) → ofT V (f k) = ofT V k → Afg (f k).root.tag k.root.tag → ofT V (XD f π t) = ofT V t ∧ Afg (XD f π t).root.tag t.root.tag
 | [], q, r, t, k, h, h1, h2 => by simp [ZB] at h; obtain ⟨_, rfl⟩ := h; rw [XD]; exact ⟨h1, h2⟩
 | i :: π, q, r, .node x ks, k, h, h1, h2 => by
  obtain ⟨s, u, g1, g2, g3⟩ := XW h
  obtain ⟨e1, e2⟩ := Abe g3 h1 h2
  rw [XD]
  refine ⟨?_, .inl rfl⟩
  rw [ofT, ofT, Aaf, EH ks _ _ i.toNat u g2 e1 e2]
theorem Tr.fits.len {x : Nd} {ks : List Tr} (h : (Tr.node x ks).fits) : Qq x = (ks.length : Int) := by cases h; assumption
theorem Tr.fits.kids {x : Nd} {ks : List Tr} (h : (Tr.node x ks).fits) : ∀ k ∈ ks, k.fits := by cases h; assumption
theorem VL {t n m a : Int} (h : Q2 ⟨t, n⟩ = (m, a)) (ht : ¬ t = 1) (h0 : 0 ≤ n) (h1 : n ≤ m) : Qq ⟨t, n⟩ = a := by
 unfold Qq;rw [if_neg ht, h, if_neg (by simp only; omega)]
theorem AbF {t n : Int} (h : 7 ≤ t ∧ t ≤ 19) : Q2 ⟨t, n⟩ = (0, 2) := by
 unfold Q2;simp only;rw [if_neg (by omega), if_neg (by omega), if_neg (by omega), if_neg (by omega), if_neg (by omega), if_neg (by omega), if_neg (by omega), if_neg (by omega), if_neg (by omega), if_pos h]
theorem Afz {x : Nd} (h : 7 ≤ x.tag ∧ x.tag ≤ 19) (ha : Qq x ≠ -1) : x.n = 0 := by
 unfold Qq at ha;rw [if_neg (by omega), show Q2 x = (0, 2) from AbF (t := x.tag) (n := x.n) h] at ha;by_cases b : x.n < 0 ∨ 0 < x.n
 · rw [if_pos b] at ha; exact absurd rfl ha
 · omega
theorem UQ {x y : Nd} {op n : Int} (h : isC x y op n = true) :
 (op = 1 ∧ (7 ≤ x.tag ∧ x.tag ≤ 11) ∧ 7 ≤ n ∧ n ≤ 11 ∧ n ≠ x.tag) ∨ (op = 2 ∧ (12 ≤ x.tag ∧ x.tag ≤ 17) ∧ 12 ≤ n ∧ n ≤ 17 ∧ n ≠ x.tag) ∨ (op = 3 ∧ (18 ≤ x.tag ∧ x.tag ≤ 19) ∧ 18 ≤ n ∧ n ≤ 19 ∧ n ≠ x.tag) ∨
 (op = 4 ∧ ((x.tag = 1 ∧ n ≠ x.n) ∨ (x.tag = 2 ∧ n = wrap64 (1 - x.n)))) ∨ (op = 5 ∧ (x.tag = 21 ∨ x.tag = 22 ∨ x.tag = 23 ∨ x.tag = 24 ∨ x.tag = 25) ∧ n = 0) ∨ (op = 6 ∧ (x.tag = 23 ∨ x.tag = 24) ∧ n = 0) ∨ (op = 7 ∧ x.tag = 25 ∧ (n = 0 ∨ n = 1)) := by
 unfold isC at h;by_cases d : op = 1
 · rw [if_pos d, decide_eq_true_eq] at h; exact .inl ⟨d, ⟨h.1, h.2.1⟩, h.2.2.1, h.2.2.2.1, h.2.2.2.2⟩
 rw [if_neg d] at h;by_cases e : op = 2
 · rw [if_pos e, decide_eq_true_eq] at h; exact .inr (.inl ⟨e, ⟨h.1, h.2.1⟩, h.2.2.1, h.2.2.2.1, h.2.2.2.2⟩)
 rw [if_neg e] at h;by_cases g : op = 3
 · rw [if_pos g, decide_eq_true_eq] at h; exact .inr (.inr (.inl ⟨g, ⟨h.1, h.2.1⟩, h.2.2.1, h.2.2.2.1, h.2.2.2.2⟩))
 rw [if_neg g] at h;by_cases i : op = 4
 · rw [if_pos i, decide_eq_true_eq] at h;refine .inr (.inr (.inr (.inl ⟨i, ?_⟩)));rcases h with ⟨b, _, c⟩ | ⟨b, c⟩
   · exact .inl ⟨b, c⟩
   · exact .inr ⟨b, c⟩
 rw [if_neg i] at h;by_cases j : op = 5
 · rw [if_pos j, decide_eq_true_eq] at h; exact .inr (.inr (.inr (.inr (.inl ⟨j, h.1, h.2⟩))))
 rw [if_neg j] at h;by_cases k : op = 6
 · rw [if_pos k, decide_eq_true_eq] at h; exact .inr (.inr (.inr (.inr (.inr (.inl ⟨k, h.1, h.2⟩)))))
 rw [if_neg k] at h;by_cases l : op = 7
 · rw [if_pos l, decide_eq_true_eq] at h; exact .inr (.inr (.inr (.inr (.inr (.inr ⟨l, h.1, h.2.1⟩)))))
 rw [if_neg l] at h;cases h
theorem AgX {V : List Int} {x : Nd} (h : x.tag = 21 ∨ x.tag = 22 ∨ x.tag = 23 ∨ x.tag = 24 ∨ x.tag = 25) (h2 : isZ V x ≠ -1) : isZ V x = 2 := by
 unfold isZ at h2 ⊢;rw [if_neg (by omega), if_neg (by omega), if_neg (by omega), if_neg (by omega), if_neg (by omega), if_neg (by omega), if_neg (by omega), if_neg (by omega)] at h2 ⊢;by_cases b : x.tag = 21
 · rw [if_pos b] at h2 ⊢;split at h2
   · rename_i d; rw [if_pos d]
   · exact absurd rfl h2
 · rw [if_neg b] at h2 ⊢;by_cases c : x.tag = 22
   · rw [if_pos c] at h2 ⊢;split at h2
     · rename_i d; rw [if_pos d]
     · exact absurd rfl h2
   · rw [if_neg c]
theorem Ab7 (V : List Int) {x : Nd} {n : Nat} (h : x.tag = 23 ∨ x.tag = 24) : ∃ r, QQ V x n = 1 :: r := by
 unfold QQ;rw [if_neg (by omega), if_neg (by omega), if_neg (by omega), if_neg (by omega), if_neg (by omega)];rcases h with h | h
 · rw [if_pos h]; exact ⟨_, rfl⟩
 · rw [if_neg (by omega), if_pos h]; exact ⟨_, rfl⟩
theorem UB (V : List Int) {x : Nd} {n : Nat} (h : x.tag = 1 ∨ x.tag = 2 ∨ x.tag = 26) : QQ V x n = [] := by
 unfold QQ;rw [if_neg (by omega), if_neg (by omega), if_neg (by omega), if_neg (by omega), if_neg (by omega), if_neg (by omega), if_neg (by omega), if_pos (by omega)]
theorem AdH (V : List Int) {x : Nd} {n : Nat} (h : x.tag = 25) : QQ V x n = [0] := by
 unfold QQ; rw [if_pos (by omega)]
theorem AhE (V : List Int) {x : Nd} {n : Nat} (h : x.tag = 6) : QQ V x n = [1] := by
 unfold QQ; rw [if_neg (by omega), if_pos h]
theorem isZ_t {V : List Int} {x : Nd} : (x.tag = 1 → isZ V x = 0) ∧ (x.tag = 2 → isZ V x = 1) ∧ (x.tag = 6 → isZ V x = 1) ∧ (x.tag = 26 → isZ V x = 2) ∧ (7 ≤ x.tag ∧ x.tag ≤ 11 → isZ V x = 0) ∧ (12 ≤ x.tag ∧ x.tag ≤ 19 → isZ V x = 1) := by
 unfold isZ;refine ⟨fun h => ?_, fun h => ?_, fun h => ?_, fun h => ?_, fun h => ?_, fun h => ?_⟩
 · rw [if_pos h]
 · rw [if_neg (by omega), if_pos h]
 · rw [if_neg (by omega), if_neg (by omega), if_neg (by omega), if_neg (by omega), if_neg (by omega), if_pos h]
 · rw [if_neg (by omega), if_neg (by omega), if_neg (by omega), if_neg (by omega), if_neg (by omega), if_neg (by omega), if_neg (by omega), if_neg (by omega), if_neg (by omega), if_neg (by omega)]
 · rw [if_neg (by omega), if_neg (by omega), if_neg (by omega), if_neg (by omega), if_neg (by omega), if_neg (by omega), if_pos h]
 · rw [if_neg (by omega), if_neg (by omega), if_neg (by omega), if_neg (by omega), if_neg (by omega), if_neg (by omega), if_neg (by omega), if_pos h]
theorem XT (V : List Int) {x : Nd} {n : Nat} : (7 ≤ x.tag ∧ x.tag ≤ 17 → QQ V x n = [0, 0]) ∧ (18 ≤ x.tag ∧ x.tag ≤ 19 → QQ V x n = [1, 1]) := by
 unfold QQ;refine ⟨fun h => ?_, fun h => ?_⟩
 · rw [if_neg (by omega), if_neg (by omega), if_pos (by omega)]
 · rw [if_neg (by omega), if_neg (by omega), if_neg (by omega), if_pos (by omega)]
theorem Es {x : Nd} (h : ¬ x.tag = 23) (h2 : ¬ x.tag = 24) : Zq x = false := by unfold Zq; simp [h, h2]
theorem AhX {V : List Int} {k : Tr} {y : Nd} {op n : Int} (hk : k.fits) (ht : ofT V k ≠ -1) (hc : isC k.root y op n = true) (hn : k.root.tag = 2 → k.root.n = 0 ∨ k.root.n = 1) :
 (chT op n k).fits ∧ ofT V (chT op n k) = ofT V k ∧ Afg (chT op n k).root.tag k.root.tag := by
 obtain ⟨x, j⟩ := k;obtain ⟨h1, h2, i, m⟩ := KS ht;have o := hk.len;have b := hk.kids;have q : (Tr.node x j).root = x := rfl;rw [q] at hc hn
 have hb : ∀ t : Int, (7 ≤ x.tag ∧ x.tag ≤ 19) → 7 ≤ t ∧ t ≤ 19 → (QQ V x j.length = QQ V ⟨t, x.n⟩ j.length) → isZ V x = isZ V ⟨t, x.n⟩ → (Tr.node ⟨t, x.n⟩ j).fits ∧ ofT V (.node ⟨t, x.n⟩ j) = ofT V (.node x j) ∧ Afg t x.tag := by
  intro t w z g hi;have ac := Afz w (by omega);have h2 : Qq x = 2 := VL (t := x.tag) (n := x.n) (AbF w) (by omega) (by omega) (by omega);refine ⟨.mk _ _ ?_ b, ?_, .inr ⟨by omega, by omega⟩⟩
  · rw [VL (AbF z) (by omega) (by omega) (by omega), ← o, h2]
  · rw [ofT, ofT, ← g, ← hi, Es (x := ⟨t, x.n⟩) (by simp only; omega) (by simp only; omega), Es (x := x) (by omega) (by omega)]
 rcases UQ hc with ⟨rfl, w, z, h8, _⟩ | ⟨rfl, w, z, h8, _⟩ | ⟨rfl, w, z, h8, _⟩ | ⟨rfl, h⟩ | ⟨rfl, h, rfl⟩ | ⟨rfl, h, rfl⟩ | ⟨rfl, h, _⟩
 · rw [chT, if_pos (by decide)];exact hb n (by omega) (by omega) (by rw [(XT V).1 (by omega), (XT V).1 (by simp only; omega)]) (by rw [isZ_t.2.2.2.2.1 (by omega), isZ_t.2.2.2.2.1 (by simp only; omega)])
 · rw [chT, if_pos (by decide)];exact hb n (by omega) (by omega) (by rw [(XT V).1 (by omega), (XT V).1 (by simp only; omega)]) (by rw [isZ_t.2.2.2.2.2 (by omega), isZ_t.2.2.2.2.2 (by simp only; omega)])
 · rw [chT, if_pos (by decide)];exact hb n (by omega) (by omega) (by rw [(XT V).2 (by omega), (XT V).2 (by simp only; omega)]) (by rw [isZ_t.2.2.2.2.2 (by omega), isZ_t.2.2.2.2.2 (by simp only; omega)])
 · rw [chT, if_neg (by decide), if_pos rfl];have g : QQ V x j.length = [] := UB V (by omega);have aa : QQ V ⟨x.tag, n⟩ j.length = [] := UB V (by simp only; omega);rw [g] at i;have u : j = [] := Lt (by simpa using i.symm);subst u;refine ⟨.mk _ _ ?_ b, ?_, .inl rfl⟩
   · rcases h with ⟨h, _⟩ | ⟨h, h5⟩
     · unfold Qq; rw [if_pos h]; rfl
     · have hl : Q2 ⟨x.tag, n⟩ = (1, 0) := by unfold Q2; rw [if_pos h]
       have ab : n = 0 ∨ n = 1 := by
        rw [h5]; unfold wrap64;rcases hn h with e | e <;> rw [e] <;> omega
       rw [VL hl (by omega) (by omega) (by omega)]; rfl
   · have hi : isZ V ⟨x.tag, n⟩ = isZ V x := by
      rcases h with ⟨h, _⟩ | ⟨h, _⟩
      · rw [(isZ_t (x := x)).1 h, (isZ_t (x := ⟨x.tag, n⟩)).1 h]
      · rw [(isZ_t (x := x)).2.1 h, (isZ_t (x := ⟨x.tag, n⟩)).2.1 h]
     rw [ofT, ofT, g, aa, hi];simp [Q4]
 · rw [chT, if_neg (by decide), if_neg (by decide), if_pos rfl];refine ⟨.mk _ _ (by decide) (fun k hk => by cases hk), ?_, .inr ⟨by show ¬ (26 : Int) = 20; decide, by show ¬ x.tag = 20; omega⟩⟩;rw [h1, AgX h h2, ofT, UB V (by simp), isZ_t.2.2.2.1 rfl];simp [Q4]
 · rw [chT, if_neg (by decide), if_neg (by decide), if_neg (by decide), if_pos rfl];obtain ⟨ws, g⟩ := Ab7 V (n := j.length) h;rw [g] at i m
   match j, o, b, i, m, g with
   | [], _, _, i, _, _ => simp at i
   | c :: r, o, b, i, m, g =>
    have l : ofT V c = 1 := XN m 0 c 1 rfl rfl;refine ⟨.mk _ _ o fun k hk => ?_, ?_, .inl rfl⟩
    · rcases Lv.1 hk with rfl | hk
      · exact .mk _ _ (show Qq ⟨6, 0⟩ = ((1 : Nat) : Int) by decide) fun k hk => by rw [Lo.1 hk]; exact b c (by simp)
      · exact b k (by simp [hk])
    · have v : ofT V (.node ⟨6, 0⟩ [c]) = 1 := by
       rw [ofT, AhE V rfl, isZ_t.2.2.1 rfl];simp [Q4, l, Es]
      rw [ofT, ofT, g];have hl : ((Tr.node ⟨6, 0⟩ [c]) :: r).length = (c :: r).length := rfl;rw [Ajf, hl, g]
      have p : Q4 V (Zq x) true ((Tr.node ⟨6, 0⟩ [c]) :: r) (1 :: ws) = Q4 V (Zq x) true (c :: r) (1 :: ws) := by
       rw [Q4, Q4, v, l]; simp
      rw [p]
 · rw [chT, if_neg (by decide), if_neg (by decide), if_neg (by decide), if_neg (by decide)];have g : QQ V x j.length = [0] := AdH V h;rw [g] at i m
   match j, o, b, i, m, g with
   | [], _, _, i, _, _ => simp at i
   | c :: d :: r, _, _, i, _, _ => simp at i
   | [c], o, b, i, m, g =>
    have l : ofT V c = 0 := XN m 0 c 0 rfl rfl;refine ⟨.mk _ _ o fun k hk => ?_, ?_, .inl rfl⟩
    · rw [Lo.1 hk];exact .mk _ _ (by unfold Qq; rfl) fun k hk => by cases hk
    · have s : ofT V (.node ⟨1, n⟩ []) = 0 := by
       rw [ofT, UB V (by simp), isZ_t.1 rfl];simp [Q4]
      rw [ofT, ofT];show (if isZ V x = -1 ∨ (QQ V x 1).length ≠ 1 then _ else _) = (if isZ V x = -1 ∨ (QQ V x 1).length ≠ 1 then _ else _)
      have p : Q4 V (Zq x) true [(Tr.node ⟨1, n⟩ [])] (QQ V x 1) = Q4 V (Zq x) true [c] (QQ V x 1) := by
       rw [show QQ V x 1 = [0] from g]; simp [Q4, s, l]
      rw [show QQ V x [Tr.node ⟨1, n⟩ []].length = QQ V x 1 from rfl, show QQ V x [c].length = QQ V x 1 from rfl, p]
theorem Agz {l a b : List Nd} {k : Tr} {op n : Int} {V : List Int} {y : Nd} (h : l = a ++ (k.flat ++ b)) (hk : k.fits) (ht : ofT V k ≠ -1) (hc : isC k.root y op n = true) : Jm l a.length k op n = a ++ ((chT op n k).flat ++ b) := by
 obtain ⟨x, e⟩ := k;obtain ⟨_, _, o, _⟩ := KS ht;have d : (Tr.node x e).root = x := rfl;rw [d] at hc;have g : l.take a.length = a := by rw [h]; simp
 have i : l.drop (a.length + 1) = QI e ++ b := by rw [h, Tr.flat]; simp
 have j : l.drop (a.length + (Tr.node x e).size) = b := by
  rw [h, ← Lx];exact List.drop_left' (by simp [Tr.size])
 have m : l.take (a.length + 1) = a ++ [x] := by
  rw [h, Tr.flat, show a ++ (x :: QI e ++ b) = (a ++ [x]) ++ (QI e ++ b) by simp];exact N1 (by simp)
 unfold Jm Vr Eg;rw [d];rcases UQ hc with ⟨rfl, _⟩ | ⟨rfl, _⟩ | ⟨rfl, _⟩ | ⟨rfl, h⟩ | ⟨rfl, h, rfl⟩ | ⟨rfl, h, rfl⟩ | ⟨rfl, h, _⟩
 · rw [chT, if_pos (by decide), if_pos (by decide), g, i, Tr.flat]; simp
 · rw [chT, if_pos (by decide), if_pos (by decide), g, i, Tr.flat]; simp
 · rw [chT, if_pos (by decide), if_pos (by decide), g, i, Tr.flat]; simp
 · rw [chT, if_neg (by decide), if_pos rfl, if_neg (by decide), if_pos rfl, g, i, Tr.flat]; simp
 · rw [chT, if_neg (by decide), if_neg (by decide), if_pos rfl, if_neg (by decide), if_neg (by decide), if_pos rfl, g, j, Tr.flat]; simp [QI]
 · rw [chT, if_neg (by decide), if_neg (by decide), if_neg (by decide), if_pos rfl, if_neg (by decide), if_neg (by decide), if_neg (by decide), if_pos rfl];simp only;rw [m, i, Tr.flat];obtain ⟨q, p⟩ := Ab7 V (n := e.length) h;rw [p] at o
   match e, o with
   | c :: r, _ => simp [Ajf, QI, Tr.flat]
 · rw [chT, if_neg (by decide), if_neg (by decide), if_neg (by decide), if_neg (by decide), if_neg (by decide), if_neg (by decide), if_neg (by decide), if_neg (by decide)];simp only;rw [m, j, Tr.flat]; simp [QI, Tr.flat]
theorem Adv {x : Nd} {ks : List Tr} (h : (Tr.node x ks).fits) (h2 : x.tag = 2) : x.n = 0 ∨ x.n = 1 := by
 have d := h.len;obtain ⟨a, b⟩ := x;simp only at h2;subst h2;by_cases e : b < 0 ∨ 1 < b
 · have c : Qq ⟨2, b⟩ = -1 := by
    unfold Qq;rw [if_neg (by simp), show Q2 ⟨2, b⟩ = (1, 0) from by unfold Q2; rw [if_pos rfl], if_pos e]
   rw [c] at d; omega
 · simp only; omega
theorem Good.typed {p : PgV} {t : Tr} (h : Good p t) : ofT p.V t ≠ -1 := by rw [h.kind]; decide
theorem Good.change {p : PgV} {t : Tr} (h : Good p t) {d : Dl} (hd : d ∈ Jo p.body t) : ∃ q k, ZB d.path 0 t = some (q, k) ∧ At p.body q k ∧ ofT p.V k ≠ -1 ∧ isC k.root (US p.body (q + 1)) d.op d.n = true ∧ US p.body q = k.root ∧
 ∀ m : PgV, m.params = p.params → m.V = p.V → m.body = Jm p.body q k d.op d.n → Good m (XD (chT d.op d.n) d.path t) := by
 obtain ⟨q, k, g, hc⟩ := allZ_mem.1 hd;have hat := Em h.hat g
 have o : US p.body q = k.root := by
  obtain ⟨r, u⟩ := hat.here
  have : p.body[q]? = some k.root := by
   have := congrArg (·[0]?) u;obtain ⟨x, ks⟩ := k;simpa [Ns, Tr.flat, Tr.root] using this
  unfold US; rw [this]; rfl
 have i := En h.hat.fits g;have j := Vc h.typed g
 have w : k.root.tag = 2 → k.root.n = 0 ∨ k.root.n = 1 := by
  obtain ⟨x, ks⟩ := k;exact Adv i
 have e : isC k.root (US p.body (q + 1)) d.op d.n = true := by
  have l : (d.op, d.n) ∈ ZR (US p.body q) (US p.body (q + 1)) := hc;rw [o] at l;exact (Abs w).1 l
 refine ⟨q, k, g, hat, j, e, o, fun m m1 m2 m3 => ?_⟩;obtain ⟨c1, c2, c3⟩ := AhX i j e w;obtain ⟨k1, s⟩ := Abe g c2 c3;obtain ⟨a, b, f1, f2, f3⟩ := Eo _ _ _ _ _ g
 have c : p.body = t.flat := by
  obtain ⟨r, u⟩ := h.hat.here;have y := congrArg List.length u;have hs := h.size;rw [Le] at y;have : t.flat.length = p.body.length := hs;have v : r = [] := Lt (by simp at y; omega);subst v;simpa using u
 have hq : q = a.length := by omega
 subst hq
 have z : m.body = (XD (chT d.op d.n) d.path t).flat := by
  rw [m3, f3, Agz (c.trans f1) i j e]
 refine ⟨⟨Abd h.hat.fits g (fun _ => c1), [], ?_⟩, ?_, ?_, ?_, ?_⟩
 · rw [z]; simp
 · rw [z]; rfl
 · rw [m1, m2]; exact h.vars
 · rcases s with s | ⟨_, s⟩
   · rw [s, h.tag]
   · exact absurd h.tag s
 · rw [m2, k1, h.kind]
end Go.Proofs.YtdcmppdhdcjpfaaGreat
namespace Go.Proofs.YtdcmppdhdcjpfaaGreat
open Go.RowKit Go.Deep
theorem Aag : ∀ {l : List Nd} {q : Nat} (y : Nd), q < l.length → l.set q y = l.take q ++ y :: l.drop (q + 1)
 | [], _, _, h => by simp at h
 | x :: l, 0, y, _ => by simp
 | x :: l, q + 1, y, h => by
  rw [List.set_cons_succ, Aag (l := l) y (by simpa using h)]
  simp
theorem AcS : ∀ ks : List Tr, ks.length ≤ (QI ks).length
 | [] => by simp
 | .node x js :: ts => by
  have := AcS ts
  rw [QI, Le, Tr.flat, Lc, Lc]
  omega
def AdS (p : PgV) (w : World) : Prop := ∀ (q : Nat) (t : Tr) (W : World), Below w.heap.size w W → At p.body q t → (t.root.tag = 23 ∨ t.root.tag = 24) → q + 1 < p.body.length → Calls Tryz.prog 114 #[.agg (Zz p q 0)] W fun e w' => NdsR (p.body.take (q + 1) ++ (⟨6, 0⟩ :: p.body.drop (q + 1))) W w' e
theorem AfL {p : PgV} {t k : Tr} {π : List Int} {q : Nat} (h : Good p t) (hf : ZB π 0 t = some (q, k)) : K6 p.body π = (q : Int) := by
 unfold K6;rw [if_pos h.whole.endZ];have := Aan π 0 t h.hat;rw [hf] at this;exact this
theorem AaG (p : PgV) (t : Tr) (A : Option Addr) (cap : Nat) (d : Dl) (w : World) (hok : p.ok w) (hra : Rd w A (Qi d.path)) (hπ : d.path.length ≤ 1000000) (hbl : p.body.length ≤ 1000) (hg : Good p t) (hd : d ∈ Jo p.body t) (hneg : AdS p w) :
 ∃ q k, ZB d.path 0 t = some (q, k) ∧ (∀ m : PgV, m.params = p.params → m.V = p.V → m.body = Jm p.body q k d.op d.n → Good m (XD (chT d.op d.n) d.path t)) ∧
  Calls Tryz.prog 55 #[.agg p.cells, .agg #[.slice A d.path.length cap, .int .i64 d.op, .int .i64 d.n]] w fun e w' => AplR p (Jm p.body q k d.op d.n) w w' e := by
 obtain ⟨q, k, hf, i, z, hc, _, hm⟩ := hg.change hd;refine ⟨q, k, hf, hm, ?_⟩;have l := AfL hg hf;have y : p.V.length ≤ 12 := hg.vars.2.2.1;have hq := i.lt;have hx := i.root;have hs := i.le;obtain ⟨π, op, n⟩ := d;dsimp only at hra hπ hf hc l ⊢;obtain ⟨x, o⟩ := k;have g : (Tr.node x o).root = x := rfl;rw [g] at hc hx;have j : ∀ c : Nat × Nd × Nat, 0 < (Vr p.body c).length := fun c => by unfold Vr; simp; omega
 have s : op ≤ 3 → Jm p.body q (.node x o) op n = p.body.set q ⟨n, x.n⟩ := fun h => by
  unfold Jm Eg Vr;rw [g, if_pos h, Aag _ hq]
 rcases UQ hc with ⟨rfl, h1, v, u, _⟩ | ⟨rfl, h1, v, u, _⟩ | ⟨rfl, h1, v, u, _⟩ | ⟨rfl, h⟩ | ⟨rfl, h, rfl⟩ | ⟨rfl, h, rfl⟩ | ⟨rfl, h, v⟩
 · exact AdU 1 109 (by decide) rfl (enters_of Tryz.func109 (by kernel_rfl) rfl) p A cap π n q _ w hok hra hπ l hbl y (j _) fun W b => by rw [s (by decide)]; exact AdZ p q n x W hx hbl (hok.go b) ⟨h1, v, u⟩
 · exact AdU 2 110 (by decide) rfl (enters_of Tryz.func110 (by kernel_rfl) rfl) p A cap π n q _ w hok hra hπ l hbl y (j _) fun W b => by rw [s (by decide)]; exact AgI p q n x W hx hbl (hok.go b) ⟨h1, v, u⟩
 · exact AdU 3 111 (by decide) rfl (enters_of Tryz.func111 (by kernel_rfl) rfl) p A cap π n q _ w hok hra hπ l hbl y (j _) fun W b => by rw [s (by decide)]; exact Ad8 p q n x W hx hbl (hok.go b) ⟨h1, v, u⟩
 · refine AdU 4 112 (by decide) rfl (enters_of Tryz.func112 (by kernel_rfl) rfl) p A cap π n q _ w hok hra hπ l hbl y (j _) fun W b => ?_
   have e : Jm p.body q (.node x o) 4 n = p.body.set q ⟨x.tag, n⟩ := by
    unfold Jm Eg Vr;rw [g, if_neg (by decide), if_pos rfl, Aag _ hq]
   rw [e];refine Ad0 p q n x W hx hbl (hok.go b) ?_;rcases h with ⟨h, _⟩ | ⟨h, h5⟩
   · exact .inl h
   · have v := Adv i.fits h;refine .inr ⟨h, ?_⟩;rw [h5];unfold wrap64;rcases v with e | e <;> rw [e] <;> omega
 · refine AdU 5 113 (by decide) rfl (enters_of Tryz.func113 (by kernel_rfl) rfl) p A cap π 0 q _ w hok hra hπ l hbl y (j _) fun W b => ?_
   have e : Jm p.body q (.node x o) 5 0 = p.body.take q ++ ([⟨26, 0⟩] ++ p.body.drop (q + (Tr.node x o).size)) := by
    unfold Jm Eg Vr;rw [g, if_neg (by decide), if_neg (by decide), if_pos rfl];rfl
   rw [e];exact AgJ p q (.node x o) W i hbl (hok.go b) h
 · refine AdU 6 114 (by decide) rfl (enters_of Tryz.func114 (by kernel_rfl) rfl) p A cap π 0 q _ w hok hra hπ l hbl y (j _) fun W b => ?_
   have e : Jm p.body q (.node x o) 6 0 = p.body.take (q + 1) ++ (⟨6, 0⟩ :: p.body.drop (q + 1)) := by
    unfold Jm Eg Vr;rw [g, if_neg (by decide), if_neg (by decide), if_neg (by decide), if_pos rfl]
   rw [e];refine hneg q (.node x o) W b i h ?_;obtain ⟨_, _, u, _⟩ := KS z;obtain ⟨ws, hw⟩ := Ab7 p.V (n := o.length) h;rw [hw] at u;have h4 := AcS o;have h5 : (Tr.node x o).size = (QI o).length + 1 := by unfold Tr.size; rw [Tr.flat, Lc]
   simp only [Lc] at u;omega
 · refine AdU 7 115 (by decide) rfl (enters_of Tryz.func115 (by kernel_rfl) rfl) p A cap π n q _ w hok hra hπ l hbl y (j _) fun W b => ?_
   obtain ⟨_, _, u, _⟩ := KS z;rw [AdH p.V h] at u
   match o, u, i, hf, z with
   | [c], _, i, _, _ =>
    have ab : (Tr.node x [c]).size = 1 + c.size := by unfold Tr.size; rw [Tr.flat, Lc, QI, QI, LY]; omega
    have aa : At p.body (q + 1) c := by
     obtain ⟨r, hr⟩ := i.here;refine ⟨i.fits.kids c (by simp), r, ?_⟩;rw [← Nm, hr, Tr.flat, QI, QI, LY];rfl
    have e : Jm p.body q (.node x [c]) 7 n = p.body.take (q + 1) ++ ([⟨1, n⟩] ++ p.body.drop (q + 1 + c.size)) := by
     unfold Jm Eg Vr;rw [g, if_neg (by decide), if_neg (by decide), if_neg (by decide), if_neg (by decide), ab];simp only;rw [show q + (1 + c.size) = q + 1 + c.size by omega];rfl
    rw [e];exact AgB p q n (.node x [c]) c W i aa hbl (hok.go b) h
theorem Aex (p : PgV) (t : Tr) (x : DlV) (w : World) (hok : p.ok w) (hx : DlOk w x) (hbl : p.body.length ≤ 1000) (hg : Fine p t) (hd : x.d ∈ Jo p.body t) (hneg : ∀ W, p.ok W → AdS p W) :
 ∃ q k, ZB x.d.path 0 t = some (q, k) ∧ (∀ m : PgV, m.params = p.params → m.V = p.V → m.body = Jm p.body q k x.d.op x.d.n → Good m (XD (chT x.d.op x.d.n) x.d.path t)) ∧
  Calls Tryz.prog 18 #[.agg p.cells, .agg x.cells] w fun e w' => AplR p (Jm p.body q k x.d.op x.d.n) w w' e := by
 obtain ⟨q, k, hf, hm, _⟩ := AaG p t x.A x.cap x.d w hok hx.1 hx.2 hbl hg.good hd (hneg w hok);refine ⟨q, k, hf, hm, ?_⟩;obtain ⟨bd, s⟩ : ∃ bd, bd = Jm p.body q k x.d.op x.d.n := ⟨_, rfl⟩;rw [← s]
 have HA : Hid (∀ W, Below w.heap.size w W → Calls Tryz.prog 55 #[.agg p.cells, .agg x.cells] W fun e w' => AplR p bd W w' e) := fun W b => by
  obtain ⟨q', k', j, _, h⟩ := AaG p t x.A x.cap x.d W (hok.go b) (hx.1.go b) hx.2 hbl hg.good hd (hneg W (hok.go b));rw [hf] at j;injection j with j;injection j with h1 h2;subst h1 h2;rw [s];exact h
 have HS : Hid (∀ W, Below w.heap.size w W → Calls Tryz.prog 17 #[.agg p.cells] W fun e w' => AllR p W w' e) := fun W b => X5 p hbl W (hok.go b);have HX : Hid (∀ W, Below w.heap.size w W → DlOk W x) := fun W b => ⟨hx.1.go b, hx.2⟩;have Hd := Lh hd;have Hg := Lh hg;have Hc := Lh (checkP_ok.2 ⟨t, hg⟩);clear hok hx hbl hg hd hneg hf hm s;go_enter Tryz.func18, Tryz.ntmps18
 go_wp2_with (refine Qn _ _ rfl ?_)
 refine Stop.to ?_;refine Qe rfl 25 _ rfl p.cells rfl ?_;intro G Gw Gh Gr Gb;go_wp2_with (refine Qn _ _ rfl ?_)
 refine Stop.to ?_;refine Qe rfl 35 _ rfl x.cells rfl ?_;intro D Dw Dh Dr Db;go_wp2_with (first | fail | (refine QT _ rfl ?_))
 refine Stop.to ?_;refine Qm rfl 25 rfl _ _ UG rfl ?_;intro R Rw Rh Rr Rb;have b1 := (Below.refl w.heap.size w).trans (Gb.mono Gh);have b2 := b1.trans ((Db.mono Dh).mono b1.size);have b3 := b2.trans ((Rb.mono Rh).mono b2.size);have hR : w.heap.size ≤ R := Li b2.size Rh;have rG := (Gr.below Db (Ld Gr.lt Dh));have c := rG.below Rb (Ld rG.lt Rh);have l := Dr.below Rb (Ld Dr.lt Rh);have i : Row Rw R 25 #[.int .i64 0, .slice none 0 0, .slice none 0 0] := Rr;have H1 := Lh (HS.out _ b3);clear Gr Gb Gh Dr Db Dh Rb Rh rG b1 b2 Rr HS;go_wp2_with (refine wpList_load_row rfl 25 _ rfl G rfl 25 p.cells (0, 0) _ c Tryz.underlying25 rfl (by kernel_rfl) ?_)
 refine H1.out.mono ?_;rintro e w1 ⟨A, cap, xs, rfl, ad, aa, ac, hT, o, _, ab, b4⟩;rw [Hc.out];have g := o t Hg.out;have b5 := b3.trans (b4.mono b3.size);replace c := c.below b4 c.lt;replace l := l.below b4 l.lt;replace i := i.below b4 i.lt;have v := Lh (AcD A cap xs x w1 ad (by omega) (fun y hy => (hT y hy).ok) (HX.out _ b5) (by rw [g]; exact AaF _ _));have z : Hid (x.d ∈ xs.map DlV.d) := by show _ ∈ _; rw [g]; exact Hd.out
 clear H1 ad aa ac hT o g ab b4 b3;go_wp2_with (refine wpList_load_row rfl 35 _ rfl D rfl 35 x.cells (0, 0) _ l Tryz.underlying35 rfl (by kernel_rfl) ?_)
 refine v.out.mono ?_;rintro e w2 ⟨⟨r, rfl, hr⟩, b6⟩;have ae : ¬ (r < 0) := by have := hr.2 z.out; omega
 have u := b5.trans (b6.mono b5.size);replace c := c.below b6 c.lt;replace l := l.below b6 l.lt;replace i := i.below b6 i.lt;have H2 := Lh (HA.out _ u);clear v z hr b6 b5 HA HX;go_wp2_with (first | (refine wpList_load_row rfl 25 _ rfl G rfl 25 p.cells (0, 0) _ c Tryz.underlying25 rfl (by kernel_rfl) ?_) | (refine wpList_load_row rfl 35 _ rfl D rfl 35 x.cells (0, 0) _ l Tryz.underlying35 rfl (by kernel_rfl) ?_))
 refine H2.out.mono ?_;rintro e w3 ⟨m, rfl, hm, o1, o2, b8⟩;replace i := i.below b8 i.lt;have b9 := u.trans (b8.mono u.size);have p1 := QK o1 u.size;have p2 := QK o2 u.size;have Hm := Lh hm;clear H2 c l o1 o2 b8 u hm;go_wp2_with (refine Qv 25 _ _ rfl ?_)
 refine Stop.to ?_;refine Ql rfl 25 _ _ rfl R m.cells rfl rfl 25 _ i (by kernel_rfl) rfl (by simp [PgV.cells, Value.oneCell']) ?_;intro W9 r9 o9;have q1 := QA p1 o9 (QC p1 i (by decide));have q2 := QA p2 o9 (QC p2 i (by decide));have bE := Qp b9 o9 hR;clear p1 p2 b9 o9 i;go_wp2_with fail
 refine bodyPost_ret (QN Tryz.results18 _ _ R 25 _ (0, 0) _ rfl r9 Tryz.underlying25 rfl (by kernel_rfl)) rfl ?_;exact ⟨m, rfl, Hm.out, q1, q2, bE⟩
end Go.Proofs.YtdcmppdhdcjpfaaGreat
namespace Go.Proofs.YtdcmppdhdcjpfaaGreat
open Go.RowKit
theorem VD {w : World} {base n size : Nat} {e : TypeId} {v : Value} {xs : List Value} (h : w.ownsRow base e size v n xs) : ∃ A cap, v = .slice A n cap ∧ Rd w A xs ∧ n ≤ cap ∧ cap ≤ maxLen ∧ (A = none → cap = 0) ∧ ∀ ad, A = some ad → base ≤ ad.block := by
 have o : xs.length = n * size := h.1;rcases h.2 with ⟨rfl, d⟩ | ⟨g, cap, b, rfl, k, m, l, p, r, s⟩
 · have t : xs = [] := Lt (by rw [o, d, NF]);subst t;exact ⟨none, 0, by rw [d], Rd.nil _ _, by omega, by unfold maxLen; omega, fun _ => rfl, fun ad e => by cases e⟩
 · refine ⟨some ⟨g, 0, none⟩, cap, rfl, fun j u c => ⟨_, rfl, ?_⟩, l, p, fun e => (by cases e), fun ad e => by cases e; exact k⟩;have q : Row w g e b := m
   exact q.from_ 0 (cs := xs) (fun j v c => by
    rw [LI, ← Ni]
    have i : (b.toList.take (n * size))[j]? = some v := by rw [s]; exact c
    rw [LP (by have := (Lb.1 c).1; omega)] at i; exact i) j u c
end Go.Proofs.YtdcmppdhdcjpfaaGreat
namespace Go.Proofs.YtdcmppdhdcjpfaaGreat
open Go.RowKit Go.Deep
noncomputable def Af3 (p : PgV) (d : Dl) : List Nd := open Classical in if h : ∃ b, ∃ t q k, Fine p t ∧ ZB d.path 0 t = some (q, k) ∧ b = Jm p.body q k d.op d.n then h.choose else []
theorem AbH {p : PgV} {d : Dl} {t k : Tr} {q : Nat} (hf : Fine p t) (h : ZB d.path 0 t = some (q, k)) : Af3 p d = Jm p.body q k d.op d.n := by
 unfold Af3;have c : ∃ b, ∃ t q k, Fine p t ∧ ZB d.path 0 t = some (q, k) ∧ b = Jm p.body q k d.op d.n := ⟨_, t, q, k, hf, h, rfl⟩;rw [dif_pos c];obtain ⟨m, l, j, g, e, i⟩ := c.choose_spec;rw [i];obtain rfl := g.good.whole.uniq hf.good.whole;rw [h] at e;injection e with e;injection e with e1 e2;subst e1 e2;rfl
noncomputable def Vq (p : PgV) (d : Dl) : Int := open Classical in if Q1 p ≠ 0 then Q1 p else if ∃ t, Fine p t ∧ d ∈ Jo p.body t then 0 else 17
theorem AbI {p : PgV} {d : Dl} {t : Tr} (hf : Fine p t) (hd : d ∈ Jo p.body t) : Vq p d = 0 := by
 unfold Vq; rw [if_neg (by rw [checkP_ok.2 ⟨t, hf⟩]; simp), if_pos ⟨t, hf, hd⟩]
theorem Afh {p : PgV} {d : Dl} {t : Tr} (hf : Fine p t) (hd : d ∉ Jo p.body t) : Vq p d = 17 := by
 unfold Vq; rw [if_neg (by rw [checkP_ok.2 ⟨t, hf⟩]; simp), if_neg (fun ⟨u, h1, h2⟩ => hd (by rw [hf.good.whole.uniq h1.good.whole]; exact h2))]
theorem Aje {p : PgV} {d : Dl} (h : Q1 p ≠ 0) : Vq p d = Q1 p := by unfold Vq; rw [if_pos h]
structure IsMut (p : PgV) (d : Dl) (m : PgV) : Prop where
 par : m.params = p.params
 vars : m.V = p.V
 body : m.body = Af3 p d
theorem Ajb {x y : Nd} {op n : Int} (h : isC x y op n = true) : InI n := by
 unfold isC at h;have b : ∀ a : Int, InI (wrap64 a) := fun a => by unfold wrap64 InI; omega
 by_cases c : op = 1
 · rw [if_pos c, decide_eq_true_eq] at h; unfold InI; omega
 rw [if_neg c] at h;by_cases d : op = 2
 · rw [if_pos d, decide_eq_true_eq] at h; unfold InI; omega
 rw [if_neg d] at h;by_cases e : op = 3
 · rw [if_pos e, decide_eq_true_eq] at h; unfold InI; omega
 rw [if_neg e] at h;by_cases g : op = 4
 · rw [if_pos g, decide_eq_true_eq] at h;rcases h with ⟨_, h | h | h | h | h, _⟩ | ⟨_, h⟩
   · unfold InI; omega
   · unfold InI; omega
   · unfold InI; omega
   · rw [h]; exact b _
   · rw [h]; exact b _
   · rw [h]; exact b _
 rw [if_neg g] at h;by_cases i : op = 5
 · rw [if_pos i, decide_eq_true_eq] at h; unfold InI; omega
 rw [if_neg i] at h;by_cases j : op = 6
 · rw [if_pos j, decide_eq_true_eq] at h; unfold InI; omega
 rw [if_neg j] at h;by_cases k : op = 7
 · rw [if_pos k, decide_eq_true_eq] at h; unfold InI; omega
 rw [if_neg k] at h;cases h
theorem Ahk {l : List Nd} {c : Nat × Nd × Nat} {y : Nd} (h : y ∈ Vr l c) : y ∈ l ∨ y = c.2.1 := by
 unfold Vr at h;rcases Lz.1 h with h | h
 · exact .inl (List.mem_of_mem_take h)
 · rcases Lv.1 h with h | h
   · exact .inr h
   · exact .inl (List.mem_of_mem_drop h)
theorem AgA {p : PgV} {t : Tr} {d : Dl} {q : Nat} {k : Tr} (hg : Good p t) (hd : d ∈ Jo p.body t) (hf : ZB d.path 0 t = some (q, k)) (hin : ∀ x ∈ p.body, InI x.tag ∧ InI x.n) : (∀ x ∈ Jm p.body q k d.op d.n, InI x.tag ∧ InI x.n) ∧ (Jm p.body q k d.op d.n).length ≤ p.body.length + 1 := by
 obtain ⟨u, s, e, i, _, l, _, _⟩ := hg.change hd;rw [hf] at e;injection e with e;injection e with e1 e2;subst e1 e2;have g := Ajb l;have r := k.size_eq;have m := i.le;have j := hin _ (Lf i.root);have c : InI 0 ∧ InI 1 ∧ InI 6 ∧ InI 26 := by unfold InI; omega
 have b : InI (Eg k.root q k.size d.op d.n).2.1.tag ∧ InI (Eg k.root q k.size d.op d.n).2.1.n := by
  unfold Eg;split
  · exact ⟨g, j.2⟩
  · split
    · exact ⟨j.1, g⟩
    · split
      · exact ⟨c.2.2.2, c.1⟩
      · split
        · exact ⟨c.2.2.1, c.1⟩
        · exact ⟨c.2.1, g⟩
 constructor
 · intro x o;rcases Ahk o with h | h
   · exact hin x h
   · rw [h]; exact b
 · unfold Jm Vr;rw [Le, Lc, L4, LM];unfold Eg;split
   · simp only; omega
   · split
     · simp only; omega
     · split
       · simp only; omega
       · split <;> (simp only; omega)
theorem Aey (p : PgV) (hbl : p.body.length ≤ 1000) (W : World) (hok : p.ok W) : AdS p W := fun q t W2 b hat h hq => AgG p q t W2 hat hbl (hok.go b) h hq
theorem AplR.okm {p : PgV} {bd : List Nd} {w w' : World} {e : Ending} (h : AplR p bd w w' e) (hok : p.ok w) (hin : ∀ x ∈ bd, InI x.tag ∧ InI x.n) : ∃ m : PgV, e = .returned (.tuple #[.agg m.cells, .int .i64 0]) ∧ (m.params = p.params ∧ m.V = p.V ∧ m.body = bd) ∧ m.ok w' ∧ (∀ ad, m.va = some ad ∨ m.ba = some ad → w.heap.size ≤ ad.block) ∧ Below w.heap.size w w' := by
 obtain ⟨m, h1, b, r, s, h5⟩ := h;refine ⟨m, h1, b, ?_, ?_, h5⟩;rotate_left
 · obtain ⟨A, c, i, _, _, _, _, v⟩ := VD r;obtain ⟨B, z, j, _, _, _, _, y⟩ := VD s;injection i with x1 _ _;injection j with y1 _ _;intro ad h;rcases h with h | h
   · exact v ad (x1 ▸ h)
   · exact y ad (y1 ▸ h)
 obtain ⟨A, c, i, t, k, l, d, _⟩ := VD r;obtain ⟨B, z, j, u, o, q, g, _⟩ := VD s;injection i with x1 _ x3;injection j with y1 _ y3;rw [← x1] at t d;rw [← y1] at u g;rw [← x3] at k l d;rw [← y3] at o q g;exact ⟨by rw [b.1]; exact hok.par, k, l, d, t, by rw [b.2.1]; exact hok.vin, o, q, g, u, by rw [b.2.2]; exact hin⟩
end Go.Proofs.YtdcmppdhdcjpfaaGreat
