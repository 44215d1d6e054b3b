/- Lemmas for RunnerJustP. -/
import Derived.Test.YtkoikjnlpifbjaaGreatZb5
import Derived.Test.YtkoikjnlpifbjaaGreatZb11
import Derived.Test.YtkoikjnlpifbjaaGreatZb24
import Derived.Test.YtkoikjnlpifbjaaGreatZb16
import Derived.Test.YtkoikjnlpifbjaaGreatZb1
set_option linter.unusedVariables false
set_option linter.unusedSimpArgs false
set_option maxRecDepth 100000
set_option maxHeartbeats 16000000
namespace Go.Proofs.YtkoikjnlpifbjaaGreat
open Go.RowKit
def En (x : Nd) (q s : Nat) (op n : Int) : Nat × Nd × Nat :=
 if op ≤ 3 then (q, ⟨n, x.n⟩, q + 1) else if op = 4 then (q, ⟨x.tag, n⟩, q + 1) else if op = 5 then (q, ⟨26, 0⟩, q + s) else if op = 6 then (q + 1, ⟨6, 0⟩, q + 1) else (q + 1, ⟨1, n⟩, q + s)
def VF (l : List Nd) (c : Nat × Nd × Nat) : List Nd := l.take c.1 ++ (c.2.1 :: l.drop c.2.2)
def Jo (l : List Nd) (q : Nat) (k : Tr) (op n : Int) : List Nd := VF l (En k.root q k.size op n)
def Akq : List Tr → List Tr
 | [] => []
 | c :: r => .node ⟨6, 0⟩ [c] :: r
def chT (op n : Int) : Tr → Tr
 | .node x ks => if op ≤ 3 then .node ⟨n, x.n⟩ ks else if op = 4 then .node ⟨x.tag, n⟩ ks else if op = 5 then .node ⟨26, 0⟩ [] else
  if op = 6 then .node x (Akq ks) else .node x [.node ⟨1, n⟩ []]
mutual
def XD (f : Tr → Tr) : List Int → Tr → Tr
 | [], t => f t
 | i :: π, .node x ks => .node x (Yj f π i.toNat ks)
def Yj (f : Tr → Tr) (π : List Int) : Nat → List Tr → List Tr
 | _, [] => []
 | 0, t :: ts => XD f π t :: ts
 | i + 1, t :: ts => t :: Yj f π i ts
end
theorem Aag (f : Tr → Tr) (π : List Int) : ∀ (i : Nat) (ks : List Tr), (Yj f π i ks).length = ks.length
 | _, [] => by simp [Yj]
 | 0, t :: ts => by simp [Yj]
 | i + 1, t :: ts => by simp [Yj, Aag f π i ts]
theorem Abt : ∀ (ts : List Tr) (p i : Nat) (r : Nat) (k : Tr), (Zk p ts)[i]? = some r → ts[i]? = some k → ∃ a b : List Nd, QL ts = a ++ (k.flat ++ b) ∧ r = p + a.length ∧ ∀ (f : Tr → Tr) (π : List Int), QL (Yj f π i ts) = a ++ ((XD f π k).flat ++ b)
 | [], _, _, _, _, h, _ => by simp [Zk] at h
 | t :: ts, p, 0, r, k, h1, h2 => by
  simp [Zk] at h1 h2
  subst h1 h2
  exact ⟨[], QL ts, by simp [QL], by simp, fun f π => by simp [Yj, QL]⟩
 | t :: ts, p, i + 1, r, k, h1, h2 => by
  simp [Zk] at h1 h2
  obtain ⟨a, b, e1, e2, e3⟩ := Abt ts (p + t.size) i r k h1 h2
  refine ⟨t.flat ++ a, b, by rw [QL, e1, L4], by rw [e2, Lf]; show p + t.flat.length + a.length = _; omega, fun f π => ?_⟩
  rw [Yj, QL, e3, L4]
theorem Ey : ∀ (π : List Int) (q r : Nat) (t k : Tr), ZL π q t = some (r, k) → ∃ a b : List Nd, t.flat = a ++ (k.flat ++ b) ∧ r = q + a.length ∧ ∀ f : Tr → Tr, (XD f π t).flat = a ++ ((f k).flat ++ b)
 | [], q, r, t, k, h => by
  simp [ZL] at h
  obtain ⟨rfl, rfl⟩ := h
  exact ⟨[], [], by simp, by simp, fun f => by simp [XD]⟩
 | i :: π, q, r, .node x ks, k, h => by
  rw [ZL] at h
  split at h
  · cases h
  · split at h
    · rename_i s u h1 h2
      obtain ⟨a, b, e1, e2, e3⟩ := Abt ks (q + 1) i.toNat s u h1 h2
      obtain ⟨a2, b2, g1, g2, g3⟩ := Ey π s r u k h
      refine ⟨x :: (a ++ a2), b2 ++ b, by rw [Tr.flat, e1, g1]; simp, by rw [g2, e2]; simp; omega, fun f => ?_⟩
      rw [XD, Tr.flat, e3, g3]
      simp
    · cases h
theorem X4 {π : List Int} {i : Int} {q r : Nat} {x : Nd} {ks : List Tr} {k : Tr} (h : ZL (i :: π) q (.node x ks) = some (r, k)) : ∃ s u, (Zk (q + 1) ks)[i.toNat]? = some s ∧ ks[i.toNat]? = some u ∧ ZL π s u = some (r, k) := by
 rw [ZL] at h;split at h
 · cases h
 · split at h
   · rename_i s u b c; exact ⟨s, u, b, c, h⟩
   · cases h
theorem AdS (f : Tr → Tr) (π : List Int) : ∀ (ks : List Tr) (i j : Nat) (u : Tr), ks[i]? = some u → (Yj f π i ks)[j]? = if j = i then some (XD f π u) else ks[j]?
 | [], i, _, _, h => by simp at h
 | t :: ts, 0, j, u, h => by
  simp at h; subst h
  cases j with
  | zero => simp [Yj]
  | succ j => simp [Yj]
 | t :: ts, i + 1, j, u, h => by
  simp at h
  cases j with
  | zero => simp [Yj]
  | succ j => simp [Yj, AdS f π ts i j u h]
theorem Abr {f : Tr → Tr} : ∀ {π : List Int} {q r : Nat} {t k : Tr}, t.fits → ZL π q t = some (r, k) → (k.fits → (f k).fits) → (XD f π t).fits
 | [], q, r, t, k, ht, h, hf => by
  simp [ZL] at h
  obtain ⟨_, rfl⟩ := h
  rw [XD]; exact hf ht
 | i :: π, q, r, .node x ks, k, ht, h, hf => by
  obtain ⟨s, u, h1, h2, h3⟩ := X4 h
  cases ht with
  | mk _ _ ha hk =>
   rw [XD]
   refine .mk _ _ (by rw [Aag]; exact ha) fun c hc => ?_
   obtain ⟨j, hj⟩ := List.mem_iff_getElem?.1 hc
   rw [AdS f π ks i.toNat j u h2] at hj
   split at hj
   · injection hj with hj
     subst hj
     exact Abr (hk u (Lj h2)) h3 hf
   · exact hk c (Lj hj)
theorem Ex : ∀ {π : List Int} {q r : Nat} {t k : Tr}, t.fits → ZL π q t = some (r, k) → k.fits
 | [], q, r, t, k, ht, h => by simp [ZL] at h; obtain ⟨_, rfl⟩ := h; exact ht
 | i :: π, q, r, .node x ks, k, ht, h => by
  obtain ⟨s, u, h1, h2, h3⟩ := X4 h
  cases ht with
  | mk _ _ ha hk => exact Ex (hk u (Lj h2)) h3
theorem EN {V : List Int} {inn : Bool} {f : Tr → Tr} {π : List Int} : ∀ (ts : List Tr) (ws : List Int) (b : Bool) (i : Nat) (u : Tr), ts[i]? = some u → ofT V (XD f π u) = ofT V u → (XD f π u).root.tag = u.root.tag ∨ (¬ (XD f π u).root.tag = 20 ∧ ¬ u.root.tag = 20) → Zb V inn b (Yj f π i ts) ws = Zb V inn b ts ws
 | [], _, _, i, u, h, _, _ => by simp at h
 | t :: ts, [], b, i, u, h, _, _ => by
  cases i <;> simp [Yj, Zb]
 | t :: ts, w :: ws, b, 0, u, h, h1, h2 => by
  simp at h; subst h
  have e : ((XD f π t).root.tag == 20) = (t.root.tag == 20) := by
   rcases h2 with h2 | ⟨h2, c⟩
   · rw [h2]
   · rw [Nz, beq_iff_eq, beq_iff_eq];exact ⟨fun h => absurd h h2, fun h => absurd h c⟩
  rw [Yj, Zb, Zb, h1, e]
 | t :: ts, w :: ws, b, i + 1, u, h, h1, h2 => by
  simp at h
  rw [Yj, Zb, Zb, EN ts ws false i u h h1 h2]
theorem AjV {V : List Int} {x : Nd} {n : Nat} (hx : isZ V x ≠ -1) (h : (-1 : Int) ∈ QU V x n) : False := by
 unfold QU at h
 repeat' split at h
 all_goals (try (simp at h; done))
 · rename_i _ _ _ _ c
   have b : Ki V x.n = true := by
    by_cases b : Ki V x.n = true
    · exact b
    · exfalso;apply hx;unfold isZ;rw [if_neg (by omega), if_neg (by omega), if_neg (by omega), if_neg (by omega), if_neg (by omega), if_neg (by omega), if_neg (by omega), if_neg (by omega), if_pos c, if_neg b]
   obtain ⟨t, e, d⟩ := Ya b;rw [e] at h;simp at h;omega
theorem Vm {V : List Int} : ∀ {π : List Int} {q r : Nat} {t k : Tr}, ofT V t ≠ -1 → ZL π q t = some (r, k) → ofT V k ≠ -1
 | [], q, r, t, k, ht, h => by simp [ZL] at h; obtain ⟨_, rfl⟩ := h; exact ht
 | i :: π, q, r, .node x ks, k, ht, h => by
  obtain ⟨s, u, h1, h2, h3⟩ := X4 h
  obtain ⟨_, g2, g3, g4⟩ := KU ht
  have hl : i.toNat < (QU V x ks.length).length := by rw [g3]; exact (Ld.1 h2).1
  have := XQ g4 i.toNat u _ h2 (La hl)
  refine Vm (t := u) ?_ h3
  rw [this]
  intro e
  have hm : (-1 : Int) ∈ QU V x ks.length := by rw [← e]; exact List.getElem_mem hl
  exact AjV g2 hm
def AfE (a b : Int) : Prop := a = b ∨ (¬ a = 20 ∧ ¬ b = 20)
theorem Abs {V : List Int} {f : Tr → Tr} : ∀ {π : List Int} {q r : Nat} {t k : Tr}, ZL π q t = some (r, k) → ofT V (f k) = ofT V k → AfE (f k).root.tag k.root.tag → ofT V (XD f π t) = ofT V t ∧ AfE (XD f π t).root.tag t.root.tag
 | [], q, r, t, k, h, h1, h2 => by simp [ZL] at h; obtain ⟨_, rfl⟩ := h; rw [XD]; exact ⟨h1, h2⟩
 | i :: π, q, r, .node x ks, k, h, h1, h2 => by
  obtain ⟨s, u, g1, g2, g3⟩ := X4 h
  obtain ⟨e1, e2⟩ := Abs g3 h1 h2
  rw [XD]
  refine ⟨?_, .inl rfl⟩
  rw [ofT, ofT, Aag, EN ks _ _ i.toNat u g2 e1 e2]
theorem Tr.fits.len {x : Nd} {ks : List Tr} (h : (Tr.node x ks).fits) : Qu x = (ks.length : Int) := by cases h; assumption
theorem Tr.fits.kids {x : Nd} {ks : List Tr} (h : (Tr.node x ks).fits) : ∀ k ∈ ks, k.fits := by cases h; assumption
theorem VZ {t n m a : Int} (h : Za ⟨t, n⟩ = (m, a)) (ht : ¬ t = 1) (h0 : 0 ≤ n) (h1 : n ≤ m) : Qu ⟨t, n⟩ = a := by
 unfold Qu;rw [if_neg ht, h, if_neg (by simp only; omega)]
theorem AbO {t n : Int} (h : 7 ≤ t ∧ t ≤ 19) : Za ⟨t, n⟩ = (0, 2) := by
 unfold Za;simp only;rw [if_neg (by omega), if_neg (by omega), if_neg (by omega), if_neg (by omega), if_neg (by omega), if_neg (by omega), if_neg (by omega), if_neg (by omega), if_neg (by omega), if_pos h]
theorem AfZ {x : Nd} (h : 7 ≤ x.tag ∧ x.tag ≤ 19) (ha : Qu x ≠ -1) : x.n = 0 := by
 unfold Qu at ha;rw [if_neg (by omega), show Za x = (0, 2) from AbO (t := x.tag) (n := x.n) h] at ha;by_cases b : x.n < 0 ∨ 0 < x.n
 · rw [if_pos b] at ha; exact absurd rfl ha
 · omega
theorem U4 {x y : Nd} {op n : Int} (h : isC x y op n = true) :
 (op = 1 ∧ (7 ≤ x.tag ∧ x.tag ≤ 11) ∧ 7 ≤ n ∧ n ≤ 11 ∧ n ≠ x.tag) ∨ (op = 2 ∧ (12 ≤ x.tag ∧ x.tag ≤ 17) ∧ 12 ≤ n ∧ n ≤ 17 ∧ n ≠ x.tag) ∨ (op = 3 ∧ (18 ≤ x.tag ∧ x.tag ≤ 19) ∧ 18 ≤ n ∧ n ≤ 19 ∧ n ≠ x.tag) ∨
 (op = 4 ∧ ((x.tag = 1 ∧ n ≠ x.n) ∨ (x.tag = 2 ∧ n = wrap64 (1 - x.n)))) ∨ (op = 5 ∧ (x.tag = 21 ∨ x.tag = 22 ∨ x.tag = 23 ∨ x.tag = 24 ∨ x.tag = 25) ∧ n = 0) ∨ (op = 6 ∧ (x.tag = 23 ∨ x.tag = 24) ∧ n = 0) ∨ (op = 7 ∧ x.tag = 25 ∧ (n = 0 ∨ n = 1)) := by
 unfold isC at h;by_cases d : op = 1
 · rw [if_pos d, decide_eq_true_eq] at h; exact .inl ⟨d, ⟨h.1, h.2.1⟩, h.2.2.1, h.2.2.2.1, h.2.2.2.2⟩
 rw [if_neg d] at h;by_cases e : op = 2
 · rw [if_pos e, decide_eq_true_eq] at h; exact .inr (.inl ⟨e, ⟨h.1, h.2.1⟩, h.2.2.1, h.2.2.2.1, h.2.2.2.2⟩)
 rw [if_neg e] at h;by_cases g : op = 3
 · rw [if_pos g, decide_eq_true_eq] at h; exact .inr (.inr (.inl ⟨g, ⟨h.1, h.2.1⟩, h.2.2.1, h.2.2.2.1, h.2.2.2.2⟩))
 rw [if_neg g] at h;by_cases i : op = 4
 · rw [if_pos i, decide_eq_true_eq] at h;refine .inr (.inr (.inr (.inl ⟨i, ?_⟩)));rcases h with ⟨b, _, c⟩ | ⟨b, c⟩
   · exact .inl ⟨b, c⟩
   · exact .inr ⟨b, c⟩
 rw [if_neg i] at h;by_cases j : op = 5
 · rw [if_pos j, decide_eq_true_eq] at h; exact .inr (.inr (.inr (.inr (.inl ⟨j, h.1, h.2⟩))))
 rw [if_neg j] at h;by_cases k : op = 6
 · rw [if_pos k, decide_eq_true_eq] at h; exact .inr (.inr (.inr (.inr (.inr (.inl ⟨k, h.1, h.2⟩)))))
 rw [if_neg k] at h;by_cases l : op = 7
 · rw [if_pos l, decide_eq_true_eq] at h; exact .inr (.inr (.inr (.inr (.inr (.inr ⟨l, h.1, h.2.1⟩)))))
 rw [if_neg l] at h;cases h
theorem AhH {V : List Int} {x : Nd} (h : x.tag = 21 ∨ x.tag = 22 ∨ x.tag = 23 ∨ x.tag = 24 ∨ x.tag = 25) (h2 : isZ V x ≠ -1) : isZ V x = 2 := by
 unfold isZ at h2 ⊢;rw [if_neg (by omega), if_neg (by omega), if_neg (by omega), if_neg (by omega), if_neg (by omega), if_neg (by omega), if_neg (by omega), if_neg (by omega)] at h2 ⊢;by_cases b : x.tag = 21
 · rw [if_pos b] at h2 ⊢;split at h2
   · rename_i d; rw [if_pos d]
   · exact absurd rfl h2
 · rw [if_neg b] at h2 ⊢;by_cases c : x.tag = 22
   · rw [if_pos c] at h2 ⊢;split at h2
     · rename_i d; rw [if_pos d]
     · exact absurd rfl h2
   · rw [if_neg c]
theorem Acg (V : List Int) {x : Nd} {n : Nat} (h : x.tag = 23 ∨ x.tag = 24) : ∃ r, QU V x n = 1 :: r := by
 unfold QU;rw [if_neg (by omega), if_neg (by omega), if_neg (by omega), if_neg (by omega), if_neg (by omega)];rcases h with h | h
 · rw [if_pos h]; exact ⟨_, rfl⟩
 · rw [if_neg (by omega), if_pos h]; exact ⟨_, rfl⟩
theorem UR (V : List Int) {x : Nd} {n : Nat} (h : x.tag = 1 ∨ x.tag = 2 ∨ x.tag = 26) : QU V x n = [] := by
 unfold QU;rw [if_neg (by omega), if_neg (by omega), if_neg (by omega), if_neg (by omega), if_neg (by omega), if_neg (by omega), if_neg (by omega), if_pos (by omega)]
theorem Ad4 (V : List Int) {x : Nd} {n : Nat} (h : x.tag = 25) : QU V x n = [0] := by
 unfold QU; rw [if_pos (by omega)]
theorem AiB (V : List Int) {x : Nd} {n : Nat} (h : x.tag = 6) : QU V x n = [1] := by
 unfold QU; rw [if_neg (by omega), if_pos h]
theorem isZ_t {V : List Int} {x : Nd} : (x.tag = 1 → isZ V x = 0) ∧ (x.tag = 2 → isZ V x = 1) ∧ (x.tag = 6 → isZ V x = 1) ∧ (x.tag = 26 → isZ V x = 2) ∧ (7 ≤ x.tag ∧ x.tag ≤ 11 → isZ V x = 0) ∧ (12 ≤ x.tag ∧ x.tag ≤ 19 → isZ V x = 1) := by
 unfold isZ;refine ⟨fun h => ?_, fun h => ?_, fun h => ?_, fun h => ?_, fun h => ?_, fun h => ?_⟩
 · rw [if_pos h]
 · rw [if_neg (by omega), if_pos h]
 · rw [if_neg (by omega), if_neg (by omega), if_neg (by omega), if_neg (by omega), if_neg (by omega), if_pos h]
 · rw [if_neg (by omega), if_neg (by omega), if_neg (by omega), if_neg (by omega), if_neg (by omega), if_neg (by omega), if_neg (by omega), if_neg (by omega), if_neg (by omega), if_neg (by omega)]
 · rw [if_neg (by omega), if_neg (by omega), if_neg (by omega), if_neg (by omega), if_neg (by omega), if_neg (by omega), if_pos h]
 · rw [if_neg (by omega), if_neg (by omega), if_neg (by omega), if_neg (by omega), if_neg (by omega), if_neg (by omega), if_neg (by omega), if_pos h]
theorem XX (V : List Int) {x : Nd} {n : Nat} : (7 ≤ x.tag ∧ x.tag ≤ 17 → QU V x n = [0, 0]) ∧ (18 ≤ x.tag ∧ x.tag ≤ 19 → QU V x n = [1, 1]) := by
 unfold QU;refine ⟨fun h => ?_, fun h => ?_⟩
 · rw [if_neg (by omega), if_neg (by omega), if_pos (by omega)]
 · rw [if_neg (by omega), if_neg (by omega), if_neg (by omega), if_pos (by omega)]
theorem EB {x : Nd} (h : ¬ x.tag = 23) (h2 : ¬ x.tag = 24) : ZB x = false := by unfold ZB; simp [h, h2]
theorem Ai3 {V : List Int} {k : Tr} {y : Nd} {op n : Int} (hk : k.fits) (ht : ofT V k ≠ -1) (hc : isC k.root y op n = true) (hn : k.root.tag = 2 → k.root.n = 0 ∨ k.root.n = 1) :
 (chT op n k).fits ∧ ofT V (chT op n k) = ofT V k ∧ AfE (chT op n k).root.tag k.root.tag := by
 obtain ⟨x, j⟩ := k;obtain ⟨h1, h2, i, m⟩ := KU ht;have o := hk.len;have b := hk.kids;have q : (Tr.node x j).root = x := rfl;rw [q] at hc hn
 have hb : ∀ t : Int, (7 ≤ x.tag ∧ x.tag ≤ 19) → 7 ≤ t ∧ t ≤ 19 → (QU V x j.length = QU V ⟨t, x.n⟩ j.length) → isZ V x = isZ V ⟨t, x.n⟩ → (Tr.node ⟨t, x.n⟩ j).fits ∧ ofT V (.node ⟨t, x.n⟩ j) = ofT V (.node x j) ∧ AfE t x.tag := by
  intro t w z g hi;have ac := AfZ w (by omega);have h2 : Qu x = 2 := VZ (t := x.tag) (n := x.n) (AbO w) (by omega) (by omega) (by omega);refine ⟨.mk _ _ ?_ b, ?_, .inr ⟨by omega, by omega⟩⟩
  · rw [VZ (AbO z) (by omega) (by omega) (by omega), ← o, h2]
  · rw [ofT, ofT, ← g, ← hi, EB (x := ⟨t, x.n⟩) (by simp only; omega) (by simp only; omega), EB (x := x) (by omega) (by omega)]
 rcases U4 hc with ⟨rfl, w, z, h8, _⟩ | ⟨rfl, w, z, h8, _⟩ | ⟨rfl, w, z, h8, _⟩ | ⟨rfl, h⟩ | ⟨rfl, h, rfl⟩ | ⟨rfl, h, rfl⟩ | ⟨rfl, h, _⟩
 · rw [chT, if_pos (by decide)];exact hb n (by omega) (by omega) (by rw [(XX V).1 (by omega), (XX V).1 (by simp only; omega)]) (by rw [isZ_t.2.2.2.2.1 (by omega), isZ_t.2.2.2.2.1 (by simp only; omega)])
 · rw [chT, if_pos (by decide)];exact hb n (by omega) (by omega) (by rw [(XX V).1 (by omega), (XX V).1 (by simp only; omega)]) (by rw [isZ_t.2.2.2.2.2 (by omega), isZ_t.2.2.2.2.2 (by simp only; omega)])
 · rw [chT, if_pos (by decide)];exact hb n (by omega) (by omega) (by rw [(XX V).2 (by omega), (XX V).2 (by simp only; omega)]) (by rw [isZ_t.2.2.2.2.2 (by omega), isZ_t.2.2.2.2.2 (by simp only; omega)])
 · rw [chT, if_neg (by decide), if_pos rfl];have g : QU V x j.length = [] := UR V (by omega);have aa : QU V ⟨x.tag, n⟩ j.length = [] := UR V (by simp only; omega);rw [g] at i;have u : j = [] := L0 (by simpa using i.symm);subst u;refine ⟨.mk _ _ ?_ b, ?_, .inl rfl⟩
   · rcases h with ⟨h, _⟩ | ⟨h, h5⟩
     · unfold Qu; rw [if_pos h]; rfl
     · have hl : Za ⟨x.tag, n⟩ = (1, 0) := by unfold Za; rw [if_pos h]
       have ab : n = 0 ∨ n = 1 := by
        rw [h5]; unfold wrap64;rcases hn h with e | e <;> rw [e] <;> omega
       rw [VZ hl (by omega) (by omega) (by omega)]; rfl
   · have hi : isZ V ⟨x.tag, n⟩ = isZ V x := by
      rcases h with ⟨h, _⟩ | ⟨h, _⟩
      · rw [(isZ_t (x := x)).1 h, (isZ_t (x := ⟨x.tag, n⟩)).1 h]
      · rw [(isZ_t (x := x)).2.1 h, (isZ_t (x := ⟨x.tag, n⟩)).2.1 h]
     rw [ofT, ofT, g, aa, hi];simp [Zb]
 · rw [chT, if_neg (by decide), if_neg (by decide), if_pos rfl];refine ⟨.mk _ _ (by decide) (fun k hk => by cases hk), ?_, .inr ⟨by show ¬ (26 : Int) = 20; decide, by show ¬ x.tag = 20; omega⟩⟩;rw [h1, AhH h h2, ofT, UR V (by simp), isZ_t.2.2.2.1 rfl];simp [Zb]
 · rw [chT, if_neg (by decide), if_neg (by decide), if_neg (by decide), if_pos rfl];obtain ⟨ws, g⟩ := Acg V (n := j.length) h;rw [g] at i m
   match j, o, b, i, m, g with
   | [], _, _, i, _, _ => simp at i
   | c :: r, o, b, i, m, g =>
    have l : ofT V c = 1 := XQ m 0 c 1 rfl rfl;refine ⟨.mk _ _ o fun k hk => ?_, ?_, .inl rfl⟩
    · rcases L2.1 hk with rfl | hk
      · exact .mk _ _ (show Qu ⟨6, 0⟩ = ((1 : Nat) : Int) by decide) fun k hk => by rw [L3.1 hk]; exact b c (by simp)
      · exact b k (by simp [hk])
    · have v : ofT V (.node ⟨6, 0⟩ [c]) = 1 := by
       rw [ofT, AiB V rfl, isZ_t.2.2.1 rfl];simp [Zb, l, EB]
      rw [ofT, ofT, g];have hl : ((Tr.node ⟨6, 0⟩ [c]) :: r).length = (c :: r).length := rfl;rw [Akq, hl, g]
      have p : Zb V (ZB x) true ((Tr.node ⟨6, 0⟩ [c]) :: r) (1 :: ws) = Zb V (ZB x) true (c :: r) (1 :: ws) := by
       rw [Zb, Zb, v, l]; simp
      rw [p]
 · rw [chT, if_neg (by decide), if_neg (by decide), if_neg (by decide), if_neg (by decide)];have g : QU V x j.length = [0] := Ad4 V h;rw [g] at i m
   match j, o, b, i, m, g with
   | [], _, _, i, _, _ => simp at i
   | c :: d :: r, _, _, i, _, _ => simp at i
   | [c], o, b, i, m, g =>
    have l : ofT V c = 0 := XQ m 0 c 0 rfl rfl;refine ⟨.mk _ _ o fun k hk => ?_, ?_, .inl rfl⟩
    · rw [L3.1 hk];exact .mk _ _ (by unfold Qu; rfl) fun k hk => by cases hk
    · have s : ofT V (.node ⟨1, n⟩ []) = 0 := by
       rw [ofT, UR V (by simp), isZ_t.1 rfl];simp [Zb]
      rw [ofT, ofT];show (if isZ V x = -1 ∨ (QU V x 1).length ≠ 1 then _ else _) = (if isZ V x = -1 ∨ (QU V x 1).length ≠ 1 then _ else _)
      have p : Zb V (ZB x) true [(Tr.node ⟨1, n⟩ [])] (QU V x 1) = Zb V (ZB x) true [c] (QU V x 1) := by
       rw [show QU V x 1 = [0] from g]; simp [Zb, s, l]
      rw [show QU V x [Tr.node ⟨1, n⟩ []].length = QU V x 1 from rfl, show QU V x [c].length = QU V x 1 from rfl, p]
theorem Ag8 {l a b : List Nd} {k : Tr} {op n : Int} {V : List Int} {y : Nd} (h : l = a ++ (k.flat ++ b)) (hk : k.fits) (ht : ofT V k ≠ -1) (hc : isC k.root y op n = true) : Jo l a.length k op n = a ++ ((chT op n k).flat ++ b) := by
 obtain ⟨x, e⟩ := k;obtain ⟨_, _, o, _⟩ := KU ht;have d : (Tr.node x e).root = x := rfl;rw [d] at hc;have g : l.take a.length = a := by rw [h]; simp
 have i : l.drop (a.length + 1) = QL e ++ b := by rw [h, Tr.flat]; simp
 have j : l.drop (a.length + (Tr.node x e).size) = b := by
  rw [h, ← L4];exact List.drop_left' (by simp [Tr.size])
 have m : l.take (a.length + 1) = a ++ [x] := by
  rw [h, Tr.flat, show a ++ (x :: QL e ++ b) = (a ++ [x]) ++ (QL e ++ b) by simp];exact N4 (by simp)
 unfold Jo VF En;rw [d];rcases U4 hc with ⟨rfl, _⟩ | ⟨rfl, _⟩ | ⟨rfl, _⟩ | ⟨rfl, h⟩ | ⟨rfl, h, rfl⟩ | ⟨rfl, h, rfl⟩ | ⟨rfl, h, _⟩
 · rw [chT, if_pos (by decide), if_pos (by decide), g, i, Tr.flat]; simp
 · rw [chT, if_pos (by decide), if_pos (by decide), g, i, Tr.flat]; simp
 · rw [chT, if_pos (by decide), if_pos (by decide), g, i, Tr.flat]; simp
 · rw [chT, if_neg (by decide), if_pos rfl, if_neg (by decide), if_pos rfl, g, i, Tr.flat]; simp
 · rw [chT, if_neg (by decide), if_neg (by decide), if_pos rfl, if_neg (by decide), if_neg (by decide), if_pos rfl, g, j, Tr.flat]; simp [QL]
 · rw [chT, if_neg (by decide), if_neg (by decide), if_neg (by decide), if_pos rfl, if_neg (by decide), if_neg (by decide), if_neg (by decide), if_pos rfl];simp only;rw [m, i, Tr.flat];obtain ⟨q, p⟩ := Acg V (n := e.length) h;rw [p] at o
   match e, o with
   | c :: r, _ => simp [Akq, QL, Tr.flat]
 · rw [chT, if_neg (by decide), if_neg (by decide), if_neg (by decide), if_neg (by decide), if_neg (by decide), if_neg (by decide), if_neg (by decide), if_neg (by decide)];simp only;rw [m, j, Tr.flat]; simp [QL, Tr.flat]
theorem AdX {x : Nd} {ks : List Tr} (h : (Tr.node x ks).fits) (h2 : x.tag = 2) : x.n = 0 ∨ x.n = 1 := by
 have d := h.len;obtain ⟨a, b⟩ := x;simp only at h2;subst h2;by_cases e : b < 0 ∨ 1 < b
 · have c : Qu ⟨2, b⟩ = -1 := by
    unfold Qu;rw [if_neg (by simp), show Za ⟨2, b⟩ = (1, 0) from by unfold Za; rw [if_pos rfl], if_pos e]
   rw [c] at d; omega
 · simp only; omega
theorem Good.typed {p : PgV} {t : Tr} (h : Good p t) : ofT p.V t ≠ -1 := by rw [h.kind]; decide
theorem Good.change {p : PgV} {t : Tr} (h : Good p t) {d : Dl} (hd : d ∈ Q8 p.body t) : ∃ q k, ZL d.path 0 t = some (q, k) ∧ At p.body q k ∧ ofT p.V k ≠ -1 ∧ isC k.root (U6 p.body (q + 1)) d.op d.n = true ∧ U6 p.body q = k.root ∧
 ∀ m : PgV, m.params = p.params → m.V = p.V → m.body = Jo p.body q k d.op d.n → Good m (XD (chT d.op d.n) d.path t) := by
 obtain ⟨q, k, g, hc⟩ := allZ_mem.1 hd;have hat := Un h.hat g
 have o : U6 p.body q = k.root := by
  obtain ⟨r, u⟩ := hat.here
  have : p.body[q]? = some k.root := by
   have := congrArg (·[0]?) u;obtain ⟨x, ks⟩ := k;simpa [Nv, Tr.flat, Tr.root] using this
  unfold U6; rw [this]; rfl
 have i := Ex h.hat.fits g;have j := Vm h.typed g
 have w : k.root.tag = 2 → k.root.n = 0 ∨ k.root.n = 1 := by
  obtain ⟨x, ks⟩ := k;exact AdX i
 have e : isC k.root (U6 p.body (q + 1)) d.op d.n = true := by
  have l : (d.op, d.n) ∈ Jj (U6 p.body q) (U6 p.body (q + 1)) := hc;rw [o] at l;exact (AbD w).1 l
 refine ⟨q, k, g, hat, j, e, o, fun m m1 m2 m3 => ?_⟩;obtain ⟨c1, c2, c3⟩ := Ai3 i j e w;obtain ⟨k1, s⟩ := Abs g c2 c3;obtain ⟨a, b, f1, f2, f3⟩ := Ey _ _ _ _ _ g
 have c : p.body = t.flat := by
  obtain ⟨r, u⟩ := h.hat.here;have y := congrArg List.length u;have hs := h.size;rw [Lf] at y;have : t.flat.length = p.body.length := hs;have v : r = [] := L0 (by simp at y; omega);subst v;simpa using u
 have hq : q = a.length := by omega
 subst hq
 have z : m.body = (XD (chT d.op d.n) d.path t).flat := by
  rw [m3, f3, Ag8 (c.trans f1) i j e]
 refine ⟨⟨Abr h.hat.fits g (fun _ => c1), [], ?_⟩, ?_, ?_, ?_, ?_⟩
 · rw [z]; simp
 · rw [z]; rfl
 · rw [m1, m2]; exact h.vars
 · rcases s with s | ⟨_, s⟩
   · rw [s, h.tag]
   · exact absurd h.tag s
 · rw [m2, k1, h.kind]
end Go.Proofs.YtkoikjnlpifbjaaGreat
namespace Go.Proofs.YtkoikjnlpifbjaaGreat
open Go.RowKit Go.Deep
theorem Aah : ∀ {l : List Nd} {q : Nat} (y : Nd), q < l.length → l.set q y = l.take q ++ y :: l.drop (q + 1)
 | [], _, _, h => by simp at h
 | x :: l, 0, y, _ => by simp
 | x :: l, q + 1, y, h => by
  rw [List.set_cons_succ, Aah (l := l) y (by simpa using h)]
  simp
theorem Ade : ∀ ks : List Tr, ks.length ≤ (QL ks).length
 | [] => by simp
 | .node x js :: ts => by
  have := Ade ts
  rw [QL, Lf, Tr.flat, Le, Le]
  omega
def Aed (p : PgV) (w : World) : Prop := ∀ (q : Nat) (t : Tr) (W : World), Below w.heap.size w W → At p.body q t → (t.root.tag = 23 ∨ t.root.tag = 24) → q + 1 < p.body.length → Calls Tryz.prog 92 #[.agg (ZH p q 0)] W fun e w' => NdsR (p.body.take (q + 1) ++ (⟨6, 0⟩ :: p.body.drop (q + 1))) W w' e
theorem Agg {p : PgV} {t k : Tr} {π : List Int} {q : Nat} (h : Good p t) (hf : ZL π 0 t = some (q, k)) : K7 p.body π = (q : Int) := by
 unfold K7;rw [if_pos h.whole.endZ];have := Aap π 0 t h.hat;rw [hf] at this;exact this
theorem AaL (p : PgV) (t : Tr) (A : Option Addr) (cap : Nat) (d : Dl) (w : World) (hok : p.ok w) (hra : Rd w A (Qj d.path)) (hπ : d.path.length ≤ 1000000) (hbl : p.body.length ≤ 1000) (hg : Good p t) (hd : d ∈ Q8 p.body t) (hneg : Aed p w) :
 ∃ q k, ZL d.path 0 t = some (q, k) ∧ (∀ m : PgV, m.params = p.params → m.V = p.V → m.body = Jo p.body q k d.op d.n → Good m (XD (chT d.op d.n) d.path t)) ∧
  Calls Tryz.prog 56 #[.agg p.cells, .agg #[.slice A d.path.length cap, .int .i64 d.op, .int .i64 d.n]] w fun e w' => AplR p (Jo p.body q k d.op d.n) w w' e := by
 obtain ⟨q, k, hf, i, z, hc, _, hm⟩ := hg.change hd;refine ⟨q, k, hf, hm, ?_⟩;have l := Agg hg hf;have y : p.V.length ≤ 12 := hg.vars.2.2.1;have hq := i.lt;have hx := i.root;have hs := i.le;obtain ⟨π, op, n⟩ := d;dsimp only at hra hπ hf hc l ⊢;obtain ⟨x, o⟩ := k;have g : (Tr.node x o).root = x := rfl;rw [g] at hc hx;have j : ∀ c : Nat × Nd × Nat, 0 < (VF p.body c).length := fun c => by unfold VF; simp; omega
 have s : op ≤ 3 → Jo p.body q (.node x o) op n = p.body.set q ⟨n, x.n⟩ := fun h => by
  unfold Jo En VF;rw [g, if_pos h, Aah _ hq]
 rcases U4 hc with ⟨rfl, h1, v, u, _⟩ | ⟨rfl, h1, v, u, _⟩ | ⟨rfl, h1, v, u, _⟩ | ⟨rfl, h⟩ | ⟨rfl, h, rfl⟩ | ⟨rfl, h, rfl⟩ | ⟨rfl, h, v⟩
 · exact Aef 1 87 (by decide) rfl (enters_of Tryz.func87 (by kernel_rfl) rfl) p A cap π n q _ w hok hra hπ l hbl y (j _) fun W b => by rw [s (by decide)]; exact Aej p q n x W hx hbl (hok.go b) ⟨h1, v, u⟩
 · exact Aef 2 88 (by decide) rfl (enters_of Tryz.func88 (by kernel_rfl) rfl) p A cap π n q _ w hok hra hπ l hbl y (j _) fun W b => by rw [s (by decide)]; exact Aho p q n x W hx hbl (hok.go b) ⟨h1, v, u⟩
 · exact Aef 3 89 (by decide) rfl (enters_of Tryz.func89 (by kernel_rfl) rfl) p A cap π n q _ w hok hra hπ l hbl y (j _) fun W b => by rw [s (by decide)]; exact Aer p q n x W hx hbl (hok.go b) ⟨h1, v, u⟩
 · refine Aef 4 90 (by decide) rfl (enters_of Tryz.func90 (by kernel_rfl) rfl) p A cap π n q _ w hok hra hπ l hbl y (j _) fun W b => ?_
   have e : Jo p.body q (.node x o) 4 n = p.body.set q ⟨x.tag, n⟩ := by
    unfold Jo En VF;rw [g, if_neg (by decide), if_pos rfl, Aah _ hq]
   rw [e];refine Aek p q n x W hx hbl (hok.go b) ?_;rcases h with ⟨h, _⟩ | ⟨h, h5⟩
   · exact .inl h
   · have v := AdX i.fits h;refine .inr ⟨h, ?_⟩;rw [h5];unfold wrap64;rcases v with e | e <;> rw [e] <;> omega
 · refine Aef 5 91 (by decide) rfl (enters_of Tryz.func91 (by kernel_rfl) rfl) p A cap π 0 q _ w hok hra hπ l hbl y (j _) fun W b => ?_
   have e : Jo p.body q (.node x o) 5 0 = p.body.take q ++ ([⟨26, 0⟩] ++ p.body.drop (q + (Tr.node x o).size)) := by
    unfold Jo En VF;rw [g, if_neg (by decide), if_neg (by decide), if_pos rfl];rfl
   rw [e];exact Ahp p q (.node x o) W i hbl (hok.go b) h
 · refine Aef 6 92 (by decide) rfl (enters_of Tryz.func92 (by kernel_rfl) rfl) p A cap π 0 q _ w hok hra hπ l hbl y (j _) fun W b => ?_
   have e : Jo p.body q (.node x o) 6 0 = p.body.take (q + 1) ++ (⟨6, 0⟩ :: p.body.drop (q + 1)) := by
    unfold Jo En VF;rw [g, if_neg (by decide), if_neg (by decide), if_neg (by decide), if_pos rfl]
   rw [e];refine hneg q (.node x o) W b i h ?_;obtain ⟨_, _, u, _⟩ := KU z;obtain ⟨ws, hw⟩ := Acg p.V (n := o.length) h;rw [hw] at u;have h4 := Ade o;have h5 : (Tr.node x o).size = (QL o).length + 1 := by unfold Tr.size; rw [Tr.flat, Le]
   simp only [Le] at u;omega
 · refine Aef 7 93 (by decide) rfl (enters_of Tryz.func93 (by kernel_rfl) rfl) p A cap π n q _ w hok hra hπ l hbl y (j _) fun W b => ?_
   obtain ⟨_, _, u, _⟩ := KU z;rw [Ad4 p.V h] at u
   match o, u, i, hf, z with
   | [c], _, i, _, _ =>
    have ab : (Tr.node x [c]).size = 1 + c.size := by unfold Tr.size; rw [Tr.flat, Le, QL, QL, Na]; omega
    have aa : At p.body (q + 1) c := by
     obtain ⟨r, hr⟩ := i.here;refine ⟨i.fits.kids c (by simp), r, ?_⟩;rw [← Nn, hr, Tr.flat, QL, QL, Na];rfl
    have e : Jo p.body q (.node x [c]) 7 n = p.body.take (q + 1) ++ ([⟨1, n⟩] ++ p.body.drop (q + 1 + c.size)) := by
     unfold Jo En VF;rw [g, if_neg (by decide), if_neg (by decide), if_neg (by decide), if_neg (by decide), ab];simp only;rw [show q + (1 + c.size) = q + 1 + c.size by omega];rfl
    rw [e];exact Aha p q n (.node x [c]) c W i aa hbl (hok.go b) h
theorem AeS (p : PgV) (t : Tr) (x : DlV) (w : World) (hok : p.ok w) (hx : DlOk w x) (hbl : p.body.length ≤ 1000) (hg : Fine p t) (hd : x.d ∈ Q8 p.body t) (hneg : ∀ W, p.ok W → Aed p W) :
 ∃ q k, ZL x.d.path 0 t = some (q, k) ∧ (∀ m : PgV, m.params = p.params → m.V = p.V → m.body = Jo p.body q k x.d.op x.d.n → Good m (XD (chT x.d.op x.d.n) x.d.path t)) ∧
  Calls Tryz.prog 21 #[.agg p.cells, .agg x.cells] w fun e w' => AplR p (Jo p.body q k x.d.op x.d.n) w w' e := by
 obtain ⟨q, k, hf, hm, _⟩ := AaL p t x.A x.cap x.d w hok hx.1 hx.2 hbl hg.good hd (hneg w hok);refine ⟨q, k, hf, hm, ?_⟩;obtain ⟨bd, s⟩ : ∃ bd, bd = Jo p.body q k x.d.op x.d.n := ⟨_, rfl⟩;rw [← s]
 have HA : Hid (∀ W, Below w.heap.size w W → Calls Tryz.prog 56 #[.agg p.cells, .agg x.cells] W fun e w' => AplR p bd W w' e) := fun W b => by
  obtain ⟨q', k', j, _, h⟩ := AaL p t x.A x.cap x.d W (hok.go b) (hx.1.go b) hx.2 hbl hg.good hd (hneg W (hok.go b));rw [hf] at j;injection j with j;injection j with h1 h2;subst h1 h2;rw [s];exact h
 have HS : Hid (∀ W, Below w.heap.size w W → Calls Tryz.prog 15 #[.agg p.cells] W fun e w' => AllR p W w' e) := fun W b => KQ p hbl W (hok.go b);have HX : Hid (∀ W, Below w.heap.size w W → DlOk W x) := fun W b => ⟨hx.1.go b, hx.2⟩;have Hd := Lv hd;have Hg := Lv hg;have Hc := Lv (checkP_ok.2 ⟨t, hg⟩);clear hok hx hbl hg hd hneg hf hm s;go_enter Tryz.func21, Tryz.ntmps21
 go_wp2_with (refine Qm _ _ rfl ?_)
 refine Stop.to ?_;refine Qe rfl 25 _ rfl p.cells rfl ?_;intro G Gw Gh Gr Gb;go_wp2_with (refine Qm _ _ rfl ?_)
 refine Stop.to ?_;refine Qe rfl 50 _ rfl x.cells rfl ?_;intro D Dw Dh Dr Db;go_wp2_with (first | fail | (refine QE _ rfl ?_))
 refine Stop.to ?_;refine Qi rfl 25 rfl _ _ XZ rfl ?_;intro R Rw Rh Rr Rb;have b1 := (Below.refl w.heap.size w).trans (Gb.mono Gh);have b2 := b1.trans ((Db.mono Dh).mono b1.size);have b3 := b2.trans ((Rb.mono Rh).mono b2.size);have hR : w.heap.size ≤ R := Li b2.size Rh;have rG := (Gr.below Db (Lg Gr.lt Dh));have c := rG.below Rb (Lg rG.lt Rh);have l := Dr.below Rb (Lg Dr.lt Rh);have i : Row Rw R 25 #[.int .i64 0, .slice none 0 0, .slice none 0 0] := Rr;have H1 := Lv (HS.out _ b3);clear Gr Gb Gh Dr Db Dh Rb Rh rG b1 b2 Rr HS;go_wp2_with (refine wpList_load_row rfl 25 _ rfl G rfl 25 p.cells (0, 0) _ c Tryz.underlying25 rfl (by kernel_rfl) ?_)
 refine H1.out.mono ?_;rintro e w1 ⟨A, cap, xs, rfl, ad, aa, ac, hT, o, _, ab, b4⟩;rw [Hc.out];have g := o t Hg.out;have b5 := b3.trans (b4.mono b3.size);replace c := c.below b4 c.lt;replace l := l.below b4 l.lt;replace i := i.below b4 i.lt;have v := Lv (Ez A cap xs x w1 ad (by omega) (fun y hy => (hT y hy).ok) (HX.out _ b5) (by rw [g]; exact YJ _ _));have z : Hid (x.d ∈ xs.map DlV.d) := by show _ ∈ _; rw [g]; exact Hd.out
 clear H1 ad aa ac hT o g ab b4 b3;go_wp2_with (refine wpList_load_row rfl 50 _ rfl D rfl 50 x.cells (0, 0) _ l Tryz.underlying50 rfl (by kernel_rfl) ?_)
 refine v.out.mono ?_;rintro e w2 ⟨⟨r, rfl, hr⟩, b6⟩;have ae : ¬ (r < 0) := by have := hr.2 z.out; omega
 have u := b5.trans (b6.mono b5.size);replace c := c.below b6 c.lt;replace l := l.below b6 l.lt;replace i := i.below b6 i.lt;have H2 := Lv (HA.out _ u);clear v z hr b6 b5 HA HX;go_wp2_with (first | (refine wpList_load_row rfl 25 _ rfl G rfl 25 p.cells (0, 0) _ c Tryz.underlying25 rfl (by kernel_rfl) ?_) | (refine wpList_load_row rfl 50 _ rfl D rfl 50 x.cells (0, 0) _ l Tryz.underlying50 rfl (by kernel_rfl) ?_))
 refine H2.out.mono ?_;rintro e w3 ⟨m, rfl, hm, o1, o2, b8⟩;replace i := i.below b8 i.lt;have b9 := u.trans (b8.mono u.size);have p1 := QQ o1 u.size;have p2 := QQ o2 u.size;have Hm := Lv hm;clear H2 c l o1 o2 b8 u hm;go_wp2_with (refine Qp 25 _ _ rfl ?_)
 refine Stop.to ?_;refine Qk rfl 25 _ _ rfl R m.cells rfl rfl 25 _ i (by kernel_rfl) rfl (by simp [PgV.cells, Value.oneCell']) ?_;intro W9 r9 o9;have q1 := QB p1 o9 (QD p1 i (by decide));have q2 := QB p2 o9 (QD p2 i (by decide));have bE := Ql b9 o9 hR;clear p1 p2 b9 o9 i;go_wp2_with fail
 refine bodyPost_ret (QN Tryz.results21 _ _ R 25 _ (0, 0) _ rfl r9 Tryz.underlying25 rfl (by kernel_rfl)) rfl ?_;exact ⟨m, rfl, Hm.out, q1, q2, bE⟩
end Go.Proofs.YtkoikjnlpifbjaaGreat
namespace Go.Proofs.YtkoikjnlpifbjaaGreat
open Go.RowKit
theorem VP {w : World} {base n size : Nat} {e : TypeId} {v : Value} {xs : List Value} (h : w.ownsRow base e size v n xs) : ∃ A cap, v = .slice A n cap ∧ Rd w A xs ∧ n ≤ cap ∧ cap ≤ maxLen ∧ (A = none → cap = 0) ∧ ∀ ad, A = some ad → base ≤ ad.block := by
 have o : xs.length = n * size := h.1;rcases h.2 with ⟨rfl, d⟩ | ⟨g, cap, b, rfl, k, m, l, p, s, t⟩
 · have x : xs = [] := L0 (by rw [o, d, Nat.zero_mul]);subst x;exact ⟨none, 0, by rw [d], Rd.nil _ _, by omega, by unfold maxLen; omega, fun _ => rfl, fun ad e => by cases e⟩
 · refine ⟨some ⟨g, 0, none⟩, cap, rfl, fun j u c => ⟨_, rfl, ?_⟩, l, p, fun e => (by cases e), fun ad e => by cases e; exact k⟩;have q : Row w g e b := m
   exact q.from_ 0 (cs := xs) (fun j v c => by
    rw [LN, ← Nk]
    have i : (b.toList.take (n * size))[j]? = some v := by rw [t]; exact c
    rw [LV (by have := (Ld.1 c).1; omega)] at i; exact i) j u c
end Go.Proofs.YtkoikjnlpifbjaaGreat
namespace Go.Proofs.YtkoikjnlpifbjaaGreat
open Go.RowKit Go.Deep
noncomputable def mutB (p : PgV) (d : Dl) : List Nd := open Classical in if h : ∃ b, ∃ t q k, Fine p t ∧ ZL d.path 0 t = some (q, k) ∧ b = Jo p.body q k d.op d.n then h.choose else []
theorem VN {p : PgV} {d : Dl} {t k : Tr} {q : Nat} (hf : Fine p t) (h : ZL d.path 0 t = some (q, k)) : mutB p d = Jo p.body q k d.op d.n := by
 unfold mutB;have c : ∃ b, ∃ t q k, Fine p t ∧ ZL d.path 0 t = some (q, k) ∧ b = Jo p.body q k d.op d.n := ⟨_, t, q, k, hf, h, rfl⟩;rw [dif_pos c];obtain ⟨m, l, j, g, e, i⟩ := c.choose_spec;rw [i];obtain rfl := g.good.whole.uniq hf.good.whole;rw [h] at e;injection e with e;injection e with e1 e2;subst e1 e2;rfl
noncomputable def mutC (p : PgV) (d : Dl) : Int := open Classical in if QI p ≠ 0 then QI p else if ∃ t, Fine p t ∧ d ∈ Q8 p.body t then 0 else 17
theorem AeR {p : PgV} {d : Dl} {t : Tr} (hf : Fine p t) (hd : d ∈ Q8 p.body t) : mutC p d = 0 := by
 unfold mutC; rw [if_neg (by rw [checkP_ok.2 ⟨t, hf⟩]; simp), if_pos ⟨t, hf, hd⟩]
theorem Aju {p : PgV} {d : Dl} {t : Tr} (hf : Fine p t) (hd : d ∉ Q8 p.body t) : mutC p d = 17 := by
 unfold mutC; rw [if_neg (by rw [checkP_ok.2 ⟨t, hf⟩]; simp), if_neg (fun ⟨u, h1, h2⟩ => hd (by rw [hf.good.whole.uniq h1.good.whole]; exact h2))]
theorem Akp {p : PgV} {d : Dl} (h : QI p ≠ 0) : mutC p d = QI p := by unfold mutC; rw [if_pos h]
theorem Ajv {p : PgV} {d : Dl} (h : mutC p d = 0) : ∃ t, Fine p t ∧ d ∈ Q8 p.body t := by
 unfold mutC at h;split at h
 · rename_i b; exact absurd h b
 · split at h
   · assumption
   · cases h
structure IsMut (p : PgV) (d : Dl) (m : PgV) : Prop where
 par : m.params = p.params
 vars : m.V = p.V
 body : m.body = mutB p d
theorem AhS {p m : PgV} {d : Dl} (h : IsMut p d m) (hc : mutC p d = 0) : ∃ t, Good m t := by
 obtain ⟨t, b, g⟩ := Ajv hc;obtain ⟨q, k, c, _, _, _, _, e⟩ := b.good.change g;exact ⟨_, e m h.par h.vars (h.body.trans (VN b c))⟩
theorem Akl {x y : Nd} {op n : Int} (h : isC x y op n = true) : InI n := by
 unfold isC at h;have b : ∀ a : Int, InI (wrap64 a) := fun a => by unfold wrap64 InI; omega
 by_cases c : op = 1
 · rw [if_pos c, decide_eq_true_eq] at h; unfold InI; omega
 rw [if_neg c] at h;by_cases d : op = 2
 · rw [if_pos d, decide_eq_true_eq] at h; unfold InI; omega
 rw [if_neg d] at h;by_cases e : op = 3
 · rw [if_pos e, decide_eq_true_eq] at h; unfold InI; omega
 rw [if_neg e] at h;by_cases g : op = 4
 · rw [if_pos g, decide_eq_true_eq] at h;rcases h with ⟨_, h | h | h | h | h, _⟩ | ⟨_, h⟩
   · unfold InI; omega
   · unfold InI; omega
   · unfold InI; omega
   · rw [h]; exact b _
   · rw [h]; exact b _
   · rw [h]; exact b _
 rw [if_neg g] at h;by_cases i : op = 5
 · rw [if_pos i, decide_eq_true_eq] at h; unfold InI; omega
 rw [if_neg i] at h;by_cases j : op = 6
 · rw [if_pos j, decide_eq_true_eq] at h; unfold InI; omega
 rw [if_neg j] at h;by_cases k : op = 7
 · rw [if_pos k, decide_eq_true_eq] at h; unfold InI; omega
 rw [if_neg k] at h;cases h
theorem Aid {l : List Nd} {c : Nat × Nd × Nat} {y : Nd} (h : y ∈ VF l c) : y ∈ l ∨ y = c.2.1 := by
 unfold VF at h;rcases L5.1 h with h | h
 · exact .inl (List.mem_of_mem_take h)
 · rcases L2.1 h with h | h
   · exact .inr h
   · exact .inl (List.mem_of_mem_drop h)
theorem AcA {p : PgV} {t : Tr} {d : Dl} {q : Nat} {k : Tr} (hg : Good p t) (hd : d ∈ Q8 p.body t) (hf : ZL d.path 0 t = some (q, k)) (hin : ∀ x ∈ p.body, InI x.tag ∧ InI x.n) : (∀ x ∈ Jo p.body q k d.op d.n, InI x.tag ∧ InI x.n) ∧ (Jo p.body q k d.op d.n).length ≤ p.body.length + 1 := by
 obtain ⟨v, u, e, i, _, l, _, _⟩ := hg.change hd;rw [hf] at e;injection e with e;injection e with e1 e2;subst e1 e2;have g := Akl l;have s := k.size_eq;have m := i.le;have j := hin _ (Lj i.root);have c : InI 0 ∧ InI 1 ∧ InI 6 ∧ InI 26 := by unfold InI; omega
 have b : InI (En k.root q k.size d.op d.n).2.1.tag ∧ InI (En k.root q k.size d.op d.n).2.1.n := by
  unfold En;split
  · exact ⟨g, j.2⟩
  · split
    · exact ⟨j.1, g⟩
    · split
      · exact ⟨c.2.2.2, c.1⟩
      · split
        · exact ⟨c.2.2.1, c.1⟩
        · exact ⟨c.2.1, g⟩
 constructor
 · intro x o;rcases Aid o with h | h
   · exact hin x h
   · rw [h]; exact b
 · unfold Jo VF;rw [Lf, Le, L7, LU];unfold En;split
   · simp only; omega
   · split
     · simp only; omega
     · split
       · simp only; omega
       · split <;> (simp only; omega)
theorem AeT (p : PgV) (hbl : p.body.length ≤ 1000) (W : World) (hok : p.ok W) : Aed p W := fun q t W2 b hat h hq => Ahl p q t W2 hat hbl (hok.go b) h hq
theorem AplR.okm {p : PgV} {bd : List Nd} {w w' : World} {e : Ending} (h : AplR p bd w w' e) (hok : p.ok w) (hin : ∀ x ∈ bd, InI x.tag ∧ InI x.n) : ∃ m : PgV, e = .returned (.tuple #[.agg m.cells, .int .i64 0]) ∧ (m.params = p.params ∧ m.V = p.V ∧ m.body = bd) ∧ m.ok w' ∧ (∀ ad, m.va = some ad ∨ m.ba = some ad → w.heap.size ≤ ad.block) ∧ Below w.heap.size w w' := by
 obtain ⟨m, h1, b, s, t, h5⟩ := h;refine ⟨m, h1, b, ?_, ?_, h5⟩;rotate_left
 · obtain ⟨A, c, i, _, _, _, _, y⟩ := VP s;obtain ⟨B, c2, j, _, _, _, _, z⟩ := VP t;injection i with x1 _ _;injection j with y1 _ _;intro ad h;rcases h with h | h
   · exact y ad (x1 ▸ h)
   · exact z ad (y1 ▸ h)
 obtain ⟨A, c, i, u, k, l, d, _⟩ := VP s;obtain ⟨B, c2, j, v, o, q, g, _⟩ := VP t;injection i with x1 _ x3;injection j with y1 _ y3;rw [← x1] at u d;rw [← y1] at v g;rw [← x3] at k l d;rw [← y3] at o q g;exact ⟨by rw [b.1]; exact hok.par, k, l, d, u, by rw [b.2.1]; exact hok.vin, o, q, g, v, by rw [b.2.2]; exact hin⟩
end Go.Proofs.YtkoikjnlpifbjaaGreat
