/- Lemmas for VerdictMoreP. -/
import Derived.Test.YtdcmppdhdcjpfaaGreatZr3
import Derived.Test.YtdcmppdhdcjpfaaGreatZr10
import Derived.Test.YtdcmppdhdcjpfaaGreatZr21
import Derived.Test.YtdcmppdhdcjpfaaGreatZr15
import Derived.Test.YtdcmppdhdcjpfaaGreatZr1
set_option linter.unusedVariables false
set_option linter.unusedSimpArgs false
set_option maxRecDepth 100000
set_option maxHeartbeats 16000000
namespace Go.Proofs.YtdcmppdhdcjpfaaGreat
open Go.RowKit
def Vg (x : Nd) (q s : Nat) (op n : Int) : Nat × Nd × Nat :=
 if op ≤ 3 then (q, ⟨n, x.n⟩, q + 1) else if op = 4 then (q, ⟨x.tag, n⟩, q + 1) else if op = 5 then (q, ⟨26, 0⟩, q + s) else if op = 6 then (q + 1, ⟨6, 0⟩, q + 1) else (q + 1, ⟨1, n⟩, q + s)
def UM (l : List Nd) (c : Nat × Nd × Nat) : List Nd := l.take c.1 ++ (c.2.1 :: l.drop c.2.2)
def Z3 (l : List Nd) (q : Nat) (k : Tr) (op n : Int) : List Nd := UM l (Vg k.root q k.size op n)
def Aix : List Tr → List Tr
 | [] => []
 | c :: r => .node ⟨6, 0⟩ [c] :: r
def chT (op n : Int) : Tr → Tr
 | .node x ks => if op ≤ 3 then .node ⟨n, x.n⟩ ks else if op = 4 then .node ⟨x.tag, n⟩ ks else if op = 5 then .node ⟨26, 0⟩ [] else
  if op = 6 then .node x (Aix ks) else .node x [.node ⟨1, n⟩ []]
mutual
def K5 (f : Tr → Tr) : List Int → Tr → Tr
 | [], t => f t
 | i :: π, .node x ks => .node x (XF f π i.toNat ks)
def XF (f : Tr → Tr) (π : List Int) : Nat → List Tr → List Tr
 | _, [] => []
 | 0, t :: ts => K5 f π t :: ts
 | i + 1, t :: ts => t :: XF f π i ts
end
theorem Ee (f : Tr → Tr) (π : List Int) : ∀ (i : Nat) (ks : List Tr), (XF f π i ks).length = ks.length
 | _, [] => by simp [XF]
 | 0, t :: ts => by simp [XF]
 | i + 1, t :: ts => by simp [XF, Ee f π i ts]
theorem Aao : ∀ (ts : List Tr) (p i : Nat) (r : Nat) (k : Tr), (Ze p ts)[i]? = some r → ts[i]? = some k → ∃ a b : List Nd, QF ts = a ++ (k.flat ++ b) ∧ r = p + a.length ∧ ∀ (f : Tr → Tr) (π : List Int), QF (XF f π i ts) = a ++ ((K5 f π k).flat ++ b)
 | [], _, _, _, _, h, _ => by simp [Ze] at h
 | t :: ts, p, 0, r, k, h1, h2 => by
  simp [Ze] at h1 h2
  subst h1 h2
  exact ⟨[], QF ts, by simp [QF], by simp, fun f π => by simp [XF, QF]⟩
 | t :: ts, p, i + 1, r, k, h1, h2 => by
  simp [Ze] at h1 h2
  obtain ⟨a, b, e1, e2, e3⟩ := Aao ts (p + t.size) i r k h1 h2
  refine ⟨t.flat ++ a, b, by rw [QF, e1, List.append_assoc], by rw [e2, List.length_append]; show p + t.flat.length + a.length = _; omega, fun f π => ?_⟩
  rw [XF, QF, e3, List.append_assoc]
theorem Vo : ∀ (π : List Int) (q r : Nat) (t k : Tr), Zx π q t = some (r, k) → ∃ a b : List Nd, t.flat = a ++ (k.flat ++ b) ∧ r = q + a.length ∧ ∀ f : Tr → Tr, (K5 f π t).flat = a ++ ((f k).flat ++ b)
 | [], q, r, t, k, h => by
  simp [Zx] at h
  obtain ⟨rfl, rfl⟩ := h
  exact ⟨[], [], by simp, by simp, fun f => by simp [K5]⟩
 | i :: π, q, r, .node x ks, k, h => by
  rw [Zx] at h
  split at h
  · cases h
  · split at h
    · rename_i s u h1 h2
      obtain ⟨a, b, e1, e2, e3⟩ := Aao ks (q + 1) i.toNat s u h1 h2
      obtain ⟨a2, b2, g1, g2, g3⟩ := Vo π s r u k h
      refine ⟨x :: (a ++ a2), b2 ++ b, by rw [Tr.flat, e1, g1]; simp, by rw [g2, e2]; simp; omega, fun f => ?_⟩
      rw [K5, Tr.flat, e3, g3]
      simp
    · cases h
theorem Xs {π : List Int} {i : Int} {q r : Nat} {x : Nd} {ks : List Tr} {k : Tr} (h : Zx (i :: π) q (.node x ks) = some (r, k)) : ∃ s u, (Ze (q + 1) ks)[i.toNat]? = some s ∧ ks[i.toNat]? = some u ∧ Zx π s u = some (r, k) := by
 rw [Zx] at h
 split at h
 · cases h
 · split at h
   · rename_i s u h1 h2; exact ⟨s, u, h1, h2, h⟩
   · cases h
theorem AcC (f : Tr → Tr) (π : List Int) : ∀ (ks : List Tr) (i j : Nat) (u : Tr), ks[i]? = some u → (XF f π i ks)[j]? = if j = i then some (K5 f π u) else ks[j]?
 | [], i, _, _, h => by simp at h
 | t :: ts, 0, j, u, h => by
  simp at h; subst h
  cases j with
  | zero => simp [XF]
  | succ j => simp [XF]
 | t :: ts, i + 1, j, u, h => by
  simp at h
  cases j with
  | zero => simp [XF]
  | succ j => simp [XF, AcC f π ts i j u h]
theorem Aam {f : Tr → Tr} : ∀ {π : List Int} {q r : Nat} {t k : Tr}, t.fits → Zx π q t = some (r, k) → (k.fits → (f k).fits) → (K5 f π t).fits
 | [], q, r, t, k, ht, h, hf => by
  simp [Zx] at h
  obtain ⟨_, rfl⟩ := h
  rw [K5]; exact hf ht
 | i :: π, q, r, .node x ks, k, ht, h, hf => by
  obtain ⟨s, u, h1, h2, h3⟩ := Xs h
  cases ht with
  | mk _ _ ha hk =>
   rw [K5]
   refine .mk _ _ (by rw [Ee]; exact ha) fun c hc => ?_
   obtain ⟨j, hj⟩ := List.mem_iff_getElem?.1 hc
   rw [AcC f π ks i.toNat j u h2] at hj
   split at hj
   · injection hj with hj
     subst hj
     exact Aam (hk u (List.mem_of_getElem? h2)) h3 hf
   · exact hk c (List.mem_of_getElem? hj)
theorem Vn : ∀ {π : List Int} {q r : Nat} {t k : Tr}, t.fits → Zx π q t = some (r, k) → k.fits
 | [], q, r, t, k, ht, h => by simp [Zx] at h; obtain ⟨_, rfl⟩ := h; exact ht
 | i :: π, q, r, .node x ks, k, ht, h => by
  obtain ⟨s, u, h1, h2, h3⟩ := Xs h
  cases ht with
  | mk _ _ ha hk => exact Vn (hk u (List.mem_of_getElem? h2)) h3
theorem VD {V : List Int} {inn : Bool} {f : Tr → Tr} {π : List Int} : ∀ (ts : List Tr) (ws : List Int) (b : Bool) (i : Nat) (u : Tr), ts[i]? = some u → ofT V (K5 f π u) = ofT V u → (K5 f π u).root.tag = u.root.tag ∨ (¬ (K5 f π u).root.tag = 20 ∧ ¬ u.root.tag = 20) → Q3 V inn b (XF f π i ts) ws = Q3 V inn b ts ws
 | [], _, _, i, u, h, _, _ => by simp at h
 | t :: ts, [], b, i, u, h, _, _ => by
  cases i <;> simp [XF, Q3]
 | t :: ts, w :: ws, b, 0, u, h, h1, h2 => by
  simp at h; subst h
  have e : ((K5 f π t).root.tag == 20) = (t.root.tag == 20) := by
   rcases h2 with h2 | ⟨h2, h3⟩
   · rw [h2]
   · rw [Bool.eq_iff_iff, beq_iff_eq, beq_iff_eq]
     exact ⟨fun h => absurd h h2, fun h => absurd h h3⟩
  rw [XF, Q3, Q3, h1, e]
 | t :: ts, w :: ws, b, i + 1, u, h, h1, h2 => by
  simp at h
  rw [XF, Q3, Q3, VD ts ws false i u h h1 h2]
theorem Ah4 {V : List Int} {x : Nd} {n : Nat} (hx : isZ V x ≠ -1) (h : (-1 : Int) ∈ QM V x n) : False := by
 unfold QM at h
 repeat' split at h
 all_goals (try (simp at h; done))
 · rename_i _ _ _ _ h21
   have hp : JZ V x.n = true := by
    by_cases hp : JZ V x.n = true
    · exact hp
    · exfalso
      apply hx
      unfold isZ
      rw [if_neg (by omega), if_neg (by omega), if_neg (by omega), if_neg (by omega), if_neg (by omega), if_neg (by omega), if_neg (by omega), if_neg (by omega), if_pos h21, if_neg hp]
   obtain ⟨t, ht, h01⟩ := Xz hp
   rw [ht] at h
   simp at h
   omega
theorem Uy {V : List Int} : ∀ {π : List Int} {q r : Nat} {t k : Tr}, ofT V t ≠ -1 → Zx π q t = some (r, k) → ofT V k ≠ -1
 | [], q, r, t, k, ht, h => by simp [Zx] at h; obtain ⟨_, rfl⟩ := h; exact ht
 | i :: π, q, r, .node x ks, k, ht, h => by
  obtain ⟨s, u, h1, h2, h3⟩ := Xs h
  obtain ⟨_, g2, g3, g4⟩ := Kx ht
  have hl : i.toNat < (QM V x ks.length).length := by rw [g3]; exact (List.getElem?_eq_some_iff.1 h2).1
  have := Xg g4 i.toNat u _ h2 (List.getElem?_eq_getElem hl)
  refine Uy (t := u) ?_ h3
  rw [this]
  intro e
  have hm : (-1 : Int) ∈ QM V x ks.length := by rw [← e]; exact List.getElem_mem hl
  exact Ah4 g2 hm
def Aeq (a b : Int) : Prop := a = b ∨ (¬ a = 20 ∧ ¬ b = 20)
theorem Aan {V : List Int} {f : Tr → Tr} : ∀ {π : List Int} {q r : Nat} {t k : Tr}, Zx π q t = some (r, k) → ofT V (f k) = ofT V k → Aeq (f k).root.tag k.root.tag → ofT V (K5 f π t) = ofT V t ∧ Aeq (K5 f π t).root.tag t.root.tag
 | [], q, r, t, k, h, h1, h2 => by simp [Zx] at h; obtain ⟨_, rfl⟩ := h; rw [K5]; exact ⟨h1, h2⟩
 | i :: π, q, r, .node x ks, k, h, h1, h2 => by
  obtain ⟨s, u, g1, g2, g3⟩ := Xs h
  obtain ⟨e1, e2⟩ := Aan g3 h1 h2
  rw [K5]
  refine ⟨?_, .inl rfl⟩
  rw [ofT, ofT, Ee, VD ks _ _ i.toNat u g2 e1 e2]
theorem Tr.fits.len {x : Nd} {ks : List Tr} (h : (Tr.node x ks).fits) : Qv x = (ks.length : Int) := by cases h; assumption
theorem Tr.fits.kids {x : Nd} {ks : List Tr} (h : (Tr.node x ks).fits) : ∀ k ∈ ks, k.fits := by cases h; assumption
theorem U2 {t n m a : Int} (h : Q2 ⟨t, n⟩ = (m, a)) (ht : ¬ t = 1) (h0 : 0 ≤ n) (h1 : n ≤ m) : Qv ⟨t, n⟩ = a := by
 unfold Qv
 rw [if_neg ht, h, if_neg (by simp only; omega)]
theorem AaP {t n : Int} (h : 7 ≤ t ∧ t ≤ 19) : Q2 ⟨t, n⟩ = (0, 2) := by
 unfold Q2
 simp only
 rw [if_neg (by omega), if_neg (by omega), if_neg (by omega), if_neg (by omega), if_neg (by omega), if_neg (by omega), if_neg (by omega), if_neg (by omega), if_neg (by omega), if_pos h]
theorem AeJ {x : Nd} (h : 7 ≤ x.tag ∧ x.tag ≤ 19) (ha : Qv x ≠ -1) : x.n = 0 := by
 unfold Qv at ha
 rw [if_neg (by omega), show Q2 x = (0, 2) from AaP (t := x.tag) (n := x.n) h] at ha
 by_cases h2 : x.n < 0 ∨ 0 < x.n
 · rw [if_pos h2] at ha; exact absurd rfl ha
 · omega
theorem Uc {x y : Nd} {op n : Int} (h : isC x y op n = true) :
 (op = 1 ∧ (7 ≤ x.tag ∧ x.tag ≤ 11) ∧ 7 ≤ n ∧ n ≤ 11 ∧ n ≠ x.tag) ∨ (op = 2 ∧ (12 ≤ x.tag ∧ x.tag ≤ 17) ∧ 12 ≤ n ∧ n ≤ 17 ∧ n ≠ x.tag) ∨ (op = 3 ∧ (18 ≤ x.tag ∧ x.tag ≤ 19) ∧ 18 ≤ n ∧ n ≤ 19 ∧ n ≠ x.tag) ∨
 (op = 4 ∧ ((x.tag = 1 ∧ n ≠ x.n) ∨ (x.tag = 2 ∧ n = wrap64 (1 - x.n)))) ∨ (op = 5 ∧ (x.tag = 21 ∨ x.tag = 22 ∨ x.tag = 23 ∨ x.tag = 24 ∨ x.tag = 25) ∧ n = 0) ∨ (op = 6 ∧ (x.tag = 23 ∨ x.tag = 24) ∧ n = 0) ∨ (op = 7 ∧ x.tag = 25 ∧ (n = 0 ∨ n = 1)) := by
 unfold isC at h
 by_cases o1 : op = 1
 · rw [if_pos o1, decide_eq_true_eq] at h; exact .inl ⟨o1, ⟨h.1, h.2.1⟩, h.2.2.1, h.2.2.2.1, h.2.2.2.2⟩
 rw [if_neg o1] at h
 by_cases o2 : op = 2
 · rw [if_pos o2, decide_eq_true_eq] at h; exact .inr (.inl ⟨o2, ⟨h.1, h.2.1⟩, h.2.2.1, h.2.2.2.1, h.2.2.2.2⟩)
 rw [if_neg o2] at h
 by_cases o3 : op = 3
 · rw [if_pos o3, decide_eq_true_eq] at h; exact .inr (.inr (.inl ⟨o3, ⟨h.1, h.2.1⟩, h.2.2.1, h.2.2.2.1, h.2.2.2.2⟩))
 rw [if_neg o3] at h
 by_cases o4 : op = 4
 · rw [if_pos o4, decide_eq_true_eq] at h
   refine .inr (.inr (.inr (.inl ⟨o4, ?_⟩)))
   rcases h with ⟨h1, _, h2⟩ | ⟨h1, h2⟩
   · exact .inl ⟨h1, h2⟩
   · exact .inr ⟨h1, h2⟩
 rw [if_neg o4] at h
 by_cases o5 : op = 5
 · rw [if_pos o5, decide_eq_true_eq] at h; exact .inr (.inr (.inr (.inr (.inl ⟨o5, h.1, h.2⟩))))
 rw [if_neg o5] at h
 by_cases o6 : op = 6
 · rw [if_pos o6, decide_eq_true_eq] at h; exact .inr (.inr (.inr (.inr (.inr (.inl ⟨o6, h.1, h.2⟩)))))
 rw [if_neg o6] at h
 by_cases o7 : op = 7
 · rw [if_pos o7, decide_eq_true_eq] at h; exact .inr (.inr (.inr (.inr (.inr (.inr ⟨o7, h.1, h.2.1⟩)))))
 rw [if_neg o7] at h
 cases h
theorem Af6 {V : List Int} {x : Nd} (h : x.tag = 21 ∨ x.tag = 22 ∨ x.tag = 23 ∨ x.tag = 24 ∨ x.tag = 25) (h2 : isZ V x ≠ -1) : isZ V x = 2 := by
 unfold isZ at h2 ⊢
 rw [if_neg (by omega), if_neg (by omega), if_neg (by omega), if_neg (by omega), if_neg (by omega), if_neg (by omega), if_neg (by omega), if_neg (by omega)] at h2 ⊢
 by_cases h21 : x.tag = 21
 · rw [if_pos h21] at h2 ⊢
   split at h2
   · rename_i hp; rw [if_pos hp]
   · exact absurd rfl h2
 · rw [if_neg h21] at h2 ⊢
   by_cases h22 : x.tag = 22
   · rw [if_pos h22] at h2 ⊢
     split at h2
     · rename_i hp; rw [if_pos hp]
     · exact absurd rfl h2
   · rw [if_neg h22]
theorem Abg (V : List Int) {x : Nd} {n : Nat} (h : x.tag = 23 ∨ x.tag = 24) : ∃ r, QM V x n = 1 :: r := by
 unfold QM
 rw [if_neg (by omega), if_neg (by omega), if_neg (by omega), if_neg (by omega), if_neg (by omega)]
 rcases h with h | h
 · rw [if_pos h]; exact ⟨_, rfl⟩
 · rw [if_neg (by omega), if_pos h]; exact ⟨_, rfl⟩
theorem Y2 (V : List Int) {x : Nd} {n : Nat} (h : x.tag = 1 ∨ x.tag = 2 ∨ x.tag = 26) : QM V x n = [] := by
 unfold QM
 rw [if_neg (by omega), if_neg (by omega), if_neg (by omega), if_neg (by omega), if_neg (by omega), if_neg (by omega), if_neg (by omega), if_pos (by omega)]
theorem AcR (V : List Int) {x : Nd} {n : Nat} (h : x.tag = 25) : QM V x n = [0] := by
 unfold QM; rw [if_pos (by omega)]
theorem AgQ (V : List Int) {x : Nd} {n : Nat} (h : x.tag = 6) : QM V x n = [1] := by
 unfold QM; rw [if_neg (by omega), if_pos h]
theorem isZ_t {V : List Int} {x : Nd} : (x.tag = 1 → isZ V x = 0) ∧ (x.tag = 2 → isZ V x = 1) ∧ (x.tag = 6 → isZ V x = 1) ∧ (x.tag = 26 → isZ V x = 2) ∧ (7 ≤ x.tag ∧ x.tag ≤ 11 → isZ V x = 0) ∧ (12 ≤ x.tag ∧ x.tag ≤ 19 → isZ V x = 1) := by
 unfold isZ
 refine ⟨fun h => ?_, fun h => ?_, fun h => ?_, fun h => ?_, fun h => ?_, fun h => ?_⟩
 · rw [if_pos h]
 · rw [if_neg (by omega), if_pos h]
 · rw [if_neg (by omega), if_neg (by omega), if_neg (by omega), if_neg (by omega), if_neg (by omega), if_pos h]
 · rw [if_neg (by omega), if_neg (by omega), if_neg (by omega), if_neg (by omega), if_neg (by omega), if_neg (by omega), if_neg (by omega), if_neg (by omega), if_neg (by omega), if_neg (by omega)]
 · rw [if_neg (by omega), if_neg (by omega), if_neg (by omega), if_neg (by omega), if_neg (by omega), if_neg (by omega), if_pos h]
 · rw [if_neg (by omega), if_neg (by omega), if_neg (by omega), if_neg (by omega), if_neg (by omega), if_neg (by omega), if_neg (by omega), if_pos h]
theorem Xn (V : List Int) {x : Nd} {n : Nat} : (7 ≤ x.tag ∧ x.tag ≤ 17 → QM V x n = [0, 0]) ∧ (18 ≤ x.tag ∧ x.tag ≤ 19 → QM V x n = [1, 1]) := by
 unfold QM
 refine ⟨fun h => ?_, fun h => ?_⟩
 · rw [if_neg (by omega), if_neg (by omega), if_pos (by omega)]
 · rw [if_neg (by omega), if_neg (by omega), if_neg (by omega), if_pos (by omega)]
theorem Vq {x : Nd} (h : ¬ x.tag = 23) (h2 : ¬ x.tag = 24) : Q4 x = false := by unfold Q4; simp [h, h2]
theorem Ahe {V : List Int} {k : Tr} {y : Nd} {op n : Int} (hk : k.fits) (ht : ofT V k ≠ -1) (hc : isC k.root y op n = true) (hn : k.root.tag = 2 → k.root.n = 0 ∨ k.root.n = 1) :
 (chT op n k).fits ∧ ofT V (chT op n k) = ofT V k ∧ Aeq (chT op n k).root.tag k.root.tag := by
 obtain ⟨x, ks⟩ := k
 obtain ⟨h1, h2, h3, h4⟩ := Kx ht
 have ha := hk.len
 have hks := hk.kids
 have hroot : (Tr.node x ks).root = x := rfl
 rw [hroot] at hc hn
 have hb : ∀ t : Int, (7 ≤ x.tag ∧ x.tag ≤ 19) → 7 ≤ t ∧ t ≤ 19 → (QM V x ks.length = QM V ⟨t, x.n⟩ ks.length) → isZ V x = isZ V ⟨t, x.n⟩ → (Tr.node ⟨t, x.n⟩ ks).fits ∧ ofT V (.node ⟨t, x.n⟩ ks) = ofT V (.node x ks) ∧ Aeq t x.tag := by
  intro t hx h7 hw hi
  have hx0 := AeJ hx (by omega)
  have h2 : Qv x = 2 := U2 (t := x.tag) (n := x.n) (AaP hx) (by omega) (by omega) (by omega)
  refine ⟨.mk _ _ ?_ hks, ?_, .inr ⟨by omega, by omega⟩⟩
  · rw [U2 (AaP h7) (by omega) (by omega) (by omega), ← ha, h2]
  · rw [ofT, ofT, ← hw, ← hi, Vq (x := ⟨t, x.n⟩) (by simp only; omega) (by simp only; omega), Vq (x := x) (by omega) (by omega)]
 rcases Uc hc with ⟨rfl, hx, h7, h8, _⟩ | ⟨rfl, hx, h7, h8, _⟩ | ⟨rfl, hx, h7, h8, _⟩ | ⟨rfl, h⟩ | ⟨rfl, h, rfl⟩ | ⟨rfl, h, rfl⟩ | ⟨rfl, h, _⟩
 · rw [chT, if_pos (by decide)]
   exact hb n (by omega) (by omega) (by rw [(Xn V).1 (by omega), (Xn V).1 (by simp only; omega)]) (by rw [isZ_t.2.2.2.2.1 (by omega), isZ_t.2.2.2.2.1 (by simp only; omega)])
 · rw [chT, if_pos (by decide)]
   exact hb n (by omega) (by omega) (by rw [(Xn V).1 (by omega), (Xn V).1 (by simp only; omega)]) (by rw [isZ_t.2.2.2.2.2 (by omega), isZ_t.2.2.2.2.2 (by simp only; omega)])
 · rw [chT, if_pos (by decide)]
   exact hb n (by omega) (by omega) (by rw [(Xn V).2 (by omega), (Xn V).2 (by simp only; omega)]) (by rw [isZ_t.2.2.2.2.2 (by omega), isZ_t.2.2.2.2.2 (by simp only; omega)])
 · rw [chT, if_neg (by decide), if_pos rfl]
   have hw : QM V x ks.length = [] := Y2 V (by omega)
   have hw2 : QM V ⟨x.tag, n⟩ ks.length = [] := Y2 V (by simp only; omega)
   rw [hw] at h3
   have hks0 : ks = [] := List.eq_nil_of_length_eq_zero (by simpa using h3.symm)
   subst hks0
   refine ⟨.mk _ _ ?_ hks, ?_, .inl rfl⟩
   · rcases h with ⟨h, _⟩ | ⟨h, h5⟩
     · unfold Qv; rw [if_pos h]; rfl
     · have hl : Q2 ⟨x.tag, n⟩ = (1, 0) := by unfold Q2; rw [if_pos h]
       have hnn : n = 0 ∨ n = 1 := by
        rw [h5]; unfold wrap64
        rcases hn h with e | e <;> rw [e] <;> omega
       rw [U2 hl (by omega) (by omega) (by omega)]; rfl
   · have hi : isZ V ⟨x.tag, n⟩ = isZ V x := by
      rcases h with ⟨h, _⟩ | ⟨h, _⟩
      · rw [(isZ_t (x := x)).1 h, (isZ_t (x := ⟨x.tag, n⟩)).1 h]
      · rw [(isZ_t (x := x)).2.1 h, (isZ_t (x := ⟨x.tag, n⟩)).2.1 h]
     rw [ofT, ofT, hw, hw2, hi]
     simp [Q3]
 · rw [chT, if_neg (by decide), if_neg (by decide), if_pos rfl]
   refine ⟨.mk _ _ (by decide) (fun k hk => by cases hk), ?_, .inr ⟨by show ¬ (26 : Int) = 20; decide, by show ¬ x.tag = 20; omega⟩⟩
   rw [h1, Af6 h h2, ofT, Y2 V (by simp), isZ_t.2.2.2.1 rfl]
   simp [Q3]
 · rw [chT, if_neg (by decide), if_neg (by decide), if_neg (by decide), if_pos rfl]
   obtain ⟨ws, hw⟩ := Abg V (n := ks.length) h
   rw [hw] at h3 h4
   match ks, ha, hks, h3, h4, hw with
   | [], _, _, h3, _, _ => simp at h3
   | c :: r, ha, hks, h3, h4, hw =>
    have hc1 : ofT V c = 1 := Xg h4 0 c 1 rfl rfl
    refine ⟨.mk _ _ ha fun k hk => ?_, ?_, .inl rfl⟩
    · rcases List.mem_cons.1 hk with rfl | hk
      · exact .mk _ _ (show Qv ⟨6, 0⟩ = ((1 : Nat) : Int) by decide) fun k hk => by rw [List.mem_singleton.1 hk]; exact hks c (by simp)
      · exact hks k (by simp [hk])
    · have hnot : ofT V (.node ⟨6, 0⟩ [c]) = 1 := by
       rw [ofT, AgQ V rfl, isZ_t.2.2.1 rfl]
       simp [Q3, hc1, Vq]
      rw [ofT, ofT, hw]
      have hl : ((Tr.node ⟨6, 0⟩ [c]) :: r).length = (c :: r).length := rfl
      rw [Aix, hl, hw]
      have hk2 : Q3 V (Q4 x) true ((Tr.node ⟨6, 0⟩ [c]) :: r) (1 :: ws) = Q3 V (Q4 x) true (c :: r) (1 :: ws) := by
       rw [Q3, Q3, hnot, hc1]; simp
      rw [hk2]
 · rw [chT, if_neg (by decide), if_neg (by decide), if_neg (by decide), if_neg (by decide)]
   have hw : QM V x ks.length = [0] := AcR V h
   rw [hw] at h3 h4
   match ks, ha, hks, h3, h4, hw with
   | [], _, _, h3, _, _ => simp at h3
   | c :: d :: r, _, _, h3, _, _ => simp at h3
   | [c], ha, hks, h3, h4, hw =>
    have hc1 : ofT V c = 0 := Xg h4 0 c 0 rfl rfl
    refine ⟨.mk _ _ ha fun k hk => ?_, ?_, .inl rfl⟩
    · rw [List.mem_singleton.1 hk]
      exact .mk _ _ (by unfold Qv; rfl) fun k hk => by cases hk
    · have hint : ofT V (.node ⟨1, n⟩ []) = 0 := by
       rw [ofT, Y2 V (by simp), isZ_t.1 rfl]
       simp [Q3]
      rw [ofT, ofT]
      show (if isZ V x = -1 ∨ (QM V x 1).length ≠ 1 then _ else _) = (if isZ V x = -1 ∨ (QM V x 1).length ≠ 1 then _ else _)
      have hk2 : Q3 V (Q4 x) true [(Tr.node ⟨1, n⟩ [])] (QM V x 1) = Q3 V (Q4 x) true [c] (QM V x 1) := by
       rw [show QM V x 1 = [0] from hw]; simp [Q3, hint, hc1]
      rw [show QM V x [Tr.node ⟨1, n⟩ []].length = QM V x 1 from rfl, show QM V x [c].length = QM V x 1 from rfl, hk2]
theorem AfJ {l a b : List Nd} {k : Tr} {op n : Int} {V : List Int} {y : Nd} (h : l = a ++ (k.flat ++ b)) (hk : k.fits) (ht : ofT V k ≠ -1) (hc : isC k.root y op n = true) : Z3 l a.length k op n = a ++ ((chT op n k).flat ++ b) := by
 obtain ⟨x, ks⟩ := k
 obtain ⟨_, _, h3, _⟩ := Kx ht
 have hroot : (Tr.node x ks).root = x := rfl
 rw [hroot] at hc
 have e0 : l.take a.length = a := by rw [h]; simp
 have e1 : l.drop (a.length + 1) = QF ks ++ b := by rw [h, Tr.flat]; simp
 have e2 : l.drop (a.length + (Tr.node x ks).size) = b := by
  rw [h, ← List.append_assoc]
  exact List.drop_left' (by simp [Tr.size])
 have e3 : l.take (a.length + 1) = a ++ [x] := by
  rw [h, Tr.flat, show a ++ (x :: QF ks ++ b) = (a ++ [x]) ++ (QF ks ++ b) by simp]
  exact List.take_left' (by simp)
 unfold Z3 UM Vg
 rw [hroot]
 rcases Uc hc with ⟨rfl, _⟩ | ⟨rfl, _⟩ | ⟨rfl, _⟩ | ⟨rfl, h⟩ | ⟨rfl, h, rfl⟩ | ⟨rfl, h, rfl⟩ | ⟨rfl, h, _⟩
 · rw [chT, if_pos (by decide), if_pos (by decide), e0, e1, Tr.flat]; simp
 · rw [chT, if_pos (by decide), if_pos (by decide), e0, e1, Tr.flat]; simp
 · rw [chT, if_pos (by decide), if_pos (by decide), e0, e1, Tr.flat]; simp
 · rw [chT, if_neg (by decide), if_pos rfl, if_neg (by decide), if_pos rfl, e0, e1, Tr.flat]; simp
 · rw [chT, if_neg (by decide), if_neg (by decide), if_pos rfl, if_neg (by decide), if_neg (by decide), if_pos rfl, e0, e2, Tr.flat]; simp [QF]
 · rw [chT, if_neg (by decide), if_neg (by decide), if_neg (by decide), if_pos rfl, if_neg (by decide), if_neg (by decide), if_neg (by decide), if_pos rfl]
   simp only
   rw [e3, e1, Tr.flat]
   obtain ⟨ws, hw⟩ := Abg V (n := ks.length) h
   rw [hw] at h3
   match ks, h3 with
   | c :: r, _ => simp [Aix, QF, Tr.flat]
 · rw [chT, if_neg (by decide), if_neg (by decide), if_neg (by decide), if_neg (by decide), if_neg (by decide), if_neg (by decide), if_neg (by decide), if_neg (by decide)]
   simp only
   rw [e3, e2, Tr.flat]; simp [QF, Tr.flat]
theorem AcG {x : Nd} {ks : List Tr} (h : (Tr.node x ks).fits) (h2 : x.tag = 2) : x.n = 0 ∨ x.n = 1 := by
 have ha := h.len
 obtain ⟨a, b⟩ := x
 simp only at h2
 subst h2
 by_cases hn : b < 0 ∨ 1 < b
 · have h3 : Qv ⟨2, b⟩ = -1 := by
    unfold Qv
    rw [if_neg (by simp), show Q2 ⟨2, b⟩ = (1, 0) from by unfold Q2; rw [if_pos rfl], if_pos hn]
   rw [h3] at ha; omega
 · simp only; omega
theorem Good.typed {p : PgV} {t : Tr} (h : Good p t) : ofT p.V t ≠ -1 := by rw [h.kind]; decide
theorem Good.change {p : PgV} {t : Tr} (h : Good p t) {d : Dl} (hd : d ∈ Z5 p.body t) : ∃ q k, Zx d.path 0 t = some (q, k) ∧ At p.body q k ∧ ofT p.V k ≠ -1 ∧ isC k.root (Uf p.body (q + 1)) d.op d.n = true ∧ Uf p.body q = k.root ∧
 ∀ m : PgV, m.params = p.params → m.V = p.V → m.body = Z3 p.body q k d.op d.n → Good m (K5 (chT d.op d.n) d.path t) := by
 obtain ⟨q, k, hf, hc⟩ := allZ_mem.1 hd
 have hat := Vm h.hat hf
 have hnd : Uf p.body q = k.root := by
  obtain ⟨r, hr⟩ := hat.here
  have : p.body[q]? = some k.root := by
   have := congrArg (·[0]?) hr
   obtain ⟨x, ks⟩ := k
   simpa [List.getElem?_drop, Tr.flat, Tr.root] using this
  unfold Uf; rw [this]; rfl
 have hkf := Vn h.hat.fits hf
 have hkt := Uy h.typed hf
 have h2 : k.root.tag = 2 → k.root.n = 0 ∨ k.root.n = 1 := by
  obtain ⟨x, ks⟩ := k
  exact AcG hkf
 have hc' : isC k.root (Uf p.body (q + 1)) d.op d.n = true := by
  have hc2 : (d.op, d.n) ∈ ZE (Uf p.body q) (Uf p.body (q + 1)) := hc
  rw [hnd] at hc2
  exact (AaB h2).1 hc2
 refine ⟨q, k, hf, hat, hkt, hc', hnd, fun m m1 m2 m3 => ?_⟩
 obtain ⟨c1, c2, c3⟩ := Ahe hkf hkt hc' h2
 obtain ⟨k1, k2⟩ := Aan hf c2 c3
 obtain ⟨a, b, f1, f2, f3⟩ := Vo _ _ _ _ _ hf
 have hbody : p.body = t.flat := by
  obtain ⟨r, hr⟩ := h.hat.here
  have hl := congrArg List.length hr
  have hs := h.size
  rw [List.length_append] at hl
  have : t.flat.length = p.body.length := hs
  have hr0 : r = [] := List.eq_nil_of_length_eq_zero (by simp at hl; omega)
  subst hr0
  simpa using hr
 have hq : q = a.length := by omega
 subst hq
 have hm : m.body = (K5 (chT d.op d.n) d.path t).flat := by
  rw [m3, f3, AfJ (hbody.trans f1) hkf hkt hc']
 refine ⟨⟨Aam h.hat.fits hf (fun _ => c1), [], ?_⟩, ?_, ?_, ?_, ?_⟩
 · rw [hm]; simp
 · rw [hm]; rfl
 · rw [m1, m2]; exact h.vars
 · rcases k2 with k2 | ⟨_, k2⟩
   · rw [k2, h.tag]
   · exact absurd h.tag k2
 · rw [m2, k1, h.kind]
end Go.Proofs.YtdcmppdhdcjpfaaGreat
namespace Go.Proofs.YtdcmppdhdcjpfaaGreat
open Go.RowKit Go.Deep
theorem Ef : ∀ {l : List Nd} {q : Nat} (y : Nd), q < l.length → l.set q y = l.take q ++ y :: l.drop (q + 1)
 | [], _, _, h => by simp at h
 | x :: l, 0, y, _ => by simp
 | x :: l, q + 1, y, h => by
  rw [List.set_cons_succ, Ef (l := l) y (by simpa using h)]
  simp
theorem Ab8 : ∀ ks : List Tr, ks.length ≤ (QF ks).length
 | [] => by simp
 | .node x js :: ts => by
  have := Ab8 ts
  rw [QF, List.length_append, Tr.flat, List.length_cons, List.length_cons]
  omega
def Ac1 (p : PgV) (w : World) : Prop := ∀ (q : Nat) (t : Tr) (W : World), Below w.heap.size w W → At p.body q t → (t.root.tag = 23 ∨ t.root.tag = 24) → q + 1 < p.body.length → Calls Tryz.prog 114 #[.agg (Zw p q 0)] W fun e w' => NdsR (p.body.take (q + 1) ++ (⟨6, 0⟩ :: p.body.drop (q + 1))) W w' e
theorem AeU {p : PgV} {t k : Tr} {π : List Int} {q : Nat} (h : Good p t) (hf : Zx π 0 t = some (q, k)) : KF p.body π = (q : Int) := by
 unfold KF
 rw [if_pos h.whole.endZ]
 have := En π 0 t h.hat
 rw [hf] at this
 exact this
theorem EH (p : PgV) (t : Tr) (A : Option Addr) (cap : Nat) (d : Dl) (w : World) (hok : p.ok w) (hra : Rd w A (Qi d.path)) (hπ : d.path.length ≤ 1000000) (hbl : p.body.length ≤ 1000) (hg : Good p t) (hd : d ∈ Z5 p.body t) (hneg : Ac1 p w) :
 ∃ q k, Zx d.path 0 t = some (q, k) ∧ (∀ m : PgV, m.params = p.params → m.V = p.V → m.body = Z3 p.body q k d.op d.n → Good m (K5 (chT d.op d.n) d.path t)) ∧
  Calls Tryz.prog 55 #[.agg p.cells, .agg #[.slice A d.path.length cap, .int .i64 d.op, .int .i64 d.n]] w fun e w' => AplR p (Z3 p.body q k d.op d.n) w w' e := by
 obtain ⟨q, k, hf, hat, hty, hc, _, hm⟩ := hg.change hd
 refine ⟨q, k, hf, hm, ?_⟩
 have hfd := AeU hg hf
 have hV : p.V.length ≤ 12 := hg.vars.2.2.1
 have hq := hat.lt
 have hx := hat.root
 have hs := hat.le
 obtain ⟨π, op, n⟩ := d
 dsimp only at hra hπ hf hc hfd ⊢
 obtain ⟨x, ks⟩ := k
 have hroot : (Tr.node x ks).root = x := rfl
 rw [hroot] at hc hx
 have hpos : ∀ c : Nat × Nd × Nat, 0 < (UM p.body c).length := fun c => by unfold UM; simp; omega
 have e123 : op ≤ 3 → Z3 p.body q (.node x ks) op n = p.body.set q ⟨n, x.n⟩ := fun h => by
  unfold Z3 Vg UM
  rw [hroot, if_pos h, Ef _ hq]
 rcases Uc hc with ⟨rfl, h1, h2, h3, _⟩ | ⟨rfl, h1, h2, h3, _⟩ | ⟨rfl, h1, h2, h3, _⟩ | ⟨rfl, h⟩ | ⟨rfl, h, rfl⟩ | ⟨rfl, h, rfl⟩ | ⟨rfl, h, h2⟩
 · exact Ac3 1 109 (by decide) rfl (enters_of Tryz.func109 (by kernel_rfl) rfl) p A cap π n q _ w hok hra hπ hfd hbl hV (hpos _) fun W b => by rw [e123 (by decide)]; exact Ac7 p q n x W hx hbl (hok.go b) ⟨h1, h2, h3⟩
 · exact Ac3 2 110 (by decide) rfl (enters_of Tryz.func110 (by kernel_rfl) rfl) p A cap π n q _ w hok hra hπ hfd hbl hV (hpos _) fun W b => by rw [e123 (by decide)]; exact AfR p q n x W hx hbl (hok.go b) ⟨h1, h2, h3⟩
 · exact Ac3 3 111 (by decide) rfl (enters_of Tryz.func111 (by kernel_rfl) rfl) p A cap π n q _ w hok hra hπ hfd hbl hV (hpos _) fun W b => by rw [e123 (by decide)]; exact Ade p q n x W hx hbl (hok.go b) ⟨h1, h2, h3⟩
 · refine Ac3 4 112 (by decide) rfl (enters_of Tryz.func112 (by kernel_rfl) rfl) p A cap π n q _ w hok hra hπ hfd hbl hV (hpos _) fun W b => ?_
   have e : Z3 p.body q (.node x ks) 4 n = p.body.set q ⟨x.tag, n⟩ := by
    unfold Z3 Vg UM
    rw [hroot, if_neg (by decide), if_pos rfl, Ef _ hq]
   rw [e]
   refine Ac8 p q n x W hx hbl (hok.go b) ?_
   rcases h with ⟨h, _⟩ | ⟨h, h5⟩
   · exact .inl h
   · have h2 := AcG hat.fits h
     refine .inr ⟨h, ?_⟩
     rw [h5]
     unfold wrap64
     rcases h2 with e | e <;> rw [e] <;> omega
 · refine Ac3 5 113 (by decide) rfl (enters_of Tryz.func113 (by kernel_rfl) rfl) p A cap π 0 q _ w hok hra hπ hfd hbl hV (hpos _) fun W b => ?_
   have e : Z3 p.body q (.node x ks) 5 0 = p.body.take q ++ ([⟨26, 0⟩] ++ p.body.drop (q + (Tr.node x ks).size)) := by
    unfold Z3 Vg UM
    rw [hroot, if_neg (by decide), if_neg (by decide), if_pos rfl]
    rfl
   rw [e]
   exact AfS p q (.node x ks) W hat hbl (hok.go b) h
 · refine Ac3 6 114 (by decide) rfl (enters_of Tryz.func114 (by kernel_rfl) rfl) p A cap π 0 q _ w hok hra hπ hfd hbl hV (hpos _) fun W b => ?_
   have e : Z3 p.body q (.node x ks) 6 0 = p.body.take (q + 1) ++ (⟨6, 0⟩ :: p.body.drop (q + 1)) := by
    unfold Z3 Vg UM
    rw [hroot, if_neg (by decide), if_neg (by decide), if_neg (by decide), if_pos rfl]
   rw [e]
   refine hneg q (.node x ks) W b hat h ?_
   obtain ⟨_, _, h3, _⟩ := Kx hty
   obtain ⟨ws, hw⟩ := Abg p.V (n := ks.length) h
   rw [hw] at h3
   have h4 := Ab8 ks
   have h5 : (Tr.node x ks).size = (QF ks).length + 1 := by unfold Tr.size; rw [Tr.flat, List.length_cons]
   simp only [List.length_cons] at h3
   omega
 · refine Ac3 7 115 (by decide) rfl (enters_of Tryz.func115 (by kernel_rfl) rfl) p A cap π n q _ w hok hra hπ hfd hbl hV (hpos _) fun W b => ?_
   obtain ⟨_, _, h3, _⟩ := Kx hty
   rw [AcR p.V h] at h3
   match ks, h3, hat, hf, hty with
   | [c], _, hat, _, _ =>
    have hsz : (Tr.node x [c]).size = 1 + c.size := by unfold Tr.size; rw [Tr.flat, List.length_cons, QF, QF, List.append_nil]; omega
    have hac : At p.body (q + 1) c := by
     obtain ⟨r, hr⟩ := hat.here
     refine ⟨hat.fits.kids c (by simp), r, ?_⟩
     rw [← List.drop_drop, hr, Tr.flat, QF, QF, List.append_nil]
     rfl
    have e : Z3 p.body q (.node x [c]) 7 n = p.body.take (q + 1) ++ ([⟨1, n⟩] ++ p.body.drop (q + 1 + c.size)) := by
     unfold Z3 Vg UM
     rw [hroot, if_neg (by decide), if_neg (by decide), if_neg (by decide), if_neg (by decide), hsz]
     simp only
     rw [show q + (1 + c.size) = q + 1 + c.size by omega]
     rfl
    rw [e]
    exact AfL p q n (.node x [c]) c W hat hac hbl (hok.go b) h
theorem AdE (p : PgV) (t : Tr) (x : DlV) (w : World) (hok : p.ok w) (hx : DlOk w x) (hbl : p.body.length ≤ 1000) (hg : Fine p t) (hd : x.d ∈ Z5 p.body t) (hneg : ∀ W, p.ok W → Ac1 p W) :
 ∃ q k, Zx x.d.path 0 t = some (q, k) ∧ (∀ m : PgV, m.params = p.params → m.V = p.V → m.body = Z3 p.body q k x.d.op x.d.n → Good m (K5 (chT x.d.op x.d.n) x.d.path t)) ∧
  Calls Tryz.prog 18 #[.agg p.cells, .agg x.cells] w fun e w' => AplR p (Z3 p.body q k x.d.op x.d.n) w w' e := by
 obtain ⟨q, k, hf, hm, _⟩ := EH p t x.A x.cap x.d w hok hx.1 hx.2 hbl hg.good hd (hneg w hok)
 refine ⟨q, k, hf, hm, ?_⟩
 obtain ⟨bd, hbd⟩ : ∃ bd, bd = Z3 p.body q k x.d.op x.d.n := ⟨_, rfl⟩
 rw [← hbd]
 have HA : Hid (∀ W, Below w.heap.size w W → Calls Tryz.prog 55 #[.agg p.cells, .agg x.cells] W fun e w' => AplR p bd W w' e) := fun W b => by
  obtain ⟨q', k', hf', _, h⟩ := EH p t x.A x.cap x.d W (hok.go b) (hx.1.go b) hx.2 hbl hg.good hd (hneg W (hok.go b))
  rw [hf] at hf'
  injection hf' with hf'
  injection hf' with h1 h2
  subst h1 h2
  rw [hbd]
  exact h
 have HS : Hid (∀ W, Below w.heap.size w W → Calls Tryz.prog 17 #[.agg p.cells] W fun e w' => AllR p W w' e) := fun W b => XB p hbl W (hok.go b)
 have HX : Hid (∀ W, Below w.heap.size w W → DlOk W x) := fun W b => ⟨hx.1.go b, hx.2⟩
 have Hd := Lh hd
 have Hg := Lh hg
 have Hc := Lh (checkP_ok.2 ⟨t, hg⟩)
 clear hok hx hbl hg hd hneg hf hm hbd
 go_enter Tryz.func18, Tryz.ntmps18
 go_wp2_with (refine Qp _ _ rfl ?_)
 refine Stop.to ?_
 refine Qf rfl 25 _ rfl p.cells rfl ?_
 intro G Gw Gh Gr Gb
 go_wp2_with (refine Qp _ _ rfl ?_)
 refine Stop.to ?_
 refine Qf rfl 35 _ rfl x.cells rfl ?_
 intro D Dw Dh Dr Db
 go_wp2_with (first | fail | (refine QY _ rfl ?_))
 refine Stop.to ?_
 refine Ql rfl 25 rfl _ _ Y7 rfl ?_
 intro R Rw Rh Rr Rb
 have b1 := (Below.refl w.heap.size w).trans (Gb.mono Gh)
 have b2 := b1.trans ((Db.mono Dh).mono b1.size)
 have b3 := b2.trans ((Rb.mono Rh).mono b2.size)
 have hR : w.heap.size ≤ R := Nat.le_trans b2.size Rh
 have rG := (Gr.below Db (Nat.lt_of_lt_of_le Gr.lt Dh))
 have rG2 := rG.below Rb (Nat.lt_of_lt_of_le rG.lt Rh)
 have rD := Dr.below Rb (Nat.lt_of_lt_of_le Dr.lt Rh)
 have rR : Row Rw R 25 #[.int .i64 0, .slice none 0 0, .slice none 0 0] := Rr
 have H1 := Lh (HS.out _ b3)
 clear Gr Gb Gh Dr Db Dh Rb Rh rG b1 b2 Rr HS
 go_wp2_with (refine wpList_load_row rfl 25 _ rfl G rfl 25 p.cells (0, 0) _ rG2 Tryz.underlying25 rfl (by kernel_rfl) ?_)
 refine H1.out.mono ?_
 rintro e w1 ⟨A, cap, xs, rfl, hrd, hcap, hnil, hT, hmap, _, hlen, b4⟩
 rw [Hc.out]
 have hmap2 := hmap t Hg.out
 have b5 := b3.trans (b4.mono b3.size)
 replace rG2 := rG2.below b4 rG2.lt
 replace rD := rD.below b4 rD.lt
 replace rR := rR.below b4 rR.lt
 have Hfd := Lh (AbR A cap xs x w1 hrd (by omega) (fun y hy => (hT y hy).ok) (HX.out _ b5) (by rw [hmap2]; exact EG _ _))
 have Hin : Hid (x.d ∈ xs.map DlV.d) := by show _ ∈ _; rw [hmap2]; exact Hd.out
 clear H1 hrd hcap hnil hT hmap hmap2 hlen b4 b3
 go_wp2_with (refine wpList_load_row rfl 35 _ rfl D rfl 35 x.cells (0, 0) _ rD Tryz.underlying35 rfl (by kernel_rfl) ?_)
 refine Hfd.out.mono ?_
 rintro e w2 ⟨⟨r, rfl, hr⟩, b6⟩
 have hr0 : ¬ (r < 0) := by have := hr.2 Hin.out; omega
 have b7 := b5.trans (b6.mono b5.size)
 replace rG2 := rG2.below b6 rG2.lt
 replace rD := rD.below b6 rD.lt
 replace rR := rR.below b6 rR.lt
 have H2 := Lh (HA.out _ b7)
 clear Hfd Hin hr b6 b5 HA HX
 go_wp2_with (first | (refine wpList_load_row rfl 25 _ rfl G rfl 25 p.cells (0, 0) _ rG2 Tryz.underlying25 rfl (by kernel_rfl) ?_) | (refine wpList_load_row rfl 35 _ rfl D rfl 35 x.cells (0, 0) _ rD Tryz.underlying35 rfl (by kernel_rfl) ?_))
 refine H2.out.mono ?_
 rintro e w3 ⟨m, rfl, hm, o1, o2, b8⟩
 replace rR := rR.below b8 rR.lt
 have b9 := b7.trans (b8.mono b7.size)
 have p1 := QI o1 b7.size
 have p2 := QI o2 b7.size
 have Hm := Lh hm
 clear H2 rG2 rD o1 o2 b8 b7 hm
 go_wp2_with (refine QD 25 _ _ rfl ?_)
 refine Stop.to ?_
 refine Qk rfl 25 _ _ rfl R m.cells rfl rfl 25 _ rR (by kernel_rfl) rfl (by simp [PgV.cells, Value.oneCell']) ?_
 intro W9 r9 o9
 have q1 := QA p1 o9 (Qz p1 rR (by decide))
 have q2 := QA p2 o9 (Qz p2 rR (by decide))
 have bE := Qo b9 o9 hR
 clear p1 p2 b9 o9 rR
 go_wp2_with fail
 refine bodyPost_ret (QS Tryz.results18 _ _ R 25 _ (0, 0) _ rfl r9 Tryz.underlying25 rfl (by kernel_rfl)) rfl ?_
 exact ⟨m, rfl, Hm.out, q1, q2, bE⟩
end Go.Proofs.YtdcmppdhdcjpfaaGreat
namespace Go.Proofs.YtdcmppdhdcjpfaaGreat
open Go.RowKit
theorem US {w : World} {base n size : Nat} {e : TypeId} {v : Value} {xs : List Value} (h : w.ownsRow base e size v n xs) : ∃ A cap, v = .slice A n cap ∧ Rd w A xs ∧ n ≤ cap ∧ cap ≤ maxLen ∧ (A = none → cap = 0) ∧ ∀ ad, A = some ad → base ≤ ad.block := by
 have hl : xs.length = n * size := h.1
 rcases h.2 with ⟨rfl, h0⟩ | ⟨g, cap, cur, rfl, hb, hh, hc, hm, hsz, ht⟩
 · have hx : xs = [] := List.eq_nil_of_length_eq_zero (by rw [hl, h0, Nat.zero_mul])
   subst hx
   exact ⟨none, 0, by rw [h0], Rd.nil _ _, by omega, by unfold maxLen; omega, fun _ => rfl, fun ad e => by cases e⟩
 · refine ⟨some ⟨g, 0, none⟩, cap, rfl, fun j u hj => ⟨_, rfl, ?_⟩, hc, hm, fun e => (by cases e), fun ad e => by cases e; exact hb⟩
   have hr : Row w g e cur := hh
   exact hr.from_ 0 (cs := xs) (fun j v hj => by
    rw [Nat.zero_add, ← Array.getElem?_toList]
    have h1 : (cur.toList.take (n * size))[j]? = some v := by rw [ht]; exact hj
    rw [List.getElem?_take_of_lt (by have := (List.getElem?_eq_some_iff.1 hj).1; omega)] at h1; exact h1) j u hj
end Go.Proofs.YtdcmppdhdcjpfaaGreat
namespace Go.Proofs.YtdcmppdhdcjpfaaGreat
open Go.RowKit Go.Deep
noncomputable def Afd (p : PgV) (d : Dl) : List Nd := open Classical in if h : ∃ b, ∃ t q k, Fine p t ∧ Zx d.path 0 t = some (q, k) ∧ b = Z3 p.body q k d.op d.n then h.choose else []
theorem AaR {p : PgV} {d : Dl} {t k : Tr} {q : Nat} (hf : Fine p t) (h : Zx d.path 0 t = some (q, k)) : Afd p d = Z3 p.body q k d.op d.n := by
 unfold Afd
 have hex : ∃ b, ∃ t q k, Fine p t ∧ Zx d.path 0 t = some (q, k) ∧ b = Z3 p.body q k d.op d.n := ⟨_, t, q, k, hf, h, rfl⟩
 rw [dif_pos hex]
 obtain ⟨t2, q2, k2, h1, h2, h3⟩ := hex.choose_spec
 rw [h3]
 obtain rfl := h1.good.whole.uniq hf.good.whole
 rw [h] at h2
 injection h2 with h2
 injection h2 with e1 e2
 subst e1 e2
 rfl
noncomputable def Ue (p : PgV) (d : Dl) : Int := open Classical in if Zb p ≠ 0 then Zb p else if ∃ t, Fine p t ∧ d ∈ Z5 p.body t then 0 else 17
theorem AaS {p : PgV} {d : Dl} {t : Tr} (hf : Fine p t) (hd : d ∈ Z5 p.body t) : Ue p d = 0 := by
 unfold Ue; rw [if_neg (by rw [checkP_ok.2 ⟨t, hf⟩]; simp), if_pos ⟨t, hf, hd⟩]
theorem Aer {p : PgV} {d : Dl} {t : Tr} (hf : Fine p t) (hd : d ∉ Z5 p.body t) : Ue p d = 17 := by
 unfold Ue; rw [if_neg (by rw [checkP_ok.2 ⟨t, hf⟩]; simp), if_neg (fun ⟨u, h1, h2⟩ => hd (by rw [hf.good.whole.uniq h1.good.whole]; exact h2))]
theorem Aiw {p : PgV} {d : Dl} (h : Zb p ≠ 0) : Ue p d = Zb p := by unfold Ue; rw [if_pos h]
structure IsMut (p : PgV) (d : Dl) (m : PgV) : Prop where
 par : m.params = p.params
 vars : m.V = p.V
 body : m.body = Afd p d
theorem Air {x y : Nd} {op n : Int} (h : isC x y op n = true) : InI n := by
 unfold isC at h
 have hw : ∀ a : Int, InI (wrap64 a) := fun a => by unfold wrap64 InI; omega
 by_cases o1 : op = 1
 · rw [if_pos o1, decide_eq_true_eq] at h; unfold InI; omega
 rw [if_neg o1] at h
 by_cases o2 : op = 2
 · rw [if_pos o2, decide_eq_true_eq] at h; unfold InI; omega
 rw [if_neg o2] at h
 by_cases o3 : op = 3
 · rw [if_pos o3, decide_eq_true_eq] at h; unfold InI; omega
 rw [if_neg o3] at h
 by_cases o4 : op = 4
 · rw [if_pos o4, decide_eq_true_eq] at h
   rcases h with ⟨_, h | h | h | h | h, _⟩ | ⟨_, h⟩
   · unfold InI; omega
   · unfold InI; omega
   · unfold InI; omega
   · rw [h]; exact hw _
   · rw [h]; exact hw _
   · rw [h]; exact hw _
 rw [if_neg o4] at h
 by_cases o5 : op = 5
 · rw [if_pos o5, decide_eq_true_eq] at h; unfold InI; omega
 rw [if_neg o5] at h
 by_cases o6 : op = 6
 · rw [if_pos o6, decide_eq_true_eq] at h; unfold InI; omega
 rw [if_neg o6] at h
 by_cases o7 : op = 7
 · rw [if_pos o7, decide_eq_true_eq] at h; unfold InI; omega
 rw [if_neg o7] at h
 cases h
theorem Agv {l : List Nd} {c : Nat × Nd × Nat} {y : Nd} (h : y ∈ UM l c) : y ∈ l ∨ y = c.2.1 := by
 unfold UM at h
 rcases List.mem_append.1 h with h | h
 · exact .inl (List.mem_of_mem_take h)
 · rcases List.mem_cons.1 h with h | h
   · exact .inr h
   · exact .inl (List.mem_of_mem_drop h)
theorem AfK {p : PgV} {t : Tr} {d : Dl} {q : Nat} {k : Tr} (hg : Good p t) (hd : d ∈ Z5 p.body t) (hf : Zx d.path 0 t = some (q, k)) (hin : ∀ x ∈ p.body, InI x.tag ∧ InI x.n) : (∀ x ∈ Z3 p.body q k d.op d.n, InI x.tag ∧ InI x.n) ∧ (Z3 p.body q k d.op d.n).length ≤ p.body.length + 1 := by
 obtain ⟨q2, k2, h1, h2, _, h4, _, _⟩ := hg.change hd
 rw [hf] at h1
 injection h1 with h1
 injection h1 with e1 e2
 subst e1 e2
 have hn := Air h4
 have hs := k.size_eq
 have hle := h2.le
 have hr := hin _ (List.mem_of_getElem? h2.root)
 have hz : InI 0 ∧ InI 1 ∧ InI 6 ∧ InI 26 := by unfold InI; omega
 have hnew : InI (Vg k.root q k.size d.op d.n).2.1.tag ∧ InI (Vg k.root q k.size d.op d.n).2.1.n := by
  unfold Vg
  split
  · exact ⟨hn, hr.2⟩
  · split
    · exact ⟨hr.1, hn⟩
    · split
      · exact ⟨hz.2.2.2, hz.1⟩
      · split
        · exact ⟨hz.2.2.1, hz.1⟩
        · exact ⟨hz.2.1, hn⟩
 constructor
 · intro x hx
   rcases Agv hx with h | h
   · exact hin x h
   · rw [h]; exact hnew
 · unfold Z3 UM
   rw [List.length_append, List.length_cons, List.length_take, List.length_drop]
   unfold Vg
   split
   · simp only; omega
   · split
     · simp only; omega
     · split
       · simp only; omega
       · split <;> (simp only; omega)
theorem AdF (p : PgV) (hbl : p.body.length ≤ 1000) (W : World) (hok : p.ok W) : Ac1 p W := fun q t W2 b hat h hq => AfP p q t W2 hat hbl (hok.go b) h hq
theorem AplR.okm {p : PgV} {bd : List Nd} {w w' : World} {e : Ending} (h : AplR p bd w w' e) (hok : p.ok w) (hin : ∀ x ∈ bd, InI x.tag ∧ InI x.n) : ∃ m : PgV, e = .returned (.tuple #[.agg m.cells, .int .i64 0]) ∧ (m.params = p.params ∧ m.V = p.V ∧ m.body = bd) ∧ m.ok w' ∧ (∀ ad, m.va = some ad ∨ m.ba = some ad → w.heap.size ≤ ad.block) ∧ Below w.heap.size w w' := by
 obtain ⟨m, h1, h2, h3, h4, h5⟩ := h
 refine ⟨m, h1, h2, ?_, ?_, h5⟩
 rotate_left
 · obtain ⟨A, c, e1, _, _, _, _, a4⟩ := US h3
   obtain ⟨B, c2, e2, _, _, _, _, b4⟩ := US h4
   injection e1 with x1 _ _
   injection e2 with y1 _ _
   intro ad h
   rcases h with h | h
   · exact a4 ad (x1 ▸ h)
   · exact b4 ad (y1 ▸ h)
 obtain ⟨A, c, e1, r3, a1, a2, a3, _⟩ := US h3
 obtain ⟨B, c2, e2, r4, b1, b2, b3, _⟩ := US h4
 injection e1 with x1 _ x3
 injection e2 with y1 _ y3
 rw [← x1] at r3 a3
 rw [← y1] at r4 b3
 rw [← x3] at a1 a2 a3
 rw [← y3] at b1 b2 b3
 exact ⟨by rw [h2.1]; exact hok.par, a1, a2, a3, r3, by rw [h2.2.1]; exact hok.vin, b1, b2, b3, r4, by rw [h2.2.2]; exact hin⟩
end Go.Proofs.YtdcmppdhdcjpfaaGreat
