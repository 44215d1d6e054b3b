/- Lemmas for CoAll. -/
import Derived.Test.YtcgglolckkeeiaaGreatZo23
import Derived.Test.YtcgglolckkeeiaaGreatZo7
import Derived.Test.YtcgglolckkeeiaaGreatZo22
import Derived.Test.YtcgglolckkeeiaaGreatZo13
import Derived.Lib.AppendStr
import Derived.Maps.AppendAt
set_option linter.unusedVariables false
set_option linter.unusedSimpArgs false
namespace Go.Proofs.YtcgglolckkeeiaaGreat
open Go.RowKit
def rCountZ (z : Int) (s : List UInt8) (r : Rs) (most : Int) : Int × Rs := r.step ((countP s r.pl most).1, (countP s r.pl most).2.1, ((countP s r.pl most).2.2 : Int)) z
theorem rCount_is (s : List UInt8) (r : Rs) (most : Int) : rCount s r most = rCountZ 0 s r most := rfl
def rIntZ (z : Int) (s : List UInt8) (r : Rs) : Int × Rs := r.step ((getL (s.drop r.pl)).1, r.pl + (getL (s.drop r.pl)).2.2, zagZ (getL (s.drop r.pl)).2.1) z
def rByteZ (z : Int) (s : List UInt8) (r : Rs) : Int × Rs := r.step (if s.length ≤ r.pl then 2 else 0, r.pl + 1, match s[r.pl]? with | some b => (b.toNat : Int) | none => 0) z
theorem step_good {α : Type} {r : Rs} (h : r.er = 0) (to : Nat) (x z : α) : r.step (0, to, x) z = (x, ⟨to, 0⟩) := by
 unfold Rs.step; simp only [move_ok h]; simp
theorem drop_app {s a t : List UInt8} {pl : Nat} (h : s.drop pl = a ++ t) : s.drop (pl + a.length) = t := by
 rw [← List.drop_drop, h, List.drop_left']; rfl
theorem rCountZ_put {z : Int} {s t : List UInt8} {pl n : Nat} {most : Int} (h : s.drop pl = lebL n ++ t) (hn : (n : Int) ≤ most) (hn2 : n < 18446744073709551616) : rCountZ z s ⟨pl, 0⟩ most = ((n : Int), ⟨pl + (lebL n).length, 0⟩) := by
 have e : countP s pl most = (0, pl + (lebL n).length, n) := by
  unfold countP
  rw [h, getL_put n hn2 t]
  simp only [true_and]
  rw [if_neg (by omega)]
 unfold rCountZ
 dsimp only
 rw [e]
 exact step_good rfl _ _ _
theorem rIntZ_put {z : Int} {s t : List UInt8} {pl : Nat} {n : Int} (h : s.drop pl = zz n ++ t) (hn : InI n) : rIntZ z s ⟨pl, 0⟩ = (n, ⟨pl + (zz n).length, 0⟩) := by
 have e : getL (s.drop pl) = (0, zigN n, (zz n).length) := by rw [h]; exact getL_put (zigN n) (zigN_lt hn) t
 unfold rIntZ
 dsimp only
 rw [e]
 dsimp only
 rw [zag_zig hn]
 exact step_good rfl _ _ _
theorem drop_cons_at {s t : List UInt8} {pl : Nat} {b : UInt8} (h : s.drop pl = b :: t) : s[pl]? = some b ∧ pl < s.length := by
 have e : s[pl]? = some b := by
  have := congrArg (fun l => l[0]?) h
  simpa [List.getElem?_drop] using this
 exact ⟨e, (List.getElem?_eq_some_iff.1 e).1⟩
theorem rByteZ_put {z : Int} {s t : List UInt8} {pl : Nat} {b : UInt8} (h : s.drop pl = b :: t) : rByteZ z s ⟨pl, 0⟩ = ((b.toNat : Int), ⟨pl + 1, 0⟩) := by
 obtain ⟨h1, h2⟩ := drop_cons_at h
 unfold rByteZ
 dsimp only
 rw [h1, if_neg (by omega)]
 exact step_good rfl _ _ _
theorem rByte_put {s t : List UInt8} {pl : Nat} {b : UInt8} (h : s.drop pl = b :: t) : rByte s ⟨pl, 0⟩ = (b.toNat, ⟨pl + 1, 0⟩) := by
 obtain ⟨h1, h2⟩ := drop_cons_at h
 have e : rRaw s ⟨pl, 0⟩ 1 = ([b], ⟨pl + 1, 0⟩) := by
  unfold rRaw partP
  dsimp only
  rw [if_neg (by omega), h]
  exact step_good rfl _ _ _
 unfold rByte
 rw [e]
def pathR (z most : Int) (s : List UInt8) (r : Rs) : Nat → List Int × Rs
 | 0 => ([], r)
 | k + 1 => ((pathR z most s r k).1 ++ [(rCountZ z s (pathR z most s r k).2 most).1], (rCountZ z s (pathR z most s r k).2 most).2)
theorem pathR_put {z most : Int} {s t : List UInt8} {pl : Nat} {l : List Int} (h : s.drop pl = pathB l ++ t) (hl : ∀ n ∈ l, 0 ≤ n ∧ n < 200) (hm : 200 ≤ most) : ∀ k, k ≤ l.length → pathR z most s ⟨pl, 0⟩ k = (l.take k, ⟨pl + (pathB (l.take k)).length, 0⟩)
 | 0, _ => by simp [pathR, pathB]
 | k + 1, hk => by
  obtain ⟨x, hx⟩ : ∃ x, l[k]? = some x := ⟨_, List.getElem?_eq_getElem hk⟩
  have hxr := hl x (List.mem_of_getElem? hx)
  obtain ⟨n, rfl⟩ := Int.eq_ofNat_of_zero_le hxr.1
  have e : l = l.take k ++ ((n : Int) :: l.drop (k + 1)) := by
   have h2 : l.drop k = (n : Int) :: l.drop (k + 1) := by rw [← List.getElem_cons_drop hk, (List.getElem?_eq_some_iff.1 hx).2]
   rw [← h2, List.take_append_drop]
  have h3 : s.drop (pl + (pathB (l.take k)).length) = lebL n ++ (pathB (l.drop (k + 1)) ++ t) := by
   refine drop_app (a := pathB (l.take k)) ?_
   rw [h]
   conv => lhs; rw [e]
   simp [pathB]
  rw [pathR, pathR_put h hl hm k (by omega)]
  dsimp only
  rw [rCountZ_put h3 (by omega) (by omega), take_snoc hx, pathB_snoc, Int.toNat_natCast, List.length_append]
  simp only [Nat.add_assoc]
def dlRd (s : List UInt8) : Dl :=
 ⟨(pathR 0 200 s (rCount s ⟨0, 0⟩ 30).2 (rCount s ⟨0, 0⟩ 30).1.toNat).1, ((rByte s (pathR 0 200 s (rCount s ⟨0, 0⟩ 30).2 (rCount s ⟨0, 0⟩ 30).1.toNat).2).1 : Int), (rInt s (rByte s (pathR 0 200 s (rCount s ⟨0, 0⟩ 30).2 (rCount s ⟨0, 0⟩ 30).1.toNat).2).2).1⟩
theorem u8_op {op : Int} (h1 : 1 ≤ op) (h2 : op ≤ 7) : ((UInt8.ofNat op.toNat).toNat : Int) = op := by
 have e : (UInt8.ofNat op.toNat).toNat = op.toNat % 256 := by simp
 rw [e]; omega
theorem dlRd_put {d : Dl} (h : rightDl d = true) (hn : InI d.n) : dlRd (encDl d) = d := by
 obtain ⟨h1, h2, h3, h4⟩ := rightDl_iff.1 h
 obtain ⟨path, op, n⟩ := d
 dsimp only at h1 h2 h3 h4 hn
 have ec : rCount (encDl ⟨path, op, n⟩) ⟨0, 0⟩ 30 = ((path.length : Int), ⟨(lebL path.length).length, 0⟩) := by
  rw [rCount_is]
  have := rCountZ_put (z := 0) (most := 30) (s := encDl ⟨path, op, n⟩) (pl := 0) (n := path.length) (t := pathB path ++ [UInt8.ofNat op.toNat] ++ zz n) (by simp [encDl]) (by omega) (by omega)
  simpa using this
 have hp : (encDl ⟨path, op, n⟩).drop (lebL path.length).length = pathB path ++ ([UInt8.ofNat op.toNat] ++ zz n) := by
  have := drop_app (s := encDl ⟨path, op, n⟩) (pl := 0) (a := lebL path.length) (t := pathB path ++ ([UInt8.ofNat op.toNat] ++ zz n)) (by simp [encDl])
  simpa using this
 have ep := pathR_put (z := 0) (most := 200) hp h2 (by omega) path.length (Nat.le_refl _)
 rw [List.take_length] at ep
 have hb := drop_app hp
 have eb := rByte_put (b := UInt8.ofNat op.toNat) (t := zz n) hb
 have hi := drop_app (a := [UInt8.ofNat op.toNat]) hb
 have ei : rInt (encDl ⟨path, op, n⟩) ⟨(lebL path.length).length + (pathB path).length + 1, 0⟩ = (n, ⟨(lebL path.length).length + (pathB path).length + 1 + (zz n).length, 0⟩) :=
  rIntZ_put (z := 0) (t := []) (by simpa using hi) hn
 unfold dlRd
 rw [ec]
 dsimp only
 rw [Int.toNat_natCast, ep]
 dsimp only
 rw [eb]
 dsimp only
 rw [ei, u8_op h3 h4]
def dlRdR (s : List UInt8) (r : Rs) : Dl × Rs :=
 let c := rCountZ (-1) s r 1000000
 let p := pathR (-1) 1000000 s c.2 (min c.1.toNat 31)
 let b := rByteZ (-1) s p.2
 let i := rIntZ (-1) s b.2
 (⟨p.1, b.1, i.1⟩, i.2)
theorem dlRdR_put {d : Dl} (h : rightDl d = true) (hn : InI d.n) : (dlRdR (encDl d) ⟨0, 0⟩).1 = d := by
 obtain ⟨h1, h2, h3, h4⟩ := rightDl_iff.1 h
 obtain ⟨path, op, n⟩ := d
 dsimp only at h1 h2 h3 h4 hn
 have ec : rCountZ (-1) (encDl ⟨path, op, n⟩) ⟨0, 0⟩ 1000000 = ((path.length : Int), ⟨(lebL path.length).length, 0⟩) := by
  have := rCountZ_put (z := -1) (most := 1000000) (s := encDl ⟨path, op, n⟩) (pl := 0) (n := path.length) (t := pathB path ++ [UInt8.ofNat op.toNat] ++ zz n) (by simp [encDl]) (by omega) (by omega)
  simpa using this
 have hp : (encDl ⟨path, op, n⟩).drop (lebL path.length).length = pathB path ++ ([UInt8.ofNat op.toNat] ++ zz n) := by
  have := drop_app (s := encDl ⟨path, op, n⟩) (pl := 0) (a := lebL path.length) (t := pathB path ++ ([UInt8.ofNat op.toNat] ++ zz n)) (by simp [encDl])
  simpa using this
 have ep := pathR_put (z := -1) (most := 1000000) hp h2 (by omega) path.length (Nat.le_refl _)
 rw [List.take_length] at ep
 have hb := drop_app hp
 have eb := rByteZ_put (z := -1) (b := UInt8.ofNat op.toNat) (t := zz n) hb
 have hi := drop_app (a := [UInt8.ofNat op.toNat]) hb
 have ei : rIntZ (-1) (encDl ⟨path, op, n⟩) ⟨(lebL path.length).length + (pathB path).length + 1, 0⟩ = (n, ⟨(lebL path.length).length + (pathB path).length + 1 + (zz n).length, 0⟩) :=
  rIntZ_put (t := []) (by simpa using hi) hn
 unfold dlRdR
 dsimp only
 rw [ec]
 dsimp only
 rw [Int.toNat_natCast, Nat.min_eq_left (by omega), ep]
 dsimp only
 rw [eb]
 dsimp only
 rw [ei, u8_op h3 h4]
open Classical in
noncomputable def getDl (s : List UInt8) : Dl × Int := if h : ∃ d, rightDl d = true ∧ InI d.n ∧ encDl d = s then (Classical.choose h, 0) else (⟨[], 0, 0⟩, 12)
theorem getDl_yes {s : List UInt8} {d : Dl} (hd : InI d.n) (hr : rightDl d = true) (he : encDl d = s) : getDl s = (d, 0) := by
 have h : ∃ d, rightDl d = true ∧ InI d.n ∧ encDl d = s := ⟨d, hr, hd, he⟩
 obtain ⟨h1, h2, h3⟩ := Classical.choose_spec h
 have e : Classical.choose h = d := by rw [← dlRd_put h1 h2, h3, ← he, dlRd_put hr hd]
 unfold getDl
 rw [dif_pos h, e]
theorem getDl_no {s : List UInt8} {d : Dl} (hrd : ∀ d0, rightDl d0 = true → InI d0.n → encDl d0 = s → d = d0) (h : ¬ (rightDl d = true ∧ encDl d = s)) : getDl s = (⟨[], 0, 0⟩, 12) := by
 unfold getDl
 rw [dif_neg]
 rintro ⟨d0, h1, h2, h3⟩
 have := hrd d0 h1 h2 h3
 subst this
 exact h ⟨h1, h3⟩
theorem getDl_put {d : Dl} (h : rightDl d = true) (hn : InI d.n) : getDl (encDl d) = (d, 0) := getDl_yes hn h rfl
end Go.Proofs.YtcgglolckkeeiaaGreat
namespace Go.Proofs.YtcgglolckkeeiaaGreat
open Go.RowKit
def fineM (m : Mt) : Bool := rightDl m.d && rightZ m
def tailM (m : Mt) : List UInt8 := lebL m.test.toNat ++ ([UInt8.ofNat m.kind.toNat] ++ (zz m.value ++ m.digest))
def restM (m : Mt) : List UInt8 := if m.verdict = 0 then [] else tailM m
def encMt (m : Mt) : List UInt8 := lebL (encDl m.d).length ++ (encDl m.d ++ (UInt8.ofNat m.verdict.toNat :: restM m))
def encMts (l : List Mt) : List UInt8 := lebL l.length ++ l.flatMap encMt
def putMts (l : List Mt) : List UInt8 × Int := if l.length ≤ 2000 ∧ l.all fineM = true then (encMts l, 0) else ([], 24)
theorem right_alive {m : Mt} (h : rightZ m = true) (hv : m.verdict = 0) : m = ⟨m.d, 0, -1, 0, 0, []⟩ := by
 unfold rightZ at h
 rw [if_pos hv, decide_eq_true_eq] at h
 obtain ⟨d, v, t, k, u, g⟩ := m
 simp only at h hv ⊢
 obtain ⟨rfl, rfl, rfl, rfl⟩ := h
 rw [hv]
theorem right_told {m : Mt} (h : rightZ m = true) (hv : ¬ m.verdict = 0) : (m.verdict = 1 ∨ m.verdict = 2) ∧ 0 ≤ m.test ∧ m.test ≤ 19 ∧ m.digest.length = 32 ∧ 0 ≤ m.kind ∧ m.kind ≤ 4 := by
 unfold rightZ at h
 rw [if_neg hv] at h
 by_cases h1 : m.verdict = 1
 · rw [if_pos h1, decide_eq_true_eq] at h
   obtain ⟨⟨a, b, c⟩, d, e, _⟩ := h
   exact ⟨.inl h1, a, b, c, d, by omega⟩
 · rw [if_neg h1] at h
   by_cases h2 : m.verdict = 2
   · rw [if_pos h2, decide_eq_true_eq] at h
     obtain ⟨⟨a, b, c⟩, d, _⟩ := h
     exact ⟨.inr h2, a, b, c, by omega, by omega⟩
   · rw [if_neg h2] at h; cases h
theorem fineM_iff {m : Mt} : fineM m = true ↔ rightDl m.d = true ∧ rightZ m = true := by unfold fineM; rw [Bool.and_eq_true]
theorem tailM_len {m : Mt} (h : m.digest.length = 32) : (tailM m).length ≤ 53 := by
 have h1 := lebL_len m.test.toNat
 have h2 := zz_len m.value
 simp only [tailM, List.length_append, List.length_cons, List.length_nil, h]
 omega
theorem encMt_len {m : Mt} (h : fineM m = true) : (encMt m).length ≤ 385 := by
 obtain ⟨h1, h2⟩ := fineM_iff.1 h
 have h3 := encDl_len h1
 have h4 := lebL_len (encDl m.d).length
 have h5 : (restM m).length ≤ 53 := by
  unfold restM
  by_cases hv : m.verdict = 0
  · rw [if_pos hv]; simp
  · rw [if_neg hv]; exact tailM_len (right_told h2 hv).2.2.2.1
 simp only [encMt, List.length_append, List.length_cons]
 omega
theorem encMt_pos (m : Mt) : 0 < (encMt m).length := by simp only [encMt, List.length_append, List.length_cons]; omega
theorem flat_len {l : List Mt} (h : l.all fineM = true) : (l.flatMap encMt).length ≤ 385 * l.length := by
 induction l with
 | nil => simp
 | cons a l ih =>
  rw [List.all_cons, Bool.and_eq_true] at h
  have h1 := ih h.2
  have h2 := encMt_len h.1
  simp only [List.flatMap_cons, List.length_append, List.length_cons]
  omega
theorem rRaw_put {s x t : List UInt8} {pl : Nat} (h : s.drop pl = x ++ t) (hx : 0 < x.length) : rRaw s ⟨pl, 0⟩ x.length = (x, ⟨pl + x.length, 0⟩) := by
 have hl : pl + x.length ≤ s.length := by
  have := congrArg List.length h
  simp only [List.length_drop, List.length_append] at this
  omega
 unfold rRaw partP
 dsimp only
 rw [if_neg (by omega), h, List.take_left' rfl]
 exact step_good rfl _ _ _
theorem rText_put {s x t : List UInt8} {pl : Nat} {most : Int} (h : s.drop pl = lebL x.length ++ (x ++ t)) (hm : (x.length : Int) ≤ most) (h2 : x.length < 1000000) : rText s ⟨pl, 0⟩ most = (x, ⟨pl + (lebL x.length).length + x.length, 0⟩) := by
 have e : countP s pl most = (0, pl + (lebL x.length).length, x.length) := by
  unfold countP
  rw [h, getL_put x.length (by omega) _]
  simp only [true_and]
  rw [if_neg (by omega)]
 have hd := drop_app h
 have hl : pl + (lebL x.length).length + x.length ≤ s.length := by
  have := congrArg List.length h
  have hp := lebF_pos 9 x.length
  simp only [List.length_drop, List.length_append] at this
  have : 0 < (lebL x.length).length := by rw [lebL]; exact hp
  omega
 unfold rText
 dsimp only
 rw [e]
 dsimp only
 rw [if_pos rfl]
 unfold partP
 rw [if_neg (by omega), hd, List.take_left' rfl]
 exact step_good rfl _ _ _
noncomputable def mtRd (s : List UInt8) (r : Rs) : Mt × Rs :=
 let t := rText s r 1048576
 let b := rByte s t.2
 let c := rCount s b.2 20
 let k := rByte s c.2
 let v := rInt s k.2
 let g := rRaw s v.2 32
 if b.1 = 0 then (⟨(getDl t.1).1, 0, -1, 0, 0, []⟩, b.2) else (⟨(getDl t.1).1, b.1, c.1, k.1, v.1, g.1⟩, g.2)
noncomputable def mtRdR (s : List UInt8) (r : Rs) : Mt × Rs :=
 let t := rText s r 1000
 let b := rByteZ (-1) s t.2
 let c := rCountZ (-1) s b.2 1000000
 let k := rByteZ (-1) s c.2
 let v := rIntZ (-1) s k.2
 let g := rRaw s v.2 32
 if b.1 = 0 then (⟨(getDl t.1).1, 0, -1, 0, 0, []⟩, b.2) else (⟨(getDl t.1).1, b.1, c.1, k.1, v.1, g.1⟩, g.2)
def OkM (m : Mt) : Prop := fineM m = true ∧ InI m.d.n ∧ InI m.value
theorem u8_small {n : Int} (h1 : 0 ≤ n) (h2 : n ≤ 255) : ((UInt8.ofNat n.toNat).toNat : Int) = n := by
 have e : (UInt8.ofNat n.toNat).toNat = n.toNat % 256 := by simp
 rw [e]; omega
theorem mtRd_put {m : Mt} {s t : List UInt8} {pl : Nat} (hm : OkM m) (h : s.drop pl = encMt m ++ t) : mtRd s ⟨pl, 0⟩ = (m, ⟨pl + (encMt m).length, 0⟩) := by
 obtain ⟨hf, hn, hv⟩ := hm
 obtain ⟨h1, h2⟩ := fineM_iff.1 hf
 have hl := encDl_len h1
 have hT : s.drop pl = lebL (encDl m.d).length ++ (encDl m.d ++ ((UInt8.ofNat m.verdict.toNat :: restM m) ++ t)) := by rw [h]; simp [encMt]
 have eT := rText_put (most := 1048576) hT (by omega) (by omega)
 have hB := drop_app (drop_app hT)
 have eB := rByte_put (b := UInt8.ofNat m.verdict.toNat) (t := restM m ++ t) hB
 have hlen : pl + (encMt m).length = pl + (lebL (encDl m.d).length).length + (encDl m.d).length + 1 + (restM m).length := by
  simp only [encMt, List.length_append, List.length_cons]; omega
 rw [hlen]
 unfold mtRd
 rw [eT]
 dsimp only
 rw [eB]
 dsimp only
 rw [getDl_put h1 hn]
 by_cases h0 : m.verdict = 0
 · have e0 : (UInt8.ofNat m.verdict.toNat).toNat = 0 := by rw [h0]; rfl
   rw [if_pos e0]
   have hr : restM m = [] := if_pos h0
   have hm := right_alive h2 h0
   rw [hr]
   dsimp only [List.length_nil, Nat.add_zero]
   rw [← hm]
 · obtain ⟨g1, g2, g3, g4, g5, g6⟩ := right_told h2 h0
   have e1 := u8_small (n := m.verdict) (by omega) (by omega)
   rw [if_neg (by omega)]
   have hr : restM m = tailM m := if_neg h0
   have hC := drop_app (a := [UInt8.ofNat m.verdict.toNat]) (t := restM m ++ t) hB
   rw [hr] at hC ⊢
   obtain ⟨ti, hti⟩ := Int.eq_ofNat_of_zero_le g2
   have hC' : s.drop (pl + (lebL (encDl m.d).length).length + (encDl m.d).length + 1) = lebL ti ++ ([UInt8.ofNat m.kind.toNat] ++ (zz m.value ++ (m.digest ++ t))) := by
    rw [show (1 : Nat) = [UInt8.ofNat m.verdict.toNat].length from rfl, hC]
    simp [tailM, hti]
   have eC : rCount s ⟨pl + (lebL (encDl m.d).length).length + (encDl m.d).length + 1, 0⟩ 20 = _ := (rCount_is _ _ _).trans (rCountZ_put (z := 0) (most := 20) hC' (by omega) (by omega))
   have hK := drop_app hC'
   have eK := rByte_put (b := UInt8.ofNat m.kind.toNat) hK
   have hV := drop_app (a := [UInt8.ofNat m.kind.toNat]) hK
   have eV : rInt s ⟨pl + (lebL (encDl m.d).length).length + (encDl m.d).length + 1 + (lebL ti).length + 1, 0⟩ = _ := rIntZ_put (z := 0) hV hv
   have hG := drop_app hV
   have eG := rRaw_put hG (by omega)
   rw [g4] at eG
   rw [eC]
   dsimp only
   rw [eK]
   dsimp only
   rw [eV]
   dsimp only
   rw [show [UInt8.ofNat m.kind.toNat].length = 1 from rfl] at eG
   rw [eG, e1, u8_small g5 (by omega), ← hti]
   have hl2 : (tailM m).length = (lebL ti).length + 1 + (zz m.value).length + 32 := by
    simp only [tailM, List.length_append, List.length_cons, List.length_nil, g4, hti, Int.toNat_natCast]; omega
   rw [hl2]
   simp only [Nat.add_assoc]
theorem mtRdR_put {m : Mt} {s t : List UInt8} {pl : Nat} (hm : OkM m) (h : s.drop pl = encMt m ++ t) : mtRdR s ⟨pl, 0⟩ = (m, ⟨pl + (encMt m).length, 0⟩) := by
 obtain ⟨hf, hn, hv⟩ := hm
 obtain ⟨h1, h2⟩ := fineM_iff.1 hf
 have hl := encDl_len h1
 have hT : s.drop pl = lebL (encDl m.d).length ++ (encDl m.d ++ ((UInt8.ofNat m.verdict.toNat :: restM m) ++ t)) := by rw [h]; simp [encMt]
 have eT := rText_put (most := 1000) hT (by omega) (by omega)
 have hB := drop_app (drop_app hT)
 have eB := rByteZ_put (z := -1) (b := UInt8.ofNat m.verdict.toNat) (t := restM m ++ t) hB
 have hlen : pl + (encMt m).length = pl + (lebL (encDl m.d).length).length + (encDl m.d).length + 1 + (restM m).length := by
  simp only [encMt, List.length_append, List.length_cons]; omega
 rw [hlen]
 unfold mtRdR
 rw [eT]
 dsimp only
 rw [eB]
 dsimp only
 rw [getDl_put h1 hn]
 by_cases h0 : m.verdict = 0
 · have e0 : ((UInt8.ofNat m.verdict.toNat).toNat : Int) = 0 := by rw [h0]; rfl
   rw [if_pos e0]
   have hr : restM m = [] := if_pos h0
   have hm := right_alive h2 h0
   rw [hr]
   dsimp only [List.length_nil, Nat.add_zero]
   rw [← hm]
 · obtain ⟨g1, g2, g3, g4, g5, g6⟩ := right_told h2 h0
   have e1 := u8_small (n := m.verdict) (by omega) (by omega)
   rw [if_neg (by omega)]
   have hr : restM m = tailM m := if_neg h0
   have hC := drop_app (a := [UInt8.ofNat m.verdict.toNat]) (t := restM m ++ t) hB
   rw [hr] at hC ⊢
   obtain ⟨ti, hti⟩ := Int.eq_ofNat_of_zero_le g2
   have hC' : s.drop (pl + (lebL (encDl m.d).length).length + (encDl m.d).length + 1) = lebL ti ++ ([UInt8.ofNat m.kind.toNat] ++ (zz m.value ++ (m.digest ++ t))) := by
    rw [show (1 : Nat) = [UInt8.ofNat m.verdict.toNat].length from rfl, hC]
    simp [tailM, hti]
   have eC := rCountZ_put (z := -1) (most := 1000000) hC' (by omega) (by omega)
   have hK := drop_app hC'
   have eK := rByteZ_put (z := -1) (b := UInt8.ofNat m.kind.toNat) hK
   have hV := drop_app (a := [UInt8.ofNat m.kind.toNat]) hK
   have eV := rIntZ_put (z := -1) hV hv
   have hG := drop_app hV
   have eG := rRaw_put hG (by omega)
   rw [g4] at eG
   rw [eC]
   dsimp only
   rw [eK]
   dsimp only
   rw [show [UInt8.ofNat m.kind.toNat].length = 1 from rfl] at eV eG
   rw [eV]
   dsimp only
   rw [eG, e1, u8_small g5 (by omega), ← hti]
   have hl2 : (tailM m).length = (lebL ti).length + 1 + (zz m.value).length + 32 := by
    simp only [tailM, List.length_append, List.length_cons, List.length_nil, g4, hti, Int.toNat_natCast]; omega
   rw [hl2]
   simp only [Nat.add_assoc]
def mtsW (c : Rs → Bool) (one : Rs → Mt × Rs) (r : Rs) : Nat → List Mt × Rs
 | 0 => ([], r)
 | k + 1 => if c (mtsW c one r k).2 = true then ((mtsW c one r k).1 ++ [(one (mtsW c one r k).2).1], (one (mtsW c one r k).2).2) else mtsW c one r k
theorem mtsW_put {c : Rs → Bool} {one : Rs → Mt × Rs} {s t : List UInt8} {pl : Nat} {l : List Mt} (h : s.drop pl = l.flatMap encMt ++ t) (hl : ∀ m ∈ l, OkM m) (hc : ∀ pl, pl < s.length → c ⟨pl, 0⟩ = true)
 (h1 : ∀ (m : Mt) (t : List UInt8) (pl : Nat), OkM m → s.drop pl = encMt m ++ t → one ⟨pl, 0⟩ = (m, ⟨pl + (encMt m).length, 0⟩)) : ∀ k, k ≤ l.length → mtsW c one ⟨pl, 0⟩ k = (l.take k, ⟨pl + ((l.take k).flatMap encMt).length, 0⟩)
 | 0, _ => by simp [mtsW]
 | k + 1, hk => by
  obtain ⟨x, hx⟩ : ∃ x, l[k]? = some x := ⟨_, List.getElem?_eq_getElem hk⟩
  have e : l = l.take k ++ (x :: l.drop (k + 1)) := by
   have h2 : l.drop k = x :: l.drop (k + 1) := by rw [← List.getElem_cons_drop hk, (List.getElem?_eq_some_iff.1 hx).2]
   rw [← h2, List.take_append_drop]
  have h3 : s.drop (pl + ((l.take k).flatMap encMt).length) = encMt x ++ ((l.drop (k + 1)).flatMap encMt ++ t) := by
   refine drop_app (a := (l.take k).flatMap encMt) ?_
   rw [h]
   conv => lhs; rw [e]
   simp
  have hp : pl + ((l.take k).flatMap encMt).length < s.length := by
   have := congrArg List.length h3
   have hx := encMt_pos x
   simp only [List.length_drop, List.length_append] at this
   omega
  rw [mtsW, mtsW_put h hl hc h1 k (by omega)]
  dsimp only
  rw [if_pos (hc _ hp), h1 x _ _ (hl x (List.mem_of_getElem? hx)) h3, take_snoc hx]
  dsimp only
  rw [List.flatMap_append, List.length_append]
  simp [Nat.add_assoc]
noncomputable def mtsRd (s : List UInt8) : List Mt := (mtsW (fun r => decide (rdEnd s r = 5)) (mtRd s) (rCount s ⟨0, 0⟩ 2000).2 (rCount s ⟨0, 0⟩ 2000).1.toNat).1
noncomputable def mtsRdR (s : List UInt8) : List Mt := (mtsW (fun r => decide (r.er = 0)) (mtRdR s) (rCountZ (-1) s ⟨0, 0⟩ 1000000).2 (min (rCountZ (-1) s ⟨0, 0⟩ 1000000).1.toNat 2001)).1
def OkMs (l : List Mt) : Prop := l.length ≤ 2000 ∧ ∀ m ∈ l, OkM m
theorem encMts_drop (l : List Mt) : (encMts l).drop (lebL l.length).length = l.flatMap encMt ++ [] := by
 rw [encMts, List.drop_left' rfl, List.append_nil]
theorem mtsRd_put {l : List Mt} (h : OkMs l) : mtsRd (encMts l) = l := by
 have hl := h.1
 have ec : rCount (encMts l) ⟨0, 0⟩ 2000 = ((l.length : Int), ⟨0 + (lebL l.length).length, 0⟩) := (rCount_is _ _ _).trans (rCountZ_put (z := 0) (most := 2000) (t := l.flatMap encMt) (by simp [encMts]) (by omega) (by omega))
 have := mtsW_put (c := fun r => decide (rdEnd (encMts l) r = 5)) (one := mtRd (encMts l)) (pl := 0 + (lebL l.length).length) (by rw [Nat.zero_add]; exact encMts_drop l) h.2 (fun pl hp => by simp [rdEnd, hp]) (fun m t pl hm hd => mtRd_put hm hd) l.length (Nat.le_refl _)
 unfold mtsRd
 rw [ec]
 dsimp only
 rw [Int.toNat_natCast, this, List.take_length]
theorem mtsRdR_put {l : List Mt} (h : OkMs l) : mtsRdR (encMts l) = l := by
 have hl := h.1
 have ec : rCountZ (-1) (encMts l) ⟨0, 0⟩ 1000000 = ((l.length : Int), ⟨0 + (lebL l.length).length, 0⟩) := rCountZ_put (t := l.flatMap encMt) (by simp [encMts]) (by omega) (by omega)
 have := mtsW_put (c := fun r => decide (r.er = 0)) (one := mtRdR (encMts l)) (pl := 0 + (lebL l.length).length) (by rw [Nat.zero_add]; exact encMts_drop l) h.2 (fun pl hp => by simp) (fun m t pl hm hd => mtRdR_put hm hd) l.length (Nat.le_refl _)
 unfold mtsRdR
 rw [ec]
 dsimp only
 rw [Int.toNat_natCast, Nat.min_eq_left (by omega), this, List.take_length]
open Classical in
noncomputable def gotBy {α : Type} (enc : α → List UInt8) (ok : α → Prop) (z : α) (s : List UInt8) : α × Int := if h : ∃ x, ok x ∧ enc x = s then (Classical.choose h, 0) else (z, 12)
theorem gotBy_yes {α : Type} {enc : α → List UInt8} {ok : α → Prop} {z : α} {rd : List UInt8 → α} (hrd : ∀ x, ok x → rd (enc x) = x) {s : List UInt8} {x : α} (h : ok x) (e : enc x = s) : gotBy enc ok z s = (x, 0) := by
 have hh : ∃ x, ok x ∧ enc x = s := ⟨x, h, e⟩
 obtain ⟨h1, h2⟩ := Classical.choose_spec hh
 have e : Classical.choose hh = x := by rw [← hrd _ h1, h2, ← e, hrd _ h]
 unfold gotBy
 rw [dif_pos hh, e]
theorem gotBy_no {α : Type} {enc : α → List UInt8} {ok : α → Prop} {z : α} {rd : List UInt8 → α} (hrd : ∀ x, ok x → rd (enc x) = x) {s : List UInt8} (h : ¬ (ok (rd s) ∧ enc (rd s) = s)) : gotBy enc ok z s = (z, 12) := by
 unfold gotBy
 rw [dif_neg]
 rintro ⟨x, h1, h2⟩
 have : rd s = x := by rw [← h2]; exact hrd x h1
 rw [this] at h
 exact h ⟨h1, h2⟩
theorem gotBy_ok {α : Type} {enc : α → List UInt8} {ok : α → Prop} {z : α} {s : List UInt8} (h : (gotBy enc ok z s).2 = 0) : ok (gotBy enc ok z s).1 ∧ enc (gotBy enc ok z s).1 = s := by
 unfold gotBy at h ⊢
 split at h
 · rename_i hh
   rw [dif_pos hh]
   exact Classical.choose_spec hh
 · exact absurd (show (12 : Int) = 0 from h) (by decide)
theorem gotBy_bad {α : Type} {enc : α → List UInt8} {ok : α → Prop} {z : α} {s : List UInt8} (h : ¬ (gotBy enc ok z s).2 = 0) : gotBy enc ok z s = (z, 12) := by
 unfold gotBy at h ⊢
 split at h
 · exact absurd rfl h
 · rename_i hh
   rw [dif_neg hh]
noncomputable def getMts (s : List UInt8) : List Mt × Int := gotBy encMts OkMs [] s
def okSc (x : Sc) : Prop := (0 ≤ x.alive ∧ x.alive ≤ 2000) ∧ (0 ≤ x.killed ∧ x.killed ≤ 2000) ∧ 0 ≤ x.timeout ∧ x.timeout ≤ 2000
instance (x : Sc) : Decidable (okSc x) := by unfold okSc; infer_instance
def encSc (x : Sc) : List UInt8 := lebL x.alive.toNat ++ (lebL x.killed.toNat ++ lebL x.timeout.toNat)
def putSc (x : Sc) : List UInt8 × Int := if okSc x then (encSc x, 0) else ([], 22)
def scW (one : Rs → Int × Rs) : Sc := ⟨(one ⟨0, 0⟩).1, (one (one ⟨0, 0⟩).2).1, (one (one (one ⟨0, 0⟩).2).2).1⟩
theorem scW_put {one : List UInt8 → Rs → Int × Rs} (h1 : ∀ (s t : List UInt8) (pl n : Nat), s.drop pl = lebL n ++ t → n ≤ 2000 → one s ⟨pl, 0⟩ = ((n : Int), ⟨pl + (lebL n).length, 0⟩)) {x : Sc} (h : okSc x) : scW (one (encSc x)) = x := by
 obtain ⟨a, b, c⟩ := x
 obtain ⟨⟨a0, a1⟩, ⟨b0, b1⟩, c0, c1⟩ := h
 obtain ⟨a, rfl⟩ := Int.eq_ofNat_of_zero_le a0
 obtain ⟨b, rfl⟩ := Int.eq_ofNat_of_zero_le b0
 obtain ⟨c, rfl⟩ := Int.eq_ofNat_of_zero_le c0
 have hA : (encSc ⟨a, b, c⟩).drop 0 = lebL a ++ (lebL b ++ (lebL c ++ [])) := by simp [encSc]
 have hB := drop_app hA
 have hC := drop_app hB
 unfold scW
 rw [h1 _ _ _ _ hA (by simp only at a1; omega)]
 dsimp only
 rw [h1 _ _ _ _ hB (by simp only at b1; omega)]
 dsimp only
 rw [h1 _ _ _ _ hC (by simp only at c1; omega)]
def scRd (s : List UInt8) : Sc := scW fun r => rCount s r 2000
def scRdR (s : List UInt8) : Sc := scW fun r => rCountZ (-1) s r 1000000
theorem scRd_put (x : Sc) (h : okSc x) : scRd (encSc x) = x := scW_put (one := fun s r => rCount s r 2000) (fun s t pl n hd hn => (rCount_is _ _ _).trans (rCountZ_put hd (by omega) (by omega))) h
theorem scRdR_put (x : Sc) (h : okSc x) : scRdR (encSc x) = x := scW_put (one := fun s r => rCountZ (-1) s r 1000000) (fun s t pl n hd hn => rCountZ_put hd (by omega) (by omega)) h
noncomputable def getSc (s : List UInt8) : Sc × Int := gotBy encSc okSc ⟨0, 0, 0⟩ s
end Go.Proofs.YtcgglolckkeeiaaGreat
namespace Go.Proofs.YtcgglolckkeeiaaGreat
open Go.RowKit Go.Deep
def Wr (W : World) (B g : Nat) (l : List UInt8) : Prop := B ≤ g ∧ ∃ v, Row W g 172 #[v] ∧ W.ownsRow B 5 1 v l.length (u8s l)
structure WrEff (B g : Nat) (w w' : World) : Prop where
 os : w'.os = w.os
 tape : w'.tape = w.tape
 output : w'.output = w.output
 size : w.heap.size ≤ w'.heap.size
 block : ∀ k, k < w.heap.size → k ≠ g → (∀ cs, B ≤ k → ¬ Row w k 5 cs) → w'.heap[k]? = w.heap[k]?
theorem WrEff.of_below {B g : Nat} {w w' : World} (b : Below w.heap.size w w') : WrEff B g w w' := ⟨b.os, b.tape, b.output, b.size, fun k hk _ _ => b.block k hk⟩
theorem WrEff.refl (B g : Nat) (w : World) : WrEff B g w w := ⟨rfl, rfl, rfl, Nat.le_refl _, fun _ _ _ _ => rfl⟩
theorem WrEff.trans {B g : Nat} {a b c : World} (h : WrEff B g a b) (k : WrEff B g b c) : WrEff B g a c :=
 ⟨k.os.trans h.os, k.tape.trans h.tape, k.output.trans h.output, Nat.le_trans h.size k.size, fun i hi hg hr => by
  have e := h.block i hi hg hr
  refine (k.block i (Nat.lt_of_lt_of_le hi h.size) hg (fun cs hB hrow => hr cs hB ?_)).trans e
  rw [Row] at hrow ⊢; rw [← e]; exact hrow⟩
theorem WrEff.row {B g k : Nat} {w w' : World} {t : TypeId} {cs : Array Value} (h : WrEff B g w w') (hr : Row w k t cs) (hg : k ≠ g) (ht : t ≠ 5) : Row w' k t cs :=
 (h.block k hr.lt hg (fun cs' _ h' => ht (by rw [Row] at hr h'; rw [hr] at h'; injection h' with h'; injection h' with _ h''))).trans hr
theorem WrEff.below {B g : Nat} {w w' : World} (h : WrEff B g w w') (hB : B ≤ g) (hs : B ≤ w.heap.size) : Below B w w' :=
 ⟨h.os, h.tape, h.output, h.size, fun k hk => h.block k (by omega) (by omega) (fun _ hb _ => by omega)⟩
theorem WrEff.keeps {B g C : Nat} {w w' : World} {t : TypeId} {cs : Array Value} (h : WrEff B g w w') (hg : Row w g t cs) : KeepsFrom C w w' :=
 ⟨h.size, fun k o _ hk ho => (h.block k (Array.getElem?_eq_some_iff.1 hk).1 (fun e => by subst e; rw [hg] at hk; cases hk; cases ho) (fun cs' _ h' => by rw [Row] at h'; rw [h'] at hk; cases hk; cases ho)).trans hk⟩
theorem Wr.go {W W' : World} {B g : Nat} {l : List UInt8} (h : Wr W B g l) (b : Below W.heap.size W W') : Wr W' B g l := by
 obtain ⟨h0, v, h1, h2⟩ := h
 exact ⟨h0, v, h1.below b h1.lt, own_below h2 b⟩
instance St.wr {B g : Nat} {l : List UInt8} : St (fun W => Wr W B g l) := ⟨fun h b => h.go b⟩
theorem Wr.lt {W : World} {B g : Nat} {l : List UInt8} (h : Wr W B g l) : g < W.heap.size := by obtain ⟨_, v, h1, _⟩ := h; exact h1.lt
theorem WrEff.of_own {B g n : Nat} {w w' : World} {v : Value} {xs : List Value} (h : w.ownsRow B 5 1 v n xs) (hg : w.grownBy w' v.ownBlock) : WrEff B g w w' :=
 ⟨hg.os, hg.tape, hg.output, hg.size, fun k hk _ hr => hg.block k hk (fun e => by
  rcases h.2 with ⟨rfl, _⟩ | ⟨g', cap, cur, rfl, hB, hh, _⟩
  · simp [Value.ownBlock] at e
  · have : g' = k := by simpa [Value.ownBlock] using e.symm
    subst this
    exact hr _ hB hh)⟩
theorem WrEff.of_only {B g : Nat} {w w' : World} (o : Only g w w') : WrEff B g w w' := ⟨o.os, o.tape, o.output, Nat.le_of_eq o.size.symm, fun k _ hk _ => o.block k hk⟩
theorem wireNew_any (w : World) :
 Calls Tryz.prog 87 #[] w fun e w' => e = .returned (.pointer (some ⟨w.heap.size, 0, none⟩)) ∧ Wr w' w.heap.size w.heap.size [] ∧ Below w.heap.size w w' := by
 go_enter Tryz.func87, Tryz.ntmps87
 go_wp2
 go_ret
 exact ⟨rfl, ⟨Nat.le_refl _, .slice none 0 0, Row.new _ _ _, World.ownsRow_nil _ _ _ _⟩, (Below.refl _ _).alloc (Nat.le_refl _) _⟩
theorem strCells_eq (s : ByteArray) : Lib.strCells s = u8s s.data.toList := by
 rfl
set_option maxHeartbeats 1000000 in
theorem raw_any (B g : Nat) (l : List UInt8) (s : ByteArray) (hl : l.length ≤ 1000000) (hs : s.size ≤ 1000000) (w : World) (h : Wr w B g l) :
 Calls Tryz.prog 129 #[.pointer (some ⟨g, 0, none⟩), .string s] w fun e w' => e = .returned (.pointer (some ⟨g, 0, none⟩)) ∧ Wr w' B g (l ++ s.data.toList) ∧ WrEff B g w w' := by
 obtain ⟨i0, hi0, hz0, hz1, hz2⟩ := info_parts info_u8
 obtain ⟨hBg, v, hr, hown⟩ := h
 have hc := hr.cellv (i := 0) (v := v) rfl
 have hf := hr.free 0
 have hBs : B ≤ w.heap.size := Nat.le_of_lt (Nat.lt_of_le_of_lt hBg hr.lt)
 have Hown := Lib.hid hown
 clear hown
 go_enter Tryz.func129, Tryz.ntmps129
 go_wp2_with (at_builtin; refine Lib.wpList_append_own_string w rfl (.tmp 9) (.tmp 10) 120 9 rfl B 5 i0 Tryz.underlying120 Tryz.underlying9 hi0 hz0 hz1 hz2 v l.length (u8s l) rfl Hown.out s rfl (by unfold maxLen; omega) (by omega) hBs ?_)
 intro v' w1 hown' hg _
 have r1 := hr.grown hg (own_ne Hown.out hr (by decide))
 have e1 := WrEff.of_own (g := g) Hown.out hg
 obtain ⟨A', m', c', rfl⟩ : ∃ A m c, v' = .slice A m c := own_slice hown'
 have hc1 := r1.cellv (i := 0) (v := v) rfl
 have hf1 := r1.free 0
 have nG := own_ne hown' r1 (by decide)
 have Hown' := Lib.hid hown'
 clear hown' hg hc hf
 go_wp2
 go_ret
 have o2 := only_set w1 g 0 (.slice A' m' c')
 refine ⟨rfl, ⟨hBg, _, r1.set 0 _, ?_⟩, e1.trans (WrEff.of_only o2)⟩
 have := own_only Hown'.out o2 nG
 rw [strCells_eq, ← u8s_append] at this
 simpa using this
theorem num_any (B g : Nat) (l : List UInt8) (n : Nat) (hl : l.length ≤ 1000000) (hn : n < 18446744073709551616) (w : World) (h : Wr w B g l) :
 Calls Tryz.prog 88 #[.pointer (some ⟨g, 0, none⟩), .int .u64 n] w fun e w' => e = .returned (.pointer (some ⟨g, 0, none⟩)) ∧ Wr w' B g (l ++ lebL n) ∧ WrEff B g w w' := by
 have Hn := Lib.hid hn
 clear hn
 go_enter Tryz.func88, Tryz.ntmps88
 go_wp2_with fail
 refine (lebPut_any n Hn.out w).mono ?_
 rintro e w1 ⟨rfl, b1⟩
 go_wp2_with fail
 refine (raw_any B g l _ hl (by rw [size_mk]; have := lebL_len n; omega) w1 (h.go b1)).mono ?_
 rintro e w2 ⟨rfl, h2, e2⟩
 go_wp2_with fail
 go_ret
 exact ⟨rfl, h2, (WrEff.of_below b1).trans e2⟩
theorem int_any (B g : Nat) (l : List UInt8) (n : Int) (hl : l.length ≤ 1000000) (hn : InI n) (w : World) (h : Wr w B g l) :
 Calls Tryz.prog 134 #[.pointer (some ⟨g, 0, none⟩), .int .i64 n] w fun e w' => e = .returned (.pointer (some ⟨g, 0, none⟩)) ∧ Wr w' B g (l ++ zz n) ∧ WrEff B g w w' := by
 have Hn := Lib.hid hn
 clear hn
 go_enter Tryz.func134, Tryz.ntmps134
 go_wp2_with fail
 refine (zigPut_any n Hn.out w).mono ?_
 rintro e w1 ⟨rfl, b1⟩
 go_wp2_with fail
 refine (raw_any B g l _ hl (by rw [size_mk]; have := zz_len n; omega) w1 (h.go b1)).mono ?_
 rintro e w2 ⟨rfl, h2, e2⟩
 go_wp2_with fail
 go_ret
 exact ⟨rfl, h2, (WrEff.of_below b1).trans e2⟩
theorem wrBytes_any (B g : Nat) (l : List UInt8) (w : World) (h : Wr w B g l) :
 Calls Tryz.prog 90 #[.pointer (some ⟨g, 0, none⟩)] w fun e w' => e = .returned (.string ⟨l.toArray⟩) ∧ w = w' := by
 obtain ⟨hBg, v, hr, hown⟩ := h
 have hc := hr.cellv (i := 0) (v := v) rfl
 have hconv := run_string_of_own (P := Tryz.prog) 120 9 5 Tryz.underlying120 Tryz.underlying5 Tryz.underlying9 _ hown
 clear hown
 go_enter Tryz.func90, Tryz.ntmps90
 go_wp2_with fail
 go_ret
 exact ⟨rfl, rfl⟩
end Go.Proofs.YtcgglolckkeeiaaGreat
namespace Go.Proofs.YtcgglolckkeeiaaGreat
open Go.RowKit Go.Deep
set_option maxRecDepth 100000 in
set_option maxHeartbeats 2000000 in
theorem wrByte_any (B g : Nat) (l : List UInt8) (b : UInt8) (hl : l.length ≤ 1000000) (w : World) (h : Wr w B g l) :
 Calls Tryz.prog 133 #[.pointer (some ⟨g, 0, none⟩), .int .u8 (b.toNat : Int)] w fun e w' => e = .returned (.pointer (some ⟨g, 0, none⟩)) ∧ Wr w' B g (l ++ [b]) ∧ WrEff B g w w' := by
 obtain ⟨i0, hi0, hz0, hz1, hz2⟩ := info_parts info_u8
 obtain ⟨hBg, v, hr, hown⟩ := h
 have hc := hr.cellv (i := 0) (v := v) rfl
 have hf := hr.free 0
 have hBs : B ≤ w.heap.size := Nat.le_of_lt (Nat.lt_of_le_of_lt hBg hr.lt)
 have HA := Lib.hid (hown.alloc (.cells #[.int .u8 (b.toNat : Int)] 5))
 have ra := hr.alloc (.cells #[.int .u8 (b.toNat : Int)] 5)
 have ea : WrEff B g w (w.alloc (.cells #[.int .u8 (b.toNat : Int)] 5)) := WrEff.of_below ((Below.refl _ _).alloc (Nat.le_refl _) _)
 clear hown
 go_enter Tryz.func133, Tryz.ntmps133
 go_wp2_with (at_builtin; refine wpList_append_own_at _ rfl (.tmp 9) (.tmp 11) 120 rfl B 5 i0 (.int .u8 0) 1 1 Tryz.underlying120 hi0 hz0 hz1 hz2 rfl (by decide) v l.length (u8s l) rfl HA.out ⟨w.heap.size, 0, none⟩ 1 1 (u8s [b]) rfl rfl (cells_new _ _ _) (by simp [u8s, Value.oneCell']) (by unfold maxLen; omega) (by omega) (by simp; omega) ?_)
 intro v' w1 hown' hg _ _
 have r1 := ra.grown hg (own_ne HA.out ra (by decide))
 have e1 := ea.trans (WrEff.of_own (g := g) HA.out hg)
 obtain ⟨A', m', c', rfl⟩ : ∃ A m c, v' = .slice A m c := own_slice hown'
 have hc1 := r1.cellv (i := 0) (v := v) rfl
 have hf1 := r1.free 0
 have nG := own_ne hown' r1 (by decide)
 have Hown' := Lib.hid hown'
 clear hown' hg hc hf ra ea
 go_wp2
 go_ret
 have o2 := only_set w1 g 0 (.slice A' m' c')
 refine ⟨rfl, ⟨hBg, _, r1.set 0 _, ?_⟩, e1.trans (WrEff.of_only o2)⟩
 have := own_only Hown'.out o2 nG
 rw [← u8s_append] at this
 simpa using this
theorem wrText_any (B g : Nat) (l : List UInt8) (s : List UInt8) (hl : l.length ≤ 900000) (hs : s.length ≤ 1000000) (w : World) (h : Wr w B g l) :
 Calls Tryz.prog 132 #[.pointer (some ⟨g, 0, none⟩), .string ⟨s.toArray⟩] w fun e w' => e = .returned (.pointer (some ⟨g, 0, none⟩)) ∧ Wr w' B g (l ++ lebL s.length ++ s) ∧ WrEff B g w w' := by
 have hsz : (⟨s.toArray⟩ : ByteArray).size = s.length := by simp [ByteArray.size]
 have hsI : (s.length : Int) ≤ 1000000 := by omega
 have hw : IntKind.u64.wrap (s.length : Int) = (s.length : Int) := by rw [IntKind.wrap_u64]; omega
 have Hs := Lib.hid hs
 have Hl := Lib.hid hl
 clear hs hl
 go_enter Tryz.func132, Tryz.ntmps132
 go_wp2_with fail
 refine (num_any B g l s.length (by have := Hl.out; omega) (by have := Hs.out; omega) w h).mono ?_
 rintro e w1 ⟨rfl, h1, e1⟩
 go_wp2_with fail
 refine (raw_any B g _ ⟨s.toArray⟩ (by have := Hl.out; have := lebL_len s.length; simp; omega) (by rw [hsz]; exact Hs.out) w1 h1).mono ?_
 rintro e w2 ⟨rfl, h2, e2⟩
 go_wp2_with fail
 go_ret
 exact ⟨rfl, by simpa using h2, e1.trans e2⟩
end Go.Proofs.YtcgglolckkeeiaaGreat
namespace Go.Proofs.YtcgglolckkeeiaaGreat
open Go.RowKit Go.Deep
theorem rd_int_at {W : World} {A : Option Addr} {l : List Int} (hr : Rd W A (ints l)) {k : Nat} {x : Int} (hx : l[k]? = some x) : ∃ ad, A = some ad ∧ W.cell? (ad.add k) = some (.int .i64 x) :=
 rd_map_at (c := fun n : Int => Value.int .i64 n) hr hx
theorem put1_any (n : Int) (w : World) :
 Calls Tryz.prog 169 #[.int .i64 n] w fun e w' => e = .returned (.bool (farZ n)) ∧ Below w.heap.size w w' := by
 unfold farZ
 by_cases h0 : n < 0
 · go_enter Tryz.func169, Tryz.ntmps169
   go_wp2
   go_ret
   exact ⟨by first | (simp; omega) | (simp [h0]; done), Below.refl _ _⟩
 · go_enter Tryz.func169, Tryz.ntmps169
   go_wp2
   go_ret
   exact ⟨by first | (simp; omega) | (simp [h0]; done), Below.refl _ _⟩
set_option maxRecDepth 100000 in
set_option maxHeartbeats 4000000 in
theorem idxIn_any (A : Option Addr) (cap : Nat) (l : List Int) (p : Int → Bool) (w : World) (S : World → Prop) [stS : St S] (hS : S w) (hrd : ∀ W, S W → Rd W A (ints l)) (hlo : ∀ W, S W → Below w.heap.size w W)
 (hp : ∀ x ∈ l, ∀ W, S W → Calls Tryz.prog 169 #[.int .i64 x] W fun e W' => e = .returned (.bool (p x)) ∧ Below W.heap.size W W') (hl : l.length ≤ 1000000) :
 Calls Tryz.prog 191 #[.slice A l.length cap, .func (.func 169) #[] #[]] w fun e w' => e = .returned (.int .i64 (idxZ p l)) ∧ Below w.heap.size w w' := by
 have Hp := Lib.hid hp
 have Hrd := Lib.hid hrd
 have Hlo := Lib.hid hlo
 have hl' : (l.length : Int) ≤ 1000000 := by omega
 clear hp hrd hlo hl
 go_enter Tryz.func191, Tryz.ntmps191
 go_wp2
 go_loopw [8] (fun i wr => ∃ k : Nat, i = .int .i64 (k : Int) ∧ k ≤ l.length ∧ Hid (∀ y ∈ l.take k, p y = false) ∧ S wr) (fun i _ => l.length - (intOf i).toNat)
 case atStart => exact ⟨0, rfl, Nat.zero_le _, Lib.hid (fun x hx => by simp at hx), hS⟩
 case round =>
  clear hS
  obtain ⟨k, rfl, hk, Hall, hS⟩ := hrel
  by_cases hlt : k < l.length
  · obtain ⟨x, hx⟩ : ∃ x, l[k]? = some x := ⟨_, List.getElem?_eq_getElem hlt⟩
    obtain ⟨ad, had, hcx⟩ := rd_int_at (Hrd.out _ hS) hx
    have Hcx : Hid (wr.cell? (ad.add k) = some (.int .i64 x)) := hcx
    have Hx := Lib.hid hx
    have Hcall := Lib.hid (Hp.out x (List.mem_of_getElem? hx) wr hS)
    have hltI : (k : Int) < (l.length : Int) := by omega
    clear hx hlt hcx
    subst had
    (have hcc := Hcx.out); go_wp2_with fail; clear hcc
    refine Hcall.out.mono ?_
    rintro e w' ⟨rfl, b1⟩
    replace hS := stS.go hS b1
    clear b1 Hcall Hcx
    cases hs : p x
    · have Hn := Lib.hid (take_allB_step Hall.out Hx.out hs)
      clear hs Hx
      go_wp2_with fail
      go_roundw
      case rel => exact ⟨k + 1, by go_num, by omega, Hn, hS⟩
      case measure => simp [intOf]; omega
    · have Hn := Lib.hid (idxZ_yes Hall.out Hx.out hs)
      clear hs Hx
      go_wp2_with fail
      go_ret
      exact ⟨by rw [Hn.out]; rfl, Hlo.out _ hS⟩
  · obtain rfl : k = l.length := by omega
    have Hn := Lib.hid (idxZ_no (p := p) (l := l) (by have := Hall.out; rwa [List.take_length] at this))
    clear hlt hk
    go_wp2
    go_ret
    exact ⟨by rw [Hn.out]; rfl, Hlo.out _ hS⟩
set_option maxRecDepth 100000 in
set_option maxHeartbeats 4000000 in
theorem contIn_any (A : Option Addr) (cap : Nat) (l : List Int) (p : Int → Bool) (w : World) (S : World → Prop) [stS : St S] (hS : S w) (hrd : ∀ W, S W → Rd W A (ints l)) (hlo : ∀ W, S W → Below w.heap.size w W)
 (hp : ∀ x ∈ l, ∀ W, S W → Calls Tryz.prog 169 #[.int .i64 x] W fun e W' => e = .returned (.bool (p x)) ∧ Below W.heap.size W W') (hl : l.length ≤ 1000000) :
 Calls Tryz.prog 170 #[.slice A l.length cap, .func (.func 169) #[] #[]] w fun e w' => e = .returned (.bool (l.any p)) ∧ Below w.heap.size w w' := by
 have Hc := Lib.hid (idxIn_any A cap l p w S hS hrd hlo hp hl)
 clear hp hrd hlo hl hS
 go_enter Tryz.func170, Tryz.ntmps170
 go_wp2_with fail
 refine Hc.out.mono ?_
 rintro e w' ⟨rfl, b1⟩
 have Ha := Lib.hid (idxZ_any p l)
 clear Hc
 go_wp2_with fail
 go_ret
 exact ⟨ret_b Ha.out.symm, b1⟩
theorem between_any (n lo hi : Int) (w : World) :
 Calls Tryz.prog 172 #[.int .i64 n, .int .i64 lo, .int .i64 hi] w fun e w' => e = .returned (.bool (decide (lo ≤ n) && decide (n ≤ hi))) ∧ w = w' := by
 by_cases h0 : lo ≤ n
 · go_enter Tryz.func172, Tryz.ntmps172
   go_wp2
   go_ret
   exact ⟨by first | (simp; omega) | (simp [h0]; done), rfl⟩
 · go_enter Tryz.func172, Tryz.ntmps172
   go_wp2
   go_ret
   exact ⟨by first | (simp; omega) | (simp [h0]; done), rfl⟩
end Go.Proofs.YtcgglolckkeeiaaGreat
