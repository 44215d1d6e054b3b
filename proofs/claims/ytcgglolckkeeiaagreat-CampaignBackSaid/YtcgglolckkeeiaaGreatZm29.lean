/- Lemmas for CmAll. -/
import Derived.Test.YtcgglolckkeeiaaGreatZm28
import Derived.Test.YtcgglolckkeeiaaGreatZm9
import Derived.Test.YtcgglolckkeeiaaGreatZm16
import Derived.Lib.AppendStr
import Derived.Maps.AppendAt
namespace Go.Proofs.YtcgglolckkeeiaaGreat
set_option linter.unusedVariables false
open Go.RowKit
def fineM (m : Mt) : Bool := rightDl m.d && rightZ m
def tailM (m : Mt) : List UInt8 := lebL m.test.toNat ++ ([UInt8.ofNat m.kind.toNat] ++ (zz m.value ++ m.digest))
def restM (m : Mt) : List UInt8 := if m.verdict = 0 then [] else tailM m
def encMt (m : Mt) : List UInt8 := lebL (encDl m.d).length ++ (encDl m.d ++ (UInt8.ofNat m.verdict.toNat :: restM m))
def encMts (l : List Mt) : List UInt8 := lebL l.length ++ l.flatMap encMt
def putMts (l : List Mt) : List UInt8 × Int := if l.length ≤ 2000 ∧ l.all fineM = true then (encMts l, 0) else ([], 24)
theorem right_alive {m : Mt} (h : rightZ m = true) (hv : m.verdict = 0) : m = ⟨m.d, 0, -1, 0, 0, []⟩ := by
 unfold rightZ at h
 rw [if_pos hv, decide_eq_true_eq] at h
 obtain ⟨d, v, t, k, u, g⟩ := m
 simp only at h hv ⊢
 obtain ⟨rfl, rfl, rfl, rfl⟩ := h
 rw [hv]
theorem right_told {m : Mt} (h : rightZ m = true) (hv : ¬ m.verdict = 0) : (m.verdict = 1 ∨ m.verdict = 2) ∧ 0 ≤ m.test ∧ m.test ≤ 19 ∧ m.digest.length = 32 ∧ 0 ≤ m.kind ∧ m.kind ≤ 4 := by
 unfold rightZ at h
 rw [if_neg hv] at h
 by_cases h1 : m.verdict = 1
 · rw [if_pos h1, decide_eq_true_eq] at h
   obtain ⟨⟨a, b, c⟩, d, e, _⟩ := h
   exact ⟨.inl h1, a, b, c, d, by omega⟩
 · rw [if_neg h1] at h
   by_cases h2 : m.verdict = 2
   · rw [if_pos h2, decide_eq_true_eq] at h
     obtain ⟨⟨a, b, c⟩, d, _⟩ := h
     exact ⟨.inr h2, a, b, c, by omega, by omega⟩
   · rw [if_neg h2] at h; cases h
theorem fineM_iff {m : Mt} : fineM m = true ↔ rightDl m.d = true ∧ rightZ m = true := by unfold fineM; rw [Bool.and_eq_true]
theorem tailM_len {m : Mt} (h : m.digest.length = 32) : (tailM m).length ≤ 53 := by
 have h1 := lebL_len m.test.toNat
 have h2 := zz_len m.value
 simp only [tailM, List.length_append, List.length_cons, List.length_nil, h]
 omega
theorem encMt_len {m : Mt} (h : fineM m = true) : (encMt m).length ≤ 385 := by
 obtain ⟨h1, h2⟩ := fineM_iff.1 h
 have h3 := encDl_len h1
 have h4 := lebL_len (encDl m.d).length
 have h5 : (restM m).length ≤ 53 := by
  unfold restM
  by_cases hv : m.verdict = 0
  · rw [if_pos hv]; simp
  · rw [if_neg hv]; exact tailM_len (right_told h2 hv).2.2.2.1
 simp only [encMt, List.length_append, List.length_cons]
 omega
theorem encMt_pos (m : Mt) : 0 < (encMt m).length := by simp only [encMt, List.length_append, List.length_cons]; omega
theorem flat_len {l : List Mt} (h : l.all fineM = true) : (l.flatMap encMt).length ≤ 385 * l.length := by
 induction l with
 | nil => simp
 | cons a l ih =>
  rw [List.all_cons, Bool.and_eq_true] at h
  have h1 := ih h.2
  have h2 := encMt_len h.1
  simp only [List.flatMap_cons, List.length_append, List.length_cons]
  omega
theorem rRaw_put {s x t : List UInt8} {pl : Nat} (h : s.drop pl = x ++ t) (hx : 0 < x.length) : rRaw s ⟨pl, 0⟩ x.length = (x, ⟨pl + x.length, 0⟩) := by
 have hl : pl + x.length ≤ s.length := by
  have := congrArg List.length h
  simp only [List.length_drop, List.length_append] at this
  omega
 unfold rRaw partP
 dsimp only
 rw [if_neg (by omega), h, List.take_left' rfl]
 exact step_good rfl _ _ _
theorem rText_put {s x t : List UInt8} {pl : Nat} {most : Int} (h : s.drop pl = lebL x.length ++ (x ++ t)) (hm : (x.length : Int) ≤ most) (h2 : x.length < 1000000) : rText s ⟨pl, 0⟩ most = (x, ⟨pl + (lebL x.length).length + x.length, 0⟩) := by
 have e : countP s pl most = (0, pl + (lebL x.length).length, x.length) := by
  unfold countP
  rw [h, getL_put x.length (by omega) _]
  simp only [true_and]
  rw [if_neg (by omega)]
 have hd := drop_app h
 have hl : pl + (lebL x.length).length + x.length ≤ s.length := by
  have := congrArg List.length h
  have hp := lebF_pos 9 x.length
  simp only [List.length_drop, List.length_append] at this
  have : 0 < (lebL x.length).length := by rw [lebL]; exact hp
  omega
 unfold rText
 dsimp only
 rw [e]
 dsimp only
 rw [if_pos rfl]
 unfold partP
 rw [if_neg (by omega), hd, List.take_left' rfl]
 exact step_good rfl _ _ _
noncomputable def mtRd (s : List UInt8) (r : Rs) : Mt × Rs :=
 let t := rText s r 1048576
 let b := rByte s t.2
 let c := rCount s b.2 20
 let k := rByte s c.2
 let v := rInt s k.2
 let g := rRaw s v.2 32
 if b.1 = 0 then (⟨(getDl t.1).1, 0, -1, 0, 0, []⟩, b.2) else (⟨(getDl t.1).1, b.1, c.1, k.1, v.1, g.1⟩, g.2)
def OkM (m : Mt) : Prop := fineM m = true ∧ InI m.d.n ∧ InI m.value
theorem u8_small {n : Int} (h1 : 0 ≤ n) (h2 : n ≤ 255) : ((UInt8.ofNat n.toNat).toNat : Int) = n := by
 have e : (UInt8.ofNat n.toNat).toNat = n.toNat % 256 := by simp
 rw [e]; omega
theorem mtRd_put {m : Mt} {s t : List UInt8} {pl : Nat} (hm : OkM m) (h : s.drop pl = encMt m ++ t) : mtRd s ⟨pl, 0⟩ = (m, ⟨pl + (encMt m).length, 0⟩) := by
 obtain ⟨hf, hn, hv⟩ := hm
 obtain ⟨h1, h2⟩ := fineM_iff.1 hf
 have hl := encDl_len h1
 have hT : s.drop pl = lebL (encDl m.d).length ++ (encDl m.d ++ ((UInt8.ofNat m.verdict.toNat :: restM m) ++ t)) := by rw [h]; simp [encMt]
 have eT := rText_put (most := 1048576) hT (by omega) (by omega)
 have hB := drop_app (drop_app hT)
 have eB := rByte_put (b := UInt8.ofNat m.verdict.toNat) (t := restM m ++ t) hB
 have hlen : pl + (encMt m).length = pl + (lebL (encDl m.d).length).length + (encDl m.d).length + 1 + (restM m).length := by
  simp only [encMt, List.length_append, List.length_cons]; omega
 rw [hlen]
 unfold mtRd
 rw [eT]
 dsimp only
 rw [eB]
 dsimp only
 rw [getDl_put h1 hn]
 by_cases h0 : m.verdict = 0
 · have e0 : (UInt8.ofNat m.verdict.toNat).toNat = 0 := by rw [h0]; rfl
   rw [if_pos e0]
   have hr : restM m = [] := if_pos h0
   have hm := right_alive h2 h0
   rw [hr]
   dsimp only [List.length_nil, Nat.add_zero]
   rw [← hm]
 · obtain ⟨g1, g2, g3, g4, g5, g6⟩ := right_told h2 h0
   have e1 := u8_small (n := m.verdict) (by omega) (by omega)
   rw [if_neg (by omega)]
   have hr : restM m = tailM m := if_neg h0
   have hC := drop_app (a := [UInt8.ofNat m.verdict.toNat]) (t := restM m ++ t) hB
   rw [hr] at hC ⊢
   obtain ⟨ti, hti⟩ := Int.eq_ofNat_of_zero_le g2
   have hC' : s.drop (pl + (lebL (encDl m.d).length).length + (encDl m.d).length + 1) = lebL ti ++ ([UInt8.ofNat m.kind.toNat] ++ (zz m.value ++ (m.digest ++ t))) := by
    rw [show (1 : Nat) = [UInt8.ofNat m.verdict.toNat].length from rfl, hC]
    simp [tailM, hti]
   have eC : rCount s ⟨pl + (lebL (encDl m.d).length).length + (encDl m.d).length + 1, 0⟩ 20 = _ := (rCount_is _ _ _).trans (rCountZ_put (z := 0) (most := 20) hC' (by omega) (by omega))
   have hK := drop_app hC'
   have eK := rByte_put (b := UInt8.ofNat m.kind.toNat) hK
   have hV := drop_app (a := [UInt8.ofNat m.kind.toNat]) hK
   have eV : rInt s ⟨pl + (lebL (encDl m.d).length).length + (encDl m.d).length + 1 + (lebL ti).length + 1, 0⟩ = _ := rIntZ_put (z := 0) hV hv
   have hG := drop_app hV
   have eG := rRaw_put hG (by omega)
   rw [g4] at eG
   rw [eC]
   dsimp only
   rw [eK]
   dsimp only
   rw [eV]
   dsimp only
   rw [show [UInt8.ofNat m.kind.toNat].length = 1 from rfl] at eG
   rw [eG, e1, u8_small g5 (by omega), ← hti]
   have hl2 : (tailM m).length = (lebL ti).length + 1 + (zz m.value).length + 32 := by
    simp only [tailM, List.length_append, List.length_cons, List.length_nil, g4, hti, Int.toNat_natCast]; omega
   rw [hl2]
   simp only [Nat.add_assoc]
def mtsW (c : Rs → Bool) (one : Rs → Mt × Rs) (r : Rs) : Nat → List Mt × Rs
 | 0 => ([], r)
 | k + 1 => if c (mtsW c one r k).2 = true then ((mtsW c one r k).1 ++ [(one (mtsW c one r k).2).1], (one (mtsW c one r k).2).2) else mtsW c one r k
theorem mtsW_put {c : Rs → Bool} {one : Rs → Mt × Rs} {s t : List UInt8} {pl : Nat} {l : List Mt} (h : s.drop pl = l.flatMap encMt ++ t) (hl : ∀ m ∈ l, OkM m) (hc : ∀ pl, pl < s.length → c ⟨pl, 0⟩ = true)
 (h1 : ∀ (m : Mt) (t : List UInt8) (pl : Nat), OkM m → s.drop pl = encMt m ++ t → one ⟨pl, 0⟩ = (m, ⟨pl + (encMt m).length, 0⟩)) : ∀ k, k ≤ l.length → mtsW c one ⟨pl, 0⟩ k = (l.take k, ⟨pl + ((l.take k).flatMap encMt).length, 0⟩)
 | 0, _ => by simp [mtsW]
 | k + 1, hk => by
  obtain ⟨x, hx⟩ : ∃ x, l[k]? = some x := ⟨_, List.getElem?_eq_getElem hk⟩
  have e : l = l.take k ++ (x :: l.drop (k + 1)) := by
   have h2 : l.drop k = x :: l.drop (k + 1) := by rw [← List.getElem_cons_drop hk, (List.getElem?_eq_some_iff.1 hx).2]
   rw [← h2, List.take_append_drop]
  have h3 : s.drop (pl + ((l.take k).flatMap encMt).length) = encMt x ++ ((l.drop (k + 1)).flatMap encMt ++ t) := by
   refine drop_app (a := (l.take k).flatMap encMt) ?_
   rw [h]
   conv => lhs; rw [e]
   simp
  have hp : pl + ((l.take k).flatMap encMt).length < s.length := by
   have := congrArg List.length h3
   have hx := encMt_pos x
   simp only [List.length_drop, List.length_append] at this
   omega
  rw [mtsW, mtsW_put h hl hc h1 k (by omega)]
  dsimp only
  rw [if_pos (hc _ hp), h1 x _ _ (hl x (List.mem_of_getElem? hx)) h3, take_snoc hx]
  dsimp only
  rw [List.flatMap_append, List.length_append]
  simp [Nat.add_assoc]
noncomputable def mtsRd (s : List UInt8) : List Mt := (mtsW (fun r => decide (rdEnd s r = 5)) (mtRd s) (rCount s ⟨0, 0⟩ 2000).2 (rCount s ⟨0, 0⟩ 2000).1.toNat).1
def OkMs (l : List Mt) : Prop := l.length ≤ 2000 ∧ ∀ m ∈ l, OkM m
theorem encMts_drop (l : List Mt) : (encMts l).drop (lebL l.length).length = l.flatMap encMt ++ [] := by
 rw [encMts, List.drop_left' rfl, List.append_nil]
theorem mtsRd_put {l : List Mt} (h : OkMs l) : mtsRd (encMts l) = l := by
 have hl := h.1
 have ec : rCount (encMts l) ⟨0, 0⟩ 2000 = ((l.length : Int), ⟨0 + (lebL l.length).length, 0⟩) := (rCount_is _ _ _).trans (rCountZ_put (z := 0) (most := 2000) (t := l.flatMap encMt) (by simp [encMts]) (by omega) (by omega))
 have := mtsW_put (c := fun r => decide (rdEnd (encMts l) r = 5)) (one := mtRd (encMts l)) (pl := 0 + (lebL l.length).length) (by rw [Nat.zero_add]; exact encMts_drop l) h.2 (fun pl hp => by simp [rdEnd, hp]) (fun m t pl hm hd => mtRd_put hm hd) l.length (Nat.le_refl _)
 unfold mtsRd
 rw [ec]
 dsimp only
 rw [Int.toNat_natCast, this, List.take_length]
open Classical in
noncomputable def gotBy {α : Type} (enc : α → List UInt8) (ok : α → Prop) (z : α) (s : List UInt8) : α × Int := if h : ∃ x, ok x ∧ enc x = s then (Classical.choose h, 0) else (z, 12)
theorem gotBy_yes {α : Type} {enc : α → List UInt8} {ok : α → Prop} {z : α} {rd : List UInt8 → α} (hrd : ∀ x, ok x → rd (enc x) = x) {s : List UInt8} {x : α} (h : ok x) (e : enc x = s) : gotBy enc ok z s = (x, 0) := by
 have hh : ∃ x, ok x ∧ enc x = s := ⟨x, h, e⟩
 obtain ⟨h1, h2⟩ := Classical.choose_spec hh
 have e : Classical.choose hh = x := by rw [← hrd _ h1, h2, ← e, hrd _ h]
 unfold gotBy
 rw [dif_pos hh, e]
theorem gotBy_no {α : Type} {enc : α → List UInt8} {ok : α → Prop} {z : α} {rd : List UInt8 → α} (hrd : ∀ x, ok x → rd (enc x) = x) {s : List UInt8} (h : ¬ (ok (rd s) ∧ enc (rd s) = s)) : gotBy enc ok z s = (z, 12) := by
 unfold gotBy
 rw [dif_neg]
 rintro ⟨x, h1, h2⟩
 have : rd s = x := by rw [← h2]; exact hrd x h1
 rw [this] at h
 exact h ⟨h1, h2⟩
theorem gotBy_ok {α : Type} {enc : α → List UInt8} {ok : α → Prop} {z : α} {s : List UInt8} (h : (gotBy enc ok z s).2 = 0) : ok (gotBy enc ok z s).1 ∧ enc (gotBy enc ok z s).1 = s := by
 unfold gotBy at h ⊢
 split at h
 · rename_i hh
   rw [dif_pos hh]
   exact Classical.choose_spec hh
 · exact absurd (show (12 : Int) = 0 from h) (by decide)
theorem gotBy_bad {α : Type} {enc : α → List UInt8} {ok : α → Prop} {z : α} {s : List UInt8} (h : ¬ (gotBy enc ok z s).2 = 0) : gotBy enc ok z s = (z, 12) := by
 unfold gotBy at h ⊢
 split at h
 · exact absurd rfl h
 · rename_i hh
   rw [dif_neg hh]
noncomputable def getMts (s : List UInt8) : List Mt × Int := gotBy encMts OkMs [] s
def okSc (x : Sc) : Prop := (0 ≤ x.alive ∧ x.alive ≤ 2000) ∧ (0 ≤ x.killed ∧ x.killed ≤ 2000) ∧ 0 ≤ x.timeout ∧ x.timeout ≤ 2000
instance (x : Sc) : Decidable (okSc x) := by unfold okSc; infer_instance
def encSc (x : Sc) : List UInt8 := lebL x.alive.toNat ++ (lebL x.killed.toNat ++ lebL x.timeout.toNat)
def putSc (x : Sc) : List UInt8 × Int := if okSc x then (encSc x, 0) else ([], 22)
def scW (one : Rs → Int × Rs) : Sc := ⟨(one ⟨0, 0⟩).1, (one (one ⟨0, 0⟩).2).1, (one (one (one ⟨0, 0⟩).2).2).1⟩
theorem scW_put {one : List UInt8 → Rs → Int × Rs} (h1 : ∀ (s t : List UInt8) (pl n : Nat), s.drop pl = lebL n ++ t → n ≤ 2000 → one s ⟨pl, 0⟩ = ((n : Int), ⟨pl + (lebL n).length, 0⟩)) {x : Sc} (h : okSc x) : scW (one (encSc x)) = x := by
 obtain ⟨a, b, c⟩ := x
 obtain ⟨⟨a0, a1⟩, ⟨b0, b1⟩, c0, c1⟩ := h
 obtain ⟨a, rfl⟩ := Int.eq_ofNat_of_zero_le a0
 obtain ⟨b, rfl⟩ := Int.eq_ofNat_of_zero_le b0
 obtain ⟨c, rfl⟩ := Int.eq_ofNat_of_zero_le c0
 have hA : (encSc ⟨a, b, c⟩).drop 0 = lebL a ++ (lebL b ++ (lebL c ++ [])) := by simp [encSc]
 have hB := drop_app hA
 have hC := drop_app hB
 unfold scW
 rw [h1 _ _ _ _ hA (by simp only at a1; omega)]
 dsimp only
 rw [h1 _ _ _ _ hB (by simp only at b1; omega)]
 dsimp only
 rw [h1 _ _ _ _ hC (by simp only at c1; omega)]
def scRd (s : List UInt8) : Sc := scW fun r => rCount s r 2000
theorem scRd_put (x : Sc) (h : okSc x) : scRd (encSc x) = x := scW_put (one := fun s r => rCount s r 2000) (fun s t pl n hd hn => (rCount_is _ _ _).trans (rCountZ_put hd (by omega) (by omega))) h
noncomputable def getSc (s : List UInt8) : Sc × Int := gotBy encSc okSc ⟨0, 0, 0⟩ s
end Go.Proofs.YtcgglolckkeeiaaGreat
namespace Go.Proofs.YtcgglolckkeeiaaGreat
set_option linter.unusedVariables false
open Go.RowKit Go.Deep
def Wr (W : World) (B g : Nat) (l : List UInt8) : Prop := B ≤ g ∧ ∃ v, Row W g 172 #[v] ∧ W.ownsRow B 5 1 v l.length (u8s l)
structure WrEff (B g : Nat) (w w' : World) : Prop where
 os : w'.os = w.os
 tape : w'.tape = w.tape
 output : w'.output = w.output
 size : w.heap.size ≤ w'.heap.size
 block : ∀ k, k < w.heap.size → k ≠ g → (∀ cs, B ≤ k → ¬ Row w k 5 cs) → w'.heap[k]? = w.heap[k]?
theorem WrEff.of_below {B g : Nat} {w w' : World} (b : Below w.heap.size w w') : WrEff B g w w' := ⟨b.os, b.tape, b.output, b.size, fun k hk _ _ => b.block k hk⟩
theorem WrEff.refl (B g : Nat) (w : World) : WrEff B g w w := ⟨rfl, rfl, rfl, Nat.le_refl _, fun _ _ _ _ => rfl⟩
theorem WrEff.trans {B g : Nat} {a b c : World} (h : WrEff B g a b) (k : WrEff B g b c) : WrEff B g a c :=
 ⟨k.os.trans h.os, k.tape.trans h.tape, k.output.trans h.output, Nat.le_trans h.size k.size, fun i hi hg hr => by
  have e := h.block i hi hg hr
  refine (k.block i (Nat.lt_of_lt_of_le hi h.size) hg (fun cs hB hrow => hr cs hB ?_)).trans e
  rw [Row] at hrow ⊢; rw [← e]; exact hrow⟩
theorem WrEff.row {B g k : Nat} {w w' : World} {t : TypeId} {cs : Array Value} (h : WrEff B g w w') (hr : Row w k t cs) (hg : k ≠ g) (ht : t ≠ 5) : Row w' k t cs :=
 (h.block k hr.lt hg (fun cs' _ h' => ht (by rw [Row] at hr h'; rw [hr] at h'; injection h' with h'; injection h' with _ h''))).trans hr
theorem WrEff.below {B g : Nat} {w w' : World} (h : WrEff B g w w') (hB : B ≤ g) (hs : B ≤ w.heap.size) : Below B w w' :=
 ⟨h.os, h.tape, h.output, h.size, fun k hk => h.block k (by omega) (by omega) (fun _ hb _ => by omega)⟩
theorem WrEff.keeps {B g C : Nat} {w w' : World} {t : TypeId} {cs : Array Value} (h : WrEff B g w w') (hg : Row w g t cs) : KeepsFrom C w w' :=
 ⟨h.size, fun k o _ hk ho => (h.block k (Array.getElem?_eq_some_iff.1 hk).1 (fun e => by subst e; rw [hg] at hk; cases hk; cases ho) (fun cs' _ h' => by rw [Row] at h'; rw [h'] at hk; cases hk; cases ho)).trans hk⟩
theorem Wr.go {W W' : World} {B g : Nat} {l : List UInt8} (h : Wr W B g l) (b : Below W.heap.size W W') : Wr W' B g l := by
 obtain ⟨h0, v, h1, h2⟩ := h
 exact ⟨h0, v, h1.below b h1.lt, own_below h2 b⟩
instance St.wr {B g : Nat} {l : List UInt8} : St (fun W => Wr W B g l) := ⟨fun h b => h.go b⟩
theorem Wr.lt {W : World} {B g : Nat} {l : List UInt8} (h : Wr W B g l) : g < W.heap.size := by obtain ⟨_, v, h1, _⟩ := h; exact h1.lt
theorem WrEff.of_own {B g n : Nat} {w w' : World} {v : Value} {xs : List Value} (h : w.ownsRow B 5 1 v n xs) (hg : w.grownBy w' v.ownBlock) : WrEff B g w w' :=
 ⟨hg.os, hg.tape, hg.output, hg.size, fun k hk _ hr => hg.block k hk (fun e => by
  rcases h.2 with ⟨rfl, _⟩ | ⟨g', cap, cur, rfl, hB, hh, _⟩
  · simp [Value.ownBlock] at e
  · have : g' = k := by simpa [Value.ownBlock] using e.symm
    subst this
    exact hr _ hB hh)⟩
theorem WrEff.of_only {B g : Nat} {w w' : World} (o : Only g w w') : WrEff B g w w' := ⟨o.os, o.tape, o.output, Nat.le_of_eq o.size.symm, fun k _ hk _ => o.block k hk⟩
theorem wireNew_any (w : World) :
 Calls Tryz.prog 87 #[] w fun e w' => e = .returned (.pointer (some ⟨w.heap.size, 0, none⟩)) ∧ Wr w' w.heap.size w.heap.size [] ∧ Below w.heap.size w w' := by
 go_enter Tryz.func87, Tryz.ntmps87
 go_wp2
 go_ret
 exact ⟨rfl, ⟨Nat.le_refl _, .slice none 0 0, Row.new _ _ _, World.ownsRow_nil _ _ _ _⟩, (Below.refl _ _).alloc (Nat.le_refl _) _⟩
theorem strCells_eq (s : ByteArray) : Lib.strCells s = u8s s.data.toList := by
 rfl
set_option maxHeartbeats 1000000 in
theorem raw_any (B g : Nat) (l : List UInt8) (s : ByteArray) (hl : l.length ≤ 1000000) (hs : s.size ≤ 1000000) (w : World) (h : Wr w B g l) :
 Calls Tryz.prog 129 #[.pointer (some ⟨g, 0, none⟩), .string s] w fun e w' => e = .returned (.pointer (some ⟨g, 0, none⟩)) ∧ Wr w' B g (l ++ s.data.toList) ∧ WrEff B g w w' := by
 obtain ⟨i0, hi0, hz0, hz1, hz2⟩ := info_parts info_u8
 obtain ⟨hBg, v, hr, hown⟩ := h
 have hc := hr.cellv (i := 0) (v := v) rfl
 have hf := hr.free 0
 have hBs : B ≤ w.heap.size := Nat.le_of_lt (Nat.lt_of_le_of_lt hBg hr.lt)
 have Hown := Lib.hid hown
 clear hown
 go_enter Tryz.func129, Tryz.ntmps129
 go_wp2_with (at_builtin; refine Lib.wpList_append_own_string w rfl (.tmp 9) (.tmp 10) 120 9 rfl B 5 i0 Tryz.underlying120 Tryz.underlying9 hi0 hz0 hz1 hz2 v l.length (u8s l) rfl Hown.out s rfl (by unfold maxLen; omega) (by omega) hBs ?_)
 intro v' w1 hown' hg _
 have r1 := hr.grown hg (own_ne Hown.out hr (by decide))
 have e1 := WrEff.of_own (g := g) Hown.out hg
 obtain ⟨A', m', c', rfl⟩ : ∃ A m c, v' = .slice A m c := own_slice hown'
 have hc1 := r1.cellv (i := 0) (v := v) rfl
 have hf1 := r1.free 0
 have nG := own_ne hown' r1 (by decide)
 have Hown' := Lib.hid hown'
 clear hown' hg hc hf
 go_wp2
 go_ret
 have o2 := only_set w1 g 0 (.slice A' m' c')
 refine ⟨rfl, ⟨hBg, _, r1.set 0 _, ?_⟩, e1.trans (WrEff.of_only o2)⟩
 have := own_only Hown'.out o2 nG
 rw [strCells_eq, ← u8s_append] at this
 simpa using this
theorem num_any (B g : Nat) (l : List UInt8) (n : Nat) (hl : l.length ≤ 1000000) (hn : n < 18446744073709551616) (w : World) (h : Wr w B g l) :
 Calls Tryz.prog 88 #[.pointer (some ⟨g, 0, none⟩), .int .u64 n] w fun e w' => e = .returned (.pointer (some ⟨g, 0, none⟩)) ∧ Wr w' B g (l ++ lebL n) ∧ WrEff B g w w' := by
 have Hn := Lib.hid hn
 clear hn
 go_enter Tryz.func88, Tryz.ntmps88
 go_wp2_with fail
 refine (lebPut_any n Hn.out w).mono ?_
 rintro e w1 ⟨rfl, b1⟩
 go_wp2_with fail
 refine (raw_any B g l _ hl (by rw [size_mk]; have := lebL_len n; omega) w1 (h.go b1)).mono ?_
 rintro e w2 ⟨rfl, h2, e2⟩
 go_wp2_with fail
 go_ret
 exact ⟨rfl, h2, (WrEff.of_below b1).trans e2⟩
theorem int_any (B g : Nat) (l : List UInt8) (n : Int) (hl : l.length ≤ 1000000) (hn : InI n) (w : World) (h : Wr w B g l) :
 Calls Tryz.prog 134 #[.pointer (some ⟨g, 0, none⟩), .int .i64 n] w fun e w' => e = .returned (.pointer (some ⟨g, 0, none⟩)) ∧ Wr w' B g (l ++ zz n) ∧ WrEff B g w w' := by
 have Hn := Lib.hid hn
 clear hn
 go_enter Tryz.func134, Tryz.ntmps134
 go_wp2_with fail
 refine (zigPut_any n Hn.out w).mono ?_
 rintro e w1 ⟨rfl, b1⟩
 go_wp2_with fail
 refine (raw_any B g l _ hl (by rw [size_mk]; have := zz_len n; omega) w1 (h.go b1)).mono ?_
 rintro e w2 ⟨rfl, h2, e2⟩
 go_wp2_with fail
 go_ret
 exact ⟨rfl, h2, (WrEff.of_below b1).trans e2⟩
theorem wrBytes_any (B g : Nat) (l : List UInt8) (w : World) (h : Wr w B g l) :
 Calls Tryz.prog 90 #[.pointer (some ⟨g, 0, none⟩)] w fun e w' => e = .returned (.string ⟨l.toArray⟩) ∧ w = w' := by
 obtain ⟨hBg, v, hr, hown⟩ := h
 have hc := hr.cellv (i := 0) (v := v) rfl
 have hconv := run_string_of_own (P := Tryz.prog) 120 9 5 Tryz.underlying120 Tryz.underlying5 Tryz.underlying9 _ hown
 clear hown
 go_enter Tryz.func90, Tryz.ntmps90
 go_wp2_with fail
 go_ret
 exact ⟨rfl, rfl⟩
end Go.Proofs.YtcgglolckkeeiaaGreat
namespace Go.Proofs.YtcgglolckkeeiaaGreat
set_option linter.unusedVariables false
open Go.RowKit Go.Deep
set_option maxRecDepth 100000 in
set_option maxHeartbeats 2000000 in
theorem wrByte_any (B g : Nat) (l : List UInt8) (b : UInt8) (hl : l.length ≤ 1000000) (w : World) (h : Wr w B g l) :
 Calls Tryz.prog 133 #[.pointer (some ⟨g, 0, none⟩), .int .u8 (b.toNat : Int)] w fun e w' => e = .returned (.pointer (some ⟨g, 0, none⟩)) ∧ Wr w' B g (l ++ [b]) ∧ WrEff B g w w' := by
 obtain ⟨i0, hi0, hz0, hz1, hz2⟩ := info_parts info_u8
 obtain ⟨hBg, v, hr, hown⟩ := h
 have hc := hr.cellv (i := 0) (v := v) rfl
 have hf := hr.free 0
 have hBs : B ≤ w.heap.size := Nat.le_of_lt (Nat.lt_of_le_of_lt hBg hr.lt)
 have HA := Lib.hid (hown.alloc (.cells #[.int .u8 (b.toNat : Int)] 5))
 have ra := hr.alloc (.cells #[.int .u8 (b.toNat : Int)] 5)
 have ea : WrEff B g w (w.alloc (.cells #[.int .u8 (b.toNat : Int)] 5)) := WrEff.of_below ((Below.refl _ _).alloc (Nat.le_refl _) _)
 clear hown
 go_enter Tryz.func133, Tryz.ntmps133
 go_wp2_with (at_builtin; refine wpList_append_own_at _ rfl (.tmp 9) (.tmp 11) 120 rfl B 5 i0 (.int .u8 0) 1 1 Tryz.underlying120 hi0 hz0 hz1 hz2 rfl (by decide) v l.length (u8s l) rfl HA.out ⟨w.heap.size, 0, none⟩ 1 1 (u8s [b]) rfl rfl (cells_new _ _ _) (by simp [u8s, Value.oneCell']) (by unfold maxLen; omega) (by omega) (by simp; omega) ?_)
 intro v' w1 hown' hg _ _
 have r1 := ra.grown hg (own_ne HA.out ra (by decide))
 have e1 := ea.trans (WrEff.of_own (g := g) HA.out hg)
 obtain ⟨A', m', c', rfl⟩ : ∃ A m c, v' = .slice A m c := own_slice hown'
 have hc1 := r1.cellv (i := 0) (v := v) rfl
 have hf1 := r1.free 0
 have nG := own_ne hown' r1 (by decide)
 have Hown' := Lib.hid hown'
 clear hown' hg hc hf ra ea
 go_wp2
 go_ret
 have o2 := only_set w1 g 0 (.slice A' m' c')
 refine ⟨rfl, ⟨hBg, _, r1.set 0 _, ?_⟩, e1.trans (WrEff.of_only o2)⟩
 have := own_only Hown'.out o2 nG
 rw [← u8s_append] at this
 simpa using this
theorem wrText_any (B g : Nat) (l : List UInt8) (s : List UInt8) (hl : l.length ≤ 900000) (hs : s.length ≤ 1000000) (w : World) (h : Wr w B g l) :
 Calls Tryz.prog 132 #[.pointer (some ⟨g, 0, none⟩), .string ⟨s.toArray⟩] w fun e w' => e = .returned (.pointer (some ⟨g, 0, none⟩)) ∧ Wr w' B g (l ++ lebL s.length ++ s) ∧ WrEff B g w w' := by
 have hsz : (⟨s.toArray⟩ : ByteArray).size = s.length := by simp [ByteArray.size]
 have hsI : (s.length : Int) ≤ 1000000 := by omega
 have hw : IntKind.u64.wrap (s.length : Int) = (s.length : Int) := by rw [IntKind.wrap_u64]; omega
 have Hs := Lib.hid hs
 have Hl := Lib.hid hl
 clear hs hl
 go_enter Tryz.func132, Tryz.ntmps132
 go_wp2_with fail
 refine (num_any B g l s.length (by have := Hl.out; omega) (by have := Hs.out; omega) w h).mono ?_
 rintro e w1 ⟨rfl, h1, e1⟩
 go_wp2_with fail
 refine (raw_any B g _ ⟨s.toArray⟩ (by have := Hl.out; have := lebL_len s.length; simp; omega) (by rw [hsz]; exact Hs.out) w1 h1).mono ?_
 rintro e w2 ⟨rfl, h2, e2⟩
 go_wp2_with fail
 go_ret
 exact ⟨rfl, by simpa using h2, e1.trans e2⟩
end Go.Proofs.YtcgglolckkeeiaaGreat
namespace Go.Proofs.YtcgglolckkeeiaaGreat
set_option linter.unusedVariables false
open Go.RowKit Go.Deep
theorem rd_int_at {W : World} {A : Option Addr} {l : List Int} (hr : Rd W A (ints l)) {k : Nat} {x : Int} (hx : l[k]? = some x) : ∃ ad, A = some ad ∧ W.cell? (ad.add k) = some (.int .i64 x) :=
 rd_map_at (c := fun n : Int => Value.int .i64 n) hr hx
theorem put1_any (n : Int) (w : World) :
 Calls Tryz.prog 169 #[.int .i64 n] w fun e w' => e = .returned (.bool (farZ n)) ∧ Below w.heap.size w w' := by
 unfold farZ
 by_cases h0 : n < 0
 · go_enter Tryz.func169, Tryz.ntmps169
   go_wp2
   go_ret
   exact ⟨by first | (simp; omega) | (simp [h0]; done), Below.refl _ _⟩
 · go_enter Tryz.func169, Tryz.ntmps169
   go_wp2
   go_ret
   exact ⟨by first | (simp; omega) | (simp [h0]; done), Below.refl _ _⟩
set_option maxRecDepth 100000 in
set_option maxHeartbeats 4000000 in
theorem idxIn_any (A : Option Addr) (cap : Nat) (l : List Int) (p : Int → Bool) (w : World) (S : World → Prop) [stS : St S] (hS : S w) (hrd : ∀ W, S W → Rd W A (ints l)) (hlo : ∀ W, S W → Below w.heap.size w W)
 (hp : ∀ x ∈ l, ∀ W, S W → Calls Tryz.prog 169 #[.int .i64 x] W fun e W' => e = .returned (.bool (p x)) ∧ Below W.heap.size W W') (hl : l.length ≤ 1000000) :
 Calls Tryz.prog 191 #[.slice A l.length cap, .func (.func 169) #[] #[]] w fun e w' => e = .returned (.int .i64 (idxZ p l)) ∧ Below w.heap.size w w' := by
 have Hp := Lib.hid hp
 have Hrd := Lib.hid hrd
 have Hlo := Lib.hid hlo
 have hl' : (l.length : Int) ≤ 1000000 := by omega
 clear hp hrd hlo hl
 go_enter Tryz.func191, Tryz.ntmps191
 go_wp2
 go_loopw [8] (fun i wr => ∃ k : Nat, i = .int .i64 (k : Int) ∧ k ≤ l.length ∧ Hid (∀ y ∈ l.take k, p y = false) ∧ S wr) (fun i _ => l.length - (intOf i).toNat)
 case atStart => exact ⟨0, rfl, Nat.zero_le _, Lib.hid (fun x hx => by simp at hx), hS⟩
 case round =>
  clear hS
  obtain ⟨k, rfl, hk, Hall, hS⟩ := hrel
  by_cases hlt : k < l.length
  · obtain ⟨x, hx⟩ : ∃ x, l[k]? = some x := ⟨_, List.getElem?_eq_getElem hlt⟩
    obtain ⟨ad, had, hcx⟩ := rd_int_at (Hrd.out _ hS) hx
    have Hcx : Hid (wr.cell? (ad.add k) = some (.int .i64 x)) := hcx
    have Hx := Lib.hid hx
    have Hcall := Lib.hid (Hp.out x (List.mem_of_getElem? hx) wr hS)
    have hltI : (k : Int) < (l.length : Int) := by omega
    clear hx hlt hcx
    subst had
    (have hcc := Hcx.out); go_wp2_with fail; clear hcc
    refine Hcall.out.mono ?_
    rintro e w' ⟨rfl, b1⟩
    replace hS := stS.go hS b1
    clear b1 Hcall Hcx
    cases hs : p x
    · have Hn := Lib.hid (take_allB_step Hall.out Hx.out hs)
      clear hs Hx
      go_wp2_with fail
      go_roundw
      case rel => exact ⟨k + 1, by go_num, by omega, Hn, hS⟩
      case measure => simp [intOf]; omega
    · have Hn := Lib.hid (idxZ_yes Hall.out Hx.out hs)
      clear hs Hx
      go_wp2_with fail
      go_ret
      exact ⟨by rw [Hn.out]; rfl, Hlo.out _ hS⟩
  · obtain rfl : k = l.length := by omega
    have Hn := Lib.hid (idxZ_no (p := p) (l := l) (by have := Hall.out; rwa [List.take_length] at this))
    clear hlt hk
    go_wp2
    go_ret
    exact ⟨by rw [Hn.out]; rfl, Hlo.out _ hS⟩
set_option maxRecDepth 100000 in
set_option maxHeartbeats 4000000 in
theorem contIn_any (A : Option Addr) (cap : Nat) (l : List Int) (p : Int → Bool) (w : World) (S : World → Prop) [stS : St S] (hS : S w) (hrd : ∀ W, S W → Rd W A (ints l)) (hlo : ∀ W, S W → Below w.heap.size w W)
 (hp : ∀ x ∈ l, ∀ W, S W → Calls Tryz.prog 169 #[.int .i64 x] W fun e W' => e = .returned (.bool (p x)) ∧ Below W.heap.size W W') (hl : l.length ≤ 1000000) :
 Calls Tryz.prog 170 #[.slice A l.length cap, .func (.func 169) #[] #[]] w fun e w' => e = .returned (.bool (l.any p)) ∧ Below w.heap.size w w' := by
 have Hc := Lib.hid (idxIn_any A cap l p w S hS hrd hlo hp hl)
 clear hp hrd hlo hl hS
 go_enter Tryz.func170, Tryz.ntmps170
 go_wp2_with fail
 refine Hc.out.mono ?_
 rintro e w' ⟨rfl, b1⟩
 have Ha := Lib.hid (idxZ_any p l)
 clear Hc
 go_wp2_with fail
 go_ret
 exact ⟨ret_b Ha.out.symm, b1⟩
end Go.Proofs.YtcgglolckkeeiaaGreat
namespace Go.Proofs.YtcgglolckkeeiaaGreat
set_option linter.unusedVariables false
open Go.RowKit Go.Deep
theorem ret_se {a b : List UInt8} {c d : Int} (h1 : a = b) (h2 : c = d) : Ending.returned (.tuple #[.string ⟨a.toArray⟩, .int .i64 c]) = .returned (.tuple #[.string ⟨b.toArray⟩, .int .i64 d]) := by rw [h1, h2]
set_option maxRecDepth 100000 in
set_option maxHeartbeats 8000000 in
theorem dlPut_any (y : DlV) (w : World) (hy : DlOk w y) (hn : InI y.d.n) :
 Calls Tryz.prog 131 #[.agg y.cells] w fun e w' => e = .returned (.tuple #[.string ⟨(putDl y.d).1.toArray⟩, .int .i64 (putDl y.d).2]) ∧ Below w.heap.size w w' := by
 obtain ⟨A, cap, ⟨path, op, n⟩⟩ := y
 obtain ⟨ha, hla⟩ := hy
 simp only at ha hla hn
 unfold DlV.cells
 show Calls _ _ #[.agg #[.slice A path.length cap, .int .i64 op, .int .i64 n]] _ _
 have Ha := Lib.hid ha
 have Hn := Lib.hid hn
 have hlI : (path.length : Int) ≤ 1000000 := by omega
 obtain ⟨pd, hpd⟩ : ∃ pd, pd = putDl ⟨path, op, n⟩ := ⟨_, rfl⟩
 have HP := Lib.hid hpd
 show Calls _ _ _ _ (fun e w' => e = .returned (.tuple #[.string ⟨(putDl ⟨path, op, n⟩).1.toArray⟩, .int .i64 (putDl ⟨path, op, n⟩).2]) ∧ Below w.heap.size w w')
 rw [← hpd]
 have Hbad : Hid (¬ rightDl ⟨path, op, n⟩ = true → pd = ([], 17)) := Lib.hid (fun h => hpd.trans (if_neg h))
 have Hgood : Hid (rightDl ⟨path, op, n⟩ = true → pd = (encDl ⟨path, op, n⟩, 0)) := Lib.hid (fun h => hpd.trans (if_pos h))
 clear ha hn hpd HP hla
 go_enter Tryz.func131, Tryz.ntmps131
 go_wp2_with (refine at_box _ _ rfl ?_)
 refine Stop.to ?_
 refine wpList_box_gen rfl 42 _ rfl #[.slice A path.length cap, .int .i64 op, .int .i64 n] rfl ?_
 intro G Gw Gh Gr Gb
 have b1 := (Below.refl w.heap.size w).trans (Gb.mono Gh)
 obtain ⟨S, hSd⟩ : ∃ S, S = (fun W => Row W G 42 #[.slice A path.length cap, .int .i64 op, .int .i64 n] ∧ Rd W A (ints path) ∧ Below w.heap.size w W) := ⟨_, rfl⟩
 have stS : St S := by rw [hSd]; infer_instance
 have T0 : Hid (∀ W, S W → Row W G 42 #[.slice A path.length cap, .int .i64 op, .int .i64 n]) := by show ∀ W, _; rw [hSd]; exact fun W h => h.1
 have T1 : Hid (∀ W, S W → Rd W A (ints path)) := by show ∀ W, _; rw [hSd]; exact fun W h => h.2.1
 have T4 : Hid (∀ W, S W → Below w.heap.size w W) := by show ∀ W, _; rw [hSd]; exact fun W h => h.2.2
 have hS : S Gw := by rw [hSd]; exact ⟨Gr, Rd.go Ha.out b1, b1⟩
 have SMK : Hid (∀ W, Row W G 42 #[.slice A path.length cap, .int .i64 op, .int .i64 n] → Below w.heap.size w W → S W) := by show ∀ W, _; rw [hSd]; exact fun W h b => ⟨h, Rd.go Ha.out b, b⟩
 clear hSd Gb
 have lGw : G < Gw.heap.size := Gr.lt
 have c0 := Gr.cellv (i := 0) (v := .slice A path.length cap) rfl
 have c1 := Gr.cellv (i := 1) (v := .int .i64 op) rfl
 have c2 := Gr.cellv (i := 2) (v := .int .i64 n) rfl
 have HC := Lib.hid (contIn_any A cap path farZ Gw (fun W => S W ∧ Below Gw.heap.size Gw W) ⟨hS, Below.refl _ _⟩ (fun W h => T1.out W h.1) (fun W h => h.2) (fun x _ W _ => put1_any x W) (by omega))
 by_cases hl : path.length ≤ 30
 rotate_left
 · have hlI2 : ¬ (path.length : Int) ≤ 30 := by omega
   have HF := Hbad.out (fun h => hl (rightDl_iff.1 h).1)
   clear hl HC
   subst HF
   go_wp2_with fail
   try rw [Exit.noGoto_ret]
   go_ret2
   exact ⟨rfl, T4.out _ hS⟩
 have hlI2 : (path.length : Int) ≤ 30 := by omega
 by_cases hf : path.any farZ = true
 · have HF := Hbad.out (fun h => by
    simp only [rightDl, Bool.and_eq_true] at h
    rw [hf] at h; simp at h)
   rw [hf] at HC
   clear hf hl
   subst HF
   go_wp2_with fail
   refine HC.out.mono ?_
   rintro e w1 ⟨rfl, bb⟩
   go_wp2_with fail
   try rw [Exit.noGoto_ret]
   go_ret2
   exact ⟨rfl, (T4.out _ hS).trans (bb.mono (T4.out _ hS).size)⟩
 rw [Bool.not_eq_true] at hf
 rw [hf] at HC
 by_cases ho1 : op < 1
 · have HF := Hbad.out (fun h => by have := (rightDl_iff.1 h).2.2.1; simp only at this; omega)
   clear hf hl
   subst HF
   go_wp2_with fail
   refine HC.out.mono ?_
   rintro e w1 ⟨rfl, bb⟩
   have c1' := (Gr.below bb Gr.lt).cellv (i := 1) (v := .int .i64 op) rfl
   go_wp2_with fail
   try rw [Exit.noGoto_ret]
   go_ret2
   exact ⟨rfl, (T4.out _ hS).trans (bb.mono (T4.out _ hS).size)⟩
 by_cases ho2 : 7 < op
 · have HF := Hbad.out (fun h => by have := (rightDl_iff.1 h).2.2.2; simp only at this; omega)
   clear hf hl
   subst HF
   go_wp2_with fail
   refine HC.out.mono ?_
   rintro e w1 ⟨rfl, bb⟩
   have c1' := (Gr.below bb Gr.lt).cellv (i := 1) (v := .int .i64 op) rfl
   go_wp2_with fail
   try rw [Exit.noGoto_ret]
   go_ret2
   exact ⟨rfl, (T4.out _ hS).trans (bb.mono (T4.out _ hS).size)⟩
 have Hr : Hid (rightDl ⟨path, op, n⟩ = true) := Lib.hid (by unfold rightDl; rw [hf]; simp; omega)
 have HF := Hgood.out Hr.out
 clear hf
 subst HF
 go_wp2_with fail
 refine HC.out.mono ?_
 rintro e w1 ⟨rfl, bb⟩
 have hS1 := stS.go hS bb
 have r1 := T0.out _ hS1
 have c1' := r1.cellv (i := 1) (v := .int .i64 op) rfl
 have c0' := r1.cellv (i := 0) (v := .slice A path.length cap) rfl
 clear hS HC c0 c1 c2 Gr
 go_wp2_with fail
 have hwl : IntKind.u64.wrap (path.length : Int) = (path.length : Int) := by rw [IntKind.wrap_u64]; omega
 refine wp_region_held (S := S) (by kernel_rfl) ?_
 simp only [List.size_toArray, List.length_cons, List.length_nil, Nat.reduceAdd, Array.replicate_succ, Array.replicate_zero, List.push_toArray, List.nil_append, List.cons_append]
 show wpAnyH _ _ _ _ _ _ _ _ w1.drew
 have hS2 := St.drew hS1
 clear hS1 r1 c1' c0'
 have l1 : Gw.heap.size ≤ w1.drew.heap.size := bb.size
 have lG : G < Gw.heap.size := lGw
 clear bb lGw
 generalize w1.drew = w2 at hS2 l1 ⊢
 (refine takeH (i := 1) (v := .pointer (some ⟨G, 0, none⟩)) rfl (by kernel_rfl) (by kernel_rfl) (by kernel_rfl) (fun _ _ _ h => h) (yields_val rfl (fun W hW => by (go_simp))) (by assumption) ?_; simp only [Act.put, List.setIfInBounds_toArray, List.set_cons_zero, List.set_cons_succ])
 (refine takeH (i := 2) (v := .slice A path.length cap) rfl (by kernel_rfl) (by kernel_rfl) (by kernel_rfl) (fun _ _ _ h => h) (yields_val rfl (fun W hW => by ((have h := (T0.out W hW).cellv (i := 0) (v := .slice A path.length cap) rfl; go_simp)))) (by assumption) ?_; simp only [Act.put, List.setIfInBounds_toArray, List.set_cons_zero, List.set_cons_succ])
 (refine takeH (i := 3) (v := .int .i64 (path.length : Int)) rfl (by kernel_rfl) (by kernel_rfl) (by kernel_rfl) (fun _ _ _ h => h) (yields_val rfl (fun W hW => by (go_simp))) (by assumption) ?_; simp only [Act.put, List.setIfInBounds_toArray, List.set_cons_zero, List.set_cons_succ])
 (refine takeH (i := 4) (v := .int .u64 (path.length : Int)) rfl (by kernel_rfl) (by kernel_rfl) (by kernel_rfl) (fun _ _ _ h => h) (yields_val rfl (fun W hW => by (go_simp))) (by assumption) ?_; simp only [Act.put, List.setIfInBounds_toArray, List.set_cons_zero, List.set_cons_succ])
 (refine wpAnyH_all (rs := [0]) (by kernel_rfl) (by simp) (fun i hi => ?_); obtain rfl : i = 0 := by simpa using hi)
 refine wpOp_plain rfl rfl (fun K2 hK2 => ?_)
 refine wp_call_gen 87 #[] (w1 := w2) (by go_simp) ((wireNew_any w2).mono ?_)
 rintro e w3 ⟨rfl, h3, b3⟩
 refine ⟨_, rfl, ?_⟩
 refine hK2 _ _ ?_
 clear hK2 K2
 simp only [Act.put, List.setIfInBounds_toArray, List.set_cons_zero, List.set_cons_succ]
 have hS3 := stS.go hS2 b3
 obtain ⟨g, hg⟩ : ∃ g, g = w2.heap.size := ⟨_, rfl⟩
 have hB : G < g := by omega
 rw [← hg] at h3 ⊢
 clear hS2 b3 l1 hg
 refine ⟨hS3, ?_⟩
 (refine wpAnyH_all (rs := [5]) (by kernel_rfl) (by simp) (fun i hi => ?_); obtain rfl : i = 5 := by simpa using hi)
 refine wpOp_plain rfl rfl (fun K2 hK2 => ?_)
 refine wp_call_gen 88 #[.pointer (some ⟨g, 0, none⟩), .int .u64 (path.length : Int)] (w1 := w3) (by go_simp) ((num_any g g [] path.length (by simp) (by omega) w3 h3).mono ?_)
 rintro e w4 ⟨rfl, h4, e4⟩
 refine ⟨_, rfl, ?_⟩
 refine hK2 _ _ ?_
 clear hK2 K2
 simp only [Act.put, List.setIfInBounds_toArray, List.set_cons_zero, List.set_cons_succ]
 have hS4 : S w4 := SMK.out _ (e4.row (T0.out _ hS3) (by omega) (by decide)) ((T4.out _ hS3).trans ((e4.below (Nat.le_refl _) (by have := h3.lt; omega)).mono (by omega)))
 refine ⟨hS4, ?_⟩
 (refine takeH (i := 6) (v := .pointer (some ⟨g, 0, none⟩)) rfl (by kernel_rfl) (by kernel_rfl) (by kernel_rfl) (fun _ _ _ h => h) (yields_val rfl (fun W hW => by (rfl))) (by assumption) ?_; simp only [Act.put, List.setIfInBounds_toArray, List.set_cons_zero, List.set_cons_succ])
 refine wpAnyH_done (by kernel_rfl) ?_ _
 have r4 := T0.out _ hS4
 have c0' := r4.cellv (i := 0) (v := .slice A path.length cap) rfl
 simp only [List.nil_append] at h4
 clear h3 hS3 e4 r4
 have Hfar := Lib.hid (rightDl_iff.1 Hr.out).2.1
 have hop1 : (UInt8.ofNat op.toNat).toNat = op.toNat % 256 := by simp
 have hop : ((UInt8.ofNat op.toNat).toNat : Int) = op := by rw [hop1]; omega
 clear hop1
 have Hop := Lib.hid hop
 clear hop
 go_wp2_with fail
 go_loopw [37] (fun i wr => ∃ k : Nat, i = .int .i64 (k : Int) ∧ k ≤ path.length ∧ S wr ∧ Wr wr g g (lebL path.length ++ pathB (path.take k))) (fun i _ => path.length - (intOf i).toNat)
 case atStart => exact ⟨0, rfl, Nat.zero_le _, hS4, by simpa [pathB] using h4⟩
 case round =>
  clear hS4 h4 c0'
  obtain ⟨k, rfl, hk, hS, hw⟩ := hrel
  have hpb := pathB_len' (path.take k)
  have hll := lebL_len path.length
  rw [List.length_take] at hpb
  have Hlen : Hid ((lebL path.length ++ pathB (path.take k)).length ≤ 400) := Lib.hid (by rw [List.length_append]; omega)
  clear hpb hll
  by_cases hlt : k < path.length
  · obtain ⟨x, hx⟩ : ∃ x, path[k]? = some x := ⟨_, List.getElem?_eq_getElem hlt⟩
    obtain ⟨ad, had, hcx⟩ := rd_int_at (T1.out _ hS) hx
    have hxr := Hfar.out x (List.mem_of_getElem? hx)
    obtain ⟨xn, rfl⟩ := Int.eq_ofNat_of_zero_le hxr.1
    have hux : IntKind.u64.wrap (xn : Int) = (xn : Int) := by rw [IntKind.wrap_u64]; omega
    have hltI : (k : Int) < (path.length : Int) := by omega
    have Hx := Lib.hid hx
    clear hx hlt
    subst had
    go_wp2_with fail
    refine (num_any g g _ xn (by have := Hlen.out; omega) (by omega) wr hw).mono ?_
    rintro e w5 ⟨rfl, h5, e5⟩
    have hS5 : S w5 := SMK.out _ (e5.row (T0.out _ hS) (by omega) (by decide)) ((T4.out _ hS).trans ((e5.below (Nat.le_refl _) (by have := hw.lt; omega)).mono (by omega)))
    clear hS hw hcx e5
    go_wp2_with fail
    go_roundw
    case rel => exact ⟨k + 1, by go_num, by omega, hS5, by rw [take_snoc Hx.out, pathB_snoc, ← List.append_assoc, Int.toNat_natCast]; exact h5⟩
    case measure => simp [intOf]; omega
  · obtain rfl : k = path.length := by omega
    rw [List.take_length] at hw Hlen
    clear hlt hk
    go_wp2_with fail
    have hw8 : IntKind.u8.wrap op = ((UInt8.ofNat op.toNat).toNat : Int) := by rw [Hop.out, IntKind.wrap_u8]; omega
    refine wp_region_held (S := S) (by kernel_rfl) ?_
    simp only [List.size_toArray, List.length_cons, List.length_nil, Nat.reduceAdd, Array.replicate_succ, Array.replicate_zero, List.push_toArray, List.nil_append, List.cons_append]
    show wpAnyH _ _ _ _ _ _ _ _ wr.drew
    have hS2 := St.drew hS
    have hw2 : Wr wr.drew g g (lebL path.length ++ pathB path) := St.drew (S := fun W => Wr W g g (lebL path.length ++ pathB path)) hw
    clear hS hw
    generalize wr.drew = w2 at hS2 hw2 ⊢
    (refine takeH (i := 0) (v := .pointer (some ⟨g, 0, none⟩)) rfl (by kernel_rfl) (by kernel_rfl) (by kernel_rfl) (fun _ _ _ h => h) (yields_val rfl (fun W hW => by (rfl))) (by assumption) ?_; simp only [Act.put, List.setIfInBounds_toArray, List.set_cons_zero, List.set_cons_succ])
    (refine takeH (i := 1) (v := .pointer (some ⟨G, 1, none⟩)) rfl (by kernel_rfl) (by kernel_rfl) (by kernel_rfl) (fun _ _ _ h => h) (yields_val rfl (fun W hW => by (go_simp))) (by assumption) ?_; simp only [Act.put, List.setIfInBounds_toArray, List.set_cons_zero, List.set_cons_succ])
    (refine takeH (i := 2) (v := .int .i64 op) rfl (by kernel_rfl) (by kernel_rfl) (by kernel_rfl) (fun _ _ _ h => h) (yields_val rfl (fun W hW => by ((have h := (T0.out W hW).cellv (i := 1) (v := .int .i64 op) rfl; go_simp)))) (by assumption) ?_; simp only [Act.put, List.setIfInBounds_toArray, List.set_cons_zero, List.set_cons_succ])
    (refine takeH (i := 3) (v := .int .u8 ((UInt8.ofNat op.toNat).toNat : Int)) rfl (by kernel_rfl) (by kernel_rfl) (by kernel_rfl) (fun _ _ _ h => h) (yields_val rfl (fun W hW => by (go_simp))) (by assumption) ?_; simp only [Act.put, List.setIfInBounds_toArray, List.set_cons_zero, List.set_cons_succ])
    (refine takeH (i := 5) (v := .pointer (some ⟨G, 2, none⟩)) rfl (by kernel_rfl) (by kernel_rfl) (by kernel_rfl) (fun _ _ _ h => h) (yields_val rfl (fun W hW => by (go_simp))) (by assumption) ?_; simp only [Act.put, List.setIfInBounds_toArray, List.set_cons_zero, List.set_cons_succ])
    (refine takeH (i := 6) (v := .int .i64 n) rfl (by kernel_rfl) (by kernel_rfl) (by kernel_rfl) (fun _ _ _ h => h) (yields_val rfl (fun W hW => by ((have h := (T0.out W hW).cellv (i := 2) (v := .int .i64 n) rfl; go_simp)))) (by assumption) ?_; simp only [Act.put, List.setIfInBounds_toArray, List.set_cons_zero, List.set_cons_succ])
    (refine wpAnyH_all (rs := [4]) (by kernel_rfl) (by simp) (fun i hi => ?_); obtain rfl : i = 4 := by simpa using hi)
    refine wpOp_plain rfl rfl (fun K2 hK2 => ?_)
    refine wp_call_gen 133 #[.pointer (some ⟨g, 0, none⟩), .int .u8 ((UInt8.ofNat op.toNat).toNat : Int)] (w1 := w2) (by go_simp) ((wrByte_any g g _ (UInt8.ofNat op.toNat) (by have := Hlen.out; omega) w2 hw2).mono ?_)
    rintro e w3 ⟨rfl, h3, e3⟩
    refine ⟨_, rfl, ?_⟩
    refine hK2 _ _ ?_
    clear hK2 K2
    simp only [Act.put, List.setIfInBounds_toArray, List.set_cons_zero, List.set_cons_succ]
    have hS3 : S w3 := SMK.out _ (e3.row (T0.out _ hS2) (by omega) (by decide)) ((T4.out _ hS2).trans ((e3.below (Nat.le_refl _) (by have := hw2.lt; omega)).mono (by omega)))
    clear hS2 hw2 e3
    refine ⟨hS3, ?_⟩
    (refine wpAnyH_all (rs := [7]) (by kernel_rfl) (by simp) (fun i hi => ?_); obtain rfl : i = 7 := by simpa using hi)
    refine wpOp_plain rfl rfl (fun K2 hK2 => ?_)
    refine wp_call_gen 134 #[.pointer (some ⟨g, 0, none⟩), .int .i64 n] (w1 := w3) (by go_simp) ((int_any g g _ n (by have := Hlen.out; simp only [List.length_append, List.length_cons, List.length_nil] at this ⊢; omega) Hn.out w3 h3).mono ?_)
    rintro e w4 ⟨rfl, h4, e4⟩
    refine ⟨_, rfl, ?_⟩
    refine hK2 _ _ ?_
    clear hK2 K2
    simp only [Act.put, List.setIfInBounds_toArray, List.set_cons_zero, List.set_cons_succ]
    have hS4 : S w4 := SMK.out _ (e4.row (T0.out _ hS3) (by omega) (by decide)) ((T4.out _ hS3).trans ((e4.below (Nat.le_refl _) (by have := h3.lt; omega)).mono (by omega)))
    clear hS3 h3 e4
    refine ⟨hS4, ?_⟩
    obtain ⟨R, hR⟩ : ∃ R, R = lebL path.length ++ pathB path ++ [UInt8.ofNat op.toNat] ++ zz n := ⟨_, rfl⟩
    rw [← hR] at h4
    have HR := Lib.hid hR
    clear hR
    (refine wpAnyH_all (rs := [8]) (by kernel_rfl) (by simp) (fun i hi => ?_); obtain rfl : i = 8 := by simpa using hi)
    refine wpOp_plain rfl rfl (fun K2 hK2 => ?_)
    refine wp_call_gen 90 #[.pointer (some ⟨g, 0, none⟩)] (w1 := w4) (by go_simp) ((wrBytes_any g g _ w4 h4).mono ?_)
    rintro e w5 ⟨rfl, rfl⟩
    refine ⟨_, rfl, ?_⟩
    refine hK2 _ _ ?_
    clear hK2 K2
    simp only [Act.put, List.setIfInBounds_toArray, List.set_cons_zero, List.set_cons_succ]
    refine ⟨hS4, ?_⟩
    (refine takeH (i := 9) (v := .string ⟨R.toArray⟩) rfl (by kernel_rfl) (by kernel_rfl) (by kernel_rfl) (fun _ _ _ h => h) (yields_val rfl (fun W hW => by (rfl))) (by assumption) ?_; simp only [Act.put, List.setIfInBounds_toArray, List.set_cons_zero, List.set_cons_succ])
    (refine takeH (i := 10) (v := .int .i64 0) rfl (by kernel_rfl) (by kernel_rfl) (by kernel_rfl) (fun _ _ _ h => h) (yields_val rfl (fun W hW => by (rfl))) (by assumption) ?_; simp only [Act.put, List.setIfInBounds_toArray, List.set_cons_zero, List.set_cons_succ])
    refine wpAnyH_done (by kernel_rfl) ?_ _
    go_wp2_with fail
    try rw [Exit.noGoto_ret]
    go_ret2
    exact ⟨ret_se HR.out rfl, T4.out _ hS4⟩
end Go.Proofs.YtcgglolckkeeiaaGreat
