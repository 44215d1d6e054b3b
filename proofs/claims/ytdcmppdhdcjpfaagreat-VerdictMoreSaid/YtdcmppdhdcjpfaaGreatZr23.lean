/- Lemmas for VerdictMoreP. -/
import Derived.Test.YtdcmppdhdcjpfaaGreatZr7
import Derived.Test.YtdcmppdhdcjpfaaGreatZr2
import Derived.Test.YtdcmppdhdcjpfaaGreatZr1
import Derived.Test.YtdcmppdhdcjpfaaGreatZr3
set_option linter.unusedVariables false
set_option linter.unusedSimpArgs false
set_option maxRecDepth 100000
set_option maxHeartbeats 16000000
namespace Go.Proofs.YtdcmppdhdcjpfaaGreat
open Go.RowKit
structure Rn where
 kind : Int
 value : Int
 dig : List UInt8
def Q8 (b r : Rn) : Int := if b.kind = 4 then 0 else if r.kind = 4 then 2 else if r.kind = b.kind ∧ r.value = b.value then 0 else 1
theorem UI (b r : Rn) : Q8 b r = 0 ∨ Q8 b r = 1 ∨ Q8 b r = 2 := by
 unfold Q8
 split
 · exact .inl rfl
 · split
   · exact .inr (.inr rfl)
   · split
     · exact .inl rfl
     · exact .inr (.inl rfl)
def Zk (vs : List Int) : Int × Int := if 1 ∈ vs then (1, (vs.idxOf 1 : Int)) else if 2 ∈ vs then (2, (vs.idxOf 2 : Int)) else (0, -1)
theorem E6 {l r : List Int} {v : Int} (h : v ∉ l) : (l ++ v :: r).idxOf v = l.length := by
 rw [List.idxOf_append, if_neg h]; simp
theorem YE {l r : List Int} {v : Int} (h : v ∈ l) : (l ++ r).idxOf v = l.idxOf v := by rw [List.idxOf_append, if_pos h]
theorem AfH {l : List Int} (r : List Int) (h : (1 : Int) ∉ l) : Zk (l ++ 1 :: r) = (1, (l.length : Int)) := by
 unfold Zk
 rw [if_pos (by simp), E6 h]
theorem EO {l : List Int} (r : List Int) (h : (1 : Int) ∈ l) : Zk (l ++ r) = Zk l := by
 unfold Zk
 rw [if_pos (by simp [h]), if_pos h, YE h]
theorem AfI {l : List Int} (h : (1 : Int) ∉ l) (h2 : (2 : Int) ∉ l) : Zk (l ++ [2]) = (2, (l.length : Int)) := by
 unfold Zk
 rw [if_neg (by simp [h]), if_pos (by simp), E6 h2]
theorem Aea {l : List Int} {v : Int} (h : (1 : Int) ∉ l) (h2 : (2 : Int) ∈ l) (hv : ¬ v = 1) : Zk (l ++ [v]) = Zk l := by
 unfold Zk
 rw [if_neg (by simp [h]; omega), if_pos (by simp [h2]), if_neg h, if_pos h2, YE h2]
theorem AfG {l : List Int} {v : Int} (h1 : ¬ v = 1) (h2 : ¬ v = 2) : Zk (l ++ [v]) = Zk l := by
 unfold Zk
 by_cases a : (1 : Int) ∈ l
 · rw [if_pos (by simp [a]), if_pos a, YE a]
 · rw [if_neg (by simp [a]; omega), if_neg a]
   by_cases b : (2 : Int) ∈ l
   · rw [if_pos (by simp [b]), if_pos b, YE b]
   · rw [if_neg (by simp [b]; omega), if_neg b]
theorem Aha {l : List Int} : (Zk l).1 = 1 ↔ (1 : Int) ∈ l := by
 unfold Zk
 by_cases a : (1 : Int) ∈ l
 · rw [if_pos a]; simp [a]
 · rw [if_neg a]; split <;> simp [a]
theorem best_v0 {l : List Int} : (Zk l).1 = 0 ↔ (1 : Int) ∉ l ∧ (2 : Int) ∉ l := by
 unfold Zk
 by_cases a : (1 : Int) ∈ l
 · rw [if_pos a]; simp [a]
 · rw [if_neg a]
   by_cases b : (2 : Int) ∈ l
   · rw [if_pos b]; simp [b]
   · rw [if_neg b]; simp [a, b]
theorem Ac5 (l : List Int) : (Zk l).1 = 0 ∨ (Zk l).1 = 1 ∨ (Zk l).1 = 2 := by
 unfold Zk; split
 · exact .inr (.inl rfl)
 · split
   · exact .inr (.inr rfl)
   · exact .inl rfl
theorem Aax {l : List Int} (h : (Zk l).1 ≠ 0) : ∃ i, (Zk l).2 = (i : Nat) ∧ i < l.length ∧ l[i]? = some (Zk l).1 ∧ ∀ j, j < i → ¬ l[j]? = some (Zk l).1 := by
 have key : ∀ v : Int, v ∈ l → l.idxOf v < l.length ∧ l[l.idxOf v]? = some v ∧ ∀ j, j < l.idxOf v → ¬ l[j]? = some v := by
  intro v hv
  have h1 := List.idxOf_lt_length_iff.2 hv
  refine ⟨h1, by rw [List.getElem?_eq_getElem h1, List.getElem_idxOf h1], fun j hj e => ?_⟩
  obtain ⟨hl, e⟩ := List.getElem?_eq_some_iff.1 e
  have h2 := List.not_of_lt_findIdx (p := (· == v)) (xs := l) (i := j) hj
  simp [e] at h2
 by_cases a : (1 : Int) ∈ l
 · have e : Zk l = (1, (l.idxOf 1 : Int)) := by unfold Zk; rw [if_pos a]
   rw [e]
   exact ⟨_, rfl, key 1 a⟩
 · by_cases b : (2 : Int) ∈ l
   · have e : Zk l = (2, (l.idxOf 2 : Int)) := by unfold Zk; rw [if_neg a, if_pos b]
     rw [e]
     exact ⟨_, rfl, key 2 b⟩
   · exact absurd (best_v0.2 ⟨a, b⟩) h
def Ex (d : Dl) (rs : List Rn) (b : Int × Int) : Mt := if b.1 = 0 then ⟨d, 0, -1, 0, 0, []⟩ else ⟨d, b.1, b.2, (rs.getD b.2.toNat ⟨0, 0, []⟩).kind, (rs.getD b.2.toNat ⟨0, 0, []⟩).value, (rs.getD b.2.toNat ⟨0, 0, []⟩).dig⟩
section
variable {α : Type} (f g : α → Rn)
def QP (ts : List α) : List Int := ts.map fun a => Q8 (f a) (g a)
def QR (d : Dl) (ts : List α) : Mt := Ex d (ts.map g) (Zk (QP f g ts))
variable {f g}
theorem Aep {d : Dl} {ts : List α} : (QR f g d ts).d = d := by unfold QR Ex; split <;> rfl
theorem X7 {d : Dl} {ts : List α} : (QR f g d ts).verdict = (Zk (QP f g ts)).1 := by
 unfold QR Ex
 split
 · rename_i h; exact h.symm
 · rfl
theorem YG {d : Dl} {ts : List α} (h : (Zk (QP f g ts)).1 = 0) : QR f g d ts = ⟨d, 0, -1, 0, 0, []⟩ := by
 unfold QR Ex; rw [if_pos h]
theorem Af7 {d : Dl} {ts : List α} (h : (QR f g d ts).verdict ≠ 0) : ∃ i a, ts[i]? = some a ∧ QR f g d ts = ⟨d, Q8 (f a) (g a), (i : Nat), (g a).kind, (g a).value, (g a).dig⟩ ∧ (Q8 (f a) (g a) = 1 ∨ Q8 (f a) (g a) = 2) ∧ ∀ j b, j < i → ts[j]? = some b → Q8 (f b) (g b) ≠ Q8 (f a) (g a) := by
 rw [X7] at h
 obtain ⟨i, h1, h2, h3, h4⟩ := Aax h
 have hi : i < ts.length := by simpa [QP] using h2
 have ea : ts[i]? = some ts[i] := List.getElem?_eq_getElem hi
 have ev : (Zk (QP f g ts)).1 = Q8 (f ts[i]) (g ts[i]) := by
  have := h3
  unfold QP at this
  rw [List.getElem?_map, ea] at this
  exact (Option.some.inj this).symm
 refine ⟨i, ts[i], ea, ?_, ?_, fun j b hj hb e => h4 j hj ?_⟩
 · unfold QR Ex
   rw [if_neg h, h1, ev]
   have er : (ts.map g).getD i ⟨0, 0, []⟩ = g ts[i] := by rw [List.getD_eq_getElem?_getD, List.getElem?_map, ea]; rfl
   rw [show ((i : Nat) : Int).toNat = i by omega, er]
 · rw [← ev]
   rcases Ac5 (QP f g ts) with e | e | e
   · exact absurd e h
   · exact .inl e
   · exact .inr e
 · unfold QP
   rw [List.getElem?_map, hb]
   show some (Q8 (f b) (g b)) = some _
   rw [e, ← ev]; rfl
theorem AbT {ts : List α} {x : α} {i : Nat} (h : i < ts.length) : ((ts ++ [x]).map g).getD i ⟨0, 0, []⟩ = (ts.map g).getD i ⟨0, 0, []⟩ := by
 rw [List.getD_eq_getElem?_getD, List.getD_eq_getElem?_getD, List.getElem?_map, List.getElem?_map, List.getElem?_append_left h]
theorem Adr {d : Dl} {ts : List α} (x : α) : ((QR f g d ts).verdict = 1 → QR f g d (ts ++ [x]) = QR f g d ts) ∧
 ((QR f g d (ts ++ [x]) = QR f g d ts) ∨ ((QR f g d (ts ++ [x])).verdict = 1 ∧ (QR f g d (ts ++ [x])).test = ts.length) ∨ ((QR f g d ts).verdict = 0 ∧ (QR f g d (ts ++ [x])).verdict = 2 ∧ (QR f g d (ts ++ [x])).test = ts.length)) := by
 have hv : QP f g (ts ++ [x]) = QP f g ts ++ [Q8 (f x) (g x)] := by unfold QP; simp
 have hl : (QP f g ts).length = ts.length := by unfold QP; simp
 have same : Zk (QP f g (ts ++ [x])) = Zk (QP f g ts) → QR f g d (ts ++ [x]) = QR f g d ts := by
  intro e
  unfold QR Ex
  rw [e]
  by_cases h0 : (Zk (QP f g ts)).1 = 0
  · rw [if_pos h0, if_pos h0]
  · rw [if_neg h0, if_neg h0]
    obtain ⟨i, h1, h2, _⟩ := Aax h0
    rw [h1, show ((i : Nat) : Int).toNat = i by omega, AbT (by omega)]
 have told : ∀ v : Int, v = 1 ∨ v = 2 → Zk (QP f g (ts ++ [x])) = (v, (ts.length : Int)) → (QR f g d (ts ++ [x])).verdict = v ∧ (QR f g d (ts ++ [x])).test = ts.length := by
  intro v h e
  unfold QR Ex
  rw [e, if_neg (by simp only; omega)]
  exact ⟨rfl, rfl⟩
 constructor
 · intro h
   rw [X7, Aha] at h
   exact same (by rw [hv, EO _ h])
 · by_cases h1 : (1 : Int) ∈ QP f g ts
   · exact .inl (same (by rw [hv, EO _ h1]))
   · rcases UI (f x) (g x) with e | e | e
     · exact .inl (same (by rw [hv, e, AfG (by decide) (by decide)]))
     · exact .inr (.inl (told 1 (.inl rfl) (by rw [hv, e, AfH _ h1, hl])))
     · by_cases h2 : (2 : Int) ∈ QP f g ts
       · exact .inl (same (by rw [hv, e, Aea h1 h2 (by decide)]))
       · refine .inr (.inr ⟨?_, told 2 (.inr rfl) (by rw [hv, e, AfI h1 h2, hl])⟩)
         rw [X7, best_v0]; exact ⟨h1, h2⟩
end
end Go.Proofs.YtdcmppdhdcjpfaaGreat
namespace Go.Proofs.YtdcmppdhdcjpfaaGreat
open Go.RowKit Go.Deep
def RunV.cells (r : RunV) : Array Value := #[.int .i64 r.kind, .int .i64 r.value, .int .i64 r.steps, .slice r.addr r.evs.length r.cap]
def fnV (f : Nat) : Value := .func (.func f) #[] #[]
def KH : List (Int × Value) := [(7, fnV 194), (8, fnV 195), (9, fnV 196), (12, fnV 197), (13, fnV 199), (14, fnV 200),
 (15, fnV 201), (16, fnV 202), (17, fnV 203), (10, fnV 204), (11, fnV 205)]
structure Lay where
 p : PgV
 M : Nat
 ka : Option Addr
 kcap : Nat
 vv : Value
 aa : Option Addr
 acap : Nat
 ab : List Nat
 PB : Nat
 F : Nat
 b0 : Nat
 b1 : Nat
 Im : World → Prop
structure FrV where
 f : Fr
 v : Value
def FrV.cells (x : FrV) : List Value := [.int .i64 (x.f.at_ : Int), .int .i64 (x.f.kid : Int), x.v]
def Lay.cells (L : Lay) (s : Ms) (sv ev : Value) : Array Value :=
 #[.int .i64 L.p.params, .slice L.p.va L.p.V.length L.p.vcap, .slice L.p.ba L.p.body.length L.p.bcap, .slice L.ka L.p.body.length L.kcap, L.vv, .slice L.aa L.ab.length L.acap, .int .i64 (L.F : Int), sv,
  .int .i64 (s.out.getD (0, 0)).1, .int .i64 (s.out.getD (0, 0)).2, .int .i64 (s.steps : Int), ev, .bool s.out.isSome, .map (some L.PB)]
structure Chg (L : Lay) (W W' : World) : Prop where
 os : W'.os = W.os
 tape : W'.tape = W.tape
 output : W'.output = W.output
 size : W.heap.size ≤ W'.heap.size
 block : ∀ k, k < L.b1 → k ≠ L.M → L.vv.ownBlock ≠ some k → k ∉ L.ab → W'.heap[k]? = W.heap[k]?
theorem Chg.refl (L : Lay) (W : World) : Chg L W W := ⟨rfl, rfl, rfl, Nat.le_refl _, fun _ _ _ _ _ => rfl⟩
theorem Chg.trans {L : Lay} {A B C : World} (h : Chg L A B) (k : Chg L B C) : Chg L A C :=
 ⟨k.os.trans h.os, k.tape.trans h.tape, k.output.trans h.output, Nat.le_trans h.size k.size, fun i h1 h2 h3 h4 => (k.block i h1 h2 h3 h4).trans (h.block i h1 h2 h3 h4)⟩
theorem Chg.only {L : Lay} {A B : World} {g : Nat} (o : Only g A B) (h : L.b1 ≤ g ∨ g = L.M ∨ L.vv.ownBlock = some g ∨ g ∈ L.ab) : Chg L A B :=
 ⟨o.os, o.tape, o.output, Nat.le_of_eq o.size.symm, fun k h1 h2 h3 h4 => o.block k (fun e => by subst e; rcases h with h | h | h | h; omega; exact h2 h; exact h3 h; exact h4 h)⟩
theorem Chg.below {L : Lay} {A B : World} (b : Below L.b1 A B) : Chg L A B := ⟨b.os, b.tape, b.output, b.size, fun k h1 _ _ _ => b.block k h1⟩
theorem Chg.grown {L : Lay} {A B : World} {g : Option Nat} (h : A.grownBy B g) (hs : L.b1 ≤ A.heap.size) (hg : ∀ k, g = some k → L.b1 ≤ k) : Chg L A B :=
 ⟨h.os, h.tape, h.output, h.size, fun k h1 _ _ _ => h.block k (by omega) (fun e => by have := hg k e.symm; omega)⟩
structure MC (L : Lay) (s : Ms) (fs : List FrV) (ev : Value) (W : World) : Prop where
 evs : W.ownsRow L.b1 189 3 ev s.evs.length (s.evs.flatMap EvV.cells)
 vals : W.ownsRow L.b0 3 1 L.vv s.vals.length (Qi s.vals)
 arrs : ∀ (i g : Nat) (a : List Int), L.ab[i]? = some g → s.arrs[i]? = some a → Row W g 3 (Qi a).toArray
 fr : ∀ x ∈ fs, W.ownsRow L.b1 3 1 x.v x.f.vals.length (Qi x.f.vals)
 dist : fs.Pairwise fun x y => x.v.ownBlock = none ∨ x.v.ownBlock ≠ y.v.ownBlock
 im : L.Im W
 size : L.b1 ≤ W.heap.size
 sum : s.steps + s.fuel = L.F
 few : s.evs.length + fs.length ≤ s.steps
structure MR (L : Lay) (s : Ms) (fs : List FrV) (sv ev : Value) (W : World) : Prop where
 row : Row W L.M 125 (L.cells s sv ev)
 stack : W.ownsRow L.b1 128 3 sv fs.length (fs.reverse.flatMap FrV.cells)
 core : MC L s fs ev W
structure LOk0 (L : Lay) : Prop where
 im : ∀ W W', L.Im W → Chg L W W' → L.Im W'
 lt : L.M < L.b1
 vlt : ∀ g, L.vv.ownBlock = some g → g < L.b1 ∧ g ≠ L.M ∧ g ∉ L.ab
 alt : ∀ g ∈ L.ab, g < L.b1 ∧ g ≠ L.M
 and : L.ab.Nodup
 F : L.F ≤ 20000
 blen : L.p.body.length ≤ 1000
 b0 : L.b0 ≤ L.M
 bb : L.b0 ≤ L.b1
structure LOk (L : Lay) : Prop extends LOk0 L where
 kids : ∀ W, L.Im W → ∀ (q : Nat) (t : Tr), At L.p.body q t → ∃ ad A cap, L.ka = some ad ∧ W.cell? (ad.add q) = some (.slice A t.kids.length cap) ∧ Rd W A (Qi (JC (Ze (q + 1) t.kids)))
 pok : ∀ W, L.Im W → L.p.ok W
 arrs : ∀ W, L.Im W → ∀ (i g : Nat), L.ab[i]? = some g → ∃ (ad : Addr) (t : Int), L.aa = some ad ∧ L.p.V[i]? = some t ∧ W.cell? (ad.add i) = some (.slice (some ⟨g, 0, none⟩) (QU t).toNat (QU t).toNat)
 alen : L.ab.length = L.p.V.length
 pairs : ∀ W, L.Im W → MapB W L.PB KH
instance {L : Lay} : Coe (LOk L) (LOk0 L) := ⟨LOk.toLOk0⟩
def MRx (L : Lay) (m : Mm) (W : World) : Prop := ∃ fs sv ev, fs.map FrV.f = m.stack ∧ MR L m.s fs sv ev W
theorem Only.trans {A B C : World} {g : Nat} (h : Only g A B) (k : Only g B C) : Only g A C := ⟨k.os.trans h.os, k.tape.trans h.tape, k.output.trans h.output, k.size.trans h.size, fun i hi => (k.block i hi).trans (h.block i hi)⟩
theorem Q5 {w w' : World} {base size n : Nat} {e : TypeId} {v : Value} {xs : List Value} {row : Option Nat} (h : w.ownsRow base e size v n xs) (hg : w.grownBy w' row) (hne : row = none ∨ v.ownBlock ≠ row) : w'.ownsRow base e size v n xs := by
 refine h.kept hg ?_
 rcases hne with rfl | h
 · cases v.ownBlock <;> simp
 · exact .inr h
theorem Za {w : World} {b b' s s' n n' : Nat} {e e' : TypeId} {v v' : Value} {xs xs' : List Value} (h : w.ownsRow b e s v n xs) (h' : w.ownsRow b' e' s' v' n' xs') (hne : e ≠ e') : v'.ownBlock = none ∨ v.ownBlock ≠ v'.ownBlock := by
 rcases h'.2 with ⟨rfl, _⟩ | ⟨g, cap, cur, rfl, _, hh, _⟩
 · exact .inl rfl
 · have hr : Row w g e' cur := hh
   right
   intro e2
   exact Qz h hr hne (by rw [e2]; rfl)
section
variable {L : Lay} {s : Ms} {fs : List FrV} {sv ev : Value} {W W' : World}
theorem MC.only (h : MC L s fs ev W) (hL : LOk0 L) (o : Only L.M W W') : MC L s fs ev W' := by
 have lo : ∀ {e : TypeId} {size n : Nat} {v : Value} {xs : List Value}, W.ownsRow L.b1 e size v n xs → W'.ownsRow L.b1 e size v n xs := fun h => QA h o (fun e => by have := QN h e; have := hL.lt; omega)
 exact ⟨lo h.evs, QA h.vals o (fun e => (hL.vlt _ e).2.1 rfl), fun i g a hi ha => (h.arrs i g a hi ha).only o (hL.alt g (List.mem_of_getElem? hi)).2, fun x hx => lo (h.fr x hx), h.dist,
  hL.im _ _ h.im (.only o (.inr (.inl rfl))), by rw [o.size]; exact h.size, h.sum, h.few⟩
theorem MC.below (h : MC L s fs ev W) (hL : LOk0 L) (b : Below W.heap.size W W') : MC L s fs ev W' :=
 ⟨Qs h.evs b, Qs h.vals b, fun i g a hi ha => (h.arrs i g a hi ha).below b (h.arrs i g a hi ha).lt, fun x hx => Qs (h.fr x hx) b, h.dist, hL.im _ _ h.im (.below (b.mono h.size)), Nat.le_trans h.size b.size, h.sum, h.few⟩
theorem MR.below (h : MR L s fs sv ev W) (hL : LOk L) (b : Below W.heap.size W W') : MR L s fs sv ev W' :=
 ⟨h.row.below b h.row.lt, Qs h.stack b, h.core.below hL b⟩
theorem MR.drew (h : MR L s fs sv ev W) (hL : LOk L) (n : Nat) : MR L s fs sv ev (W.drewN n) := h.below hL ⟨rfl, rfl, rfl, Nat.le_refl _, fun _ _ => rfl⟩
theorem MC.grownStack {n : Nat} {xs : List Value} (h : MC L s fs ev W) (hL : LOk0 L) (hs : W.ownsRow L.b1 128 3 sv n xs) (hg : W.grownBy W' sv.ownBlock) : MC L s fs ev W' :=
 ⟨Q5 h.evs hg (Za h.evs hs (by decide)), Q5 h.vals hg (Za h.vals hs (by decide)), fun i g a hi ha => (h.arrs i g a hi ha).grown hg (Qz hs (h.arrs i g a hi ha) (by decide)),
  fun x hx => Q5 (h.fr x hx) hg (Za (h.fr x hx) hs (by decide)), h.dist, hL.im _ _ h.im (.grown hg h.size (fun k e => QN hs e)), Nat.le_trans h.size hg.size, h.sum, h.few⟩
theorem MC.grownEvs (h : MC L s fs ev W) (hL : LOk0 L) (hg : W.grownBy W' ev.ownBlock) {s' : Ms} {ev' : Value} (he : W'.ownsRow L.b1 189 3 ev' s'.evs.length (s'.evs.flatMap EvV.cells)) (h1 : s'.vals = s.vals) (h2 : s'.arrs = s.arrs) (h3 : s'.steps = s.steps) (h4 : s'.fuel = s.fuel) (h5 : s'.evs.length + fs.length ≤ s'.steps) : MC L s' fs ev' W' :=
 ⟨he, by rw [h1]; exact Q5 h.vals hg (Za h.vals h.evs (by decide)), fun i g a hi ha => by rw [h2] at ha; exact (h.arrs i g a hi ha).grown hg (Qz h.evs (h.arrs i g a hi ha) (by decide)),
  fun x hx => Q5 (h.fr x hx) hg (Za (h.fr x hx) h.evs (by decide)), h.dist, hL.im _ _ h.im (.grown hg h.size (fun k e => QN h.evs e)), Nat.le_trans h.size hg.size, by rw [h3, h4]; exact h.sum, h5⟩
theorem MC.state {s' : Ms} (h : MC L s fs ev W) (h1 : s'.vals = s.vals) (h2 : s'.arrs = s.arrs) (h3 : s'.evs = s.evs) (h4 : s'.steps + s'.fuel = L.F) (h5 : s.steps ≤ s'.steps) : MC L s' fs ev W :=
 ⟨by rw [h3]; exact h.evs, by rw [h1]; exact h.vals, by rw [h2]; exact h.arrs, h.fr, h.dist, h.im, h.size, h4, by rw [h3]; have := h.few; omega⟩
end
theorem MR.setM {L : Lay} {s s' : Ms} {fs : List FrV} {sv ev : Value} {W W' : World} (h : MR L s fs sv ev W) (hL : LOk L) (o : Only L.M W W') (hr : Row W' L.M 125 (L.cells s' sv ev))
 (h1 : s'.vals = s.vals) (h2 : s'.arrs = s.arrs) (h3 : s'.evs = s.evs) (h4 : s'.steps + s'.fuel = L.F) (h5 : s.steps ≤ s'.steps) : MR L s' fs sv ev W' :=
 ⟨hr, QA h.stack o (fun e => by have := QN h.stack e; have := hL.lt; omega), (h.core.only hL o).state h1 h2 h3 h4 h5⟩
theorem VB (L : Lay) (hL : LOk L) (m : Mm) (k v : Int) (W : World) (h : MRx L m W) : Calls Tryz.prog 59 #[.pointer (some ⟨L.M, 0, none⟩), .int .i64 k, .int .i64 v] W fun e W' => (∃ u, e = .returned u) ∧ MRx L ⟨m.s.stop k v, m.stack⟩ W' ∧ Only L.M W W' := by
 obtain ⟨fs, sv, ev, hfs, hm⟩ := h
 have Hm := Lh hm
 have rM := hm.row
 have hsz : (L.cells m.s sv ev).size = 14 := rfl
 clear hm
 go_enter Tryz.func59, Tryz.ntmps59
 go_wp2_with (refine QD _ _ _ rfl ?_)
 refine Stop.to ?_
 refine QJ rfl 37 _ _ rfl L.M 8 rfl _ rfl [.int .i64 k, .int .i64 v] rfl 125 _ _ rM (by kernel_rfl) (by show 8 + 2 ≤ 14; omega) (by simp [Value.oneCell']) rfl ?_
 intro W1 r1 o1
 go_wp2_with (refine QD _ _ _ rfl ?_)
 refine Stop.to ?_
 refine QJ rfl 4 _ _ rfl L.M 12 rfl _ rfl [.bool true] rfl 125 _ (L.cells (m.s.stop k v) sv ev) r1 (by kernel_rfl) (by show 12 + 1 ≤ 14; omega) (by simp [Value.oneCell']) rfl ?_
 intro W2 r2 o2
 have o12 : Only L.M W W2 := o1.trans o2
 clear rM r1 o1 o2 hsz
 go_wp2
 go_end0
 exact ⟨⟨_, rfl⟩, ⟨fs, sv, ev, hfs, Hm.out.setM hL o12 r2 rfl rfl rfl Hm.out.core.sum (Nat.le_refl _)⟩, o12⟩
theorem Xd (L : Lay) (hL : LOk L) (m : Mm) (k v : Int) (W : World) (h : MRx L m W) : Calls Tryz.prog 59 #[.pointer (some ⟨L.M, 0, none⟩), .int .i64 k, .int .i64 v] W fun e W' => (∃ u, e = .returned u) ∧ MRx L ⟨m.s.stop k v, m.stack⟩ W' ∧ Chg L W W' :=
 (VB L hL m k v W h).mono fun _ _ h => ⟨h.1, h.2.1, .only h.2.2 (.inr (.inl rfl))⟩
theorem Adp : (Tryz.prog.info? 128).map (fun i => (i.zero, i.size, i.bytes)) = some (some (.agg #[.int .i64 0, .int .i64 0, .slice none 0 0]), 3, 40) := by kernel_rfl
theorem KR (fs : List FrV) : (fs.flatMap FrV.cells).length = fs.length * 3 := by
 induction fs with
 | nil => rfl
 | cons x fs ih => simp only [List.flatMap_cons, List.length_append, List.length_cons, ih]; simp [FrV.cells]; omega
theorem Jl {w : World} {base n size : Nat} {e : TypeId} {v : Value} {xs : List Value} (h : w.ownsRow base e size v n xs) : v.oneCell' = true := by
 rcases h.2 with ⟨rfl, _⟩ | ⟨g, cap, cur, rfl, _⟩ <;> rfl
theorem MC.push {L : Lay} {s : Ms} {fs : List FrV} {ev : Value} {W : World} (h : MC L s fs ev W) (hf : 0 < s.fuel) (q : Nat) (t : Tr) : MC L s.tick (⟨⟨q, t, 0, []⟩, .slice none 0 0⟩ :: fs) ev W :=
 ⟨h.evs, h.vals, h.arrs, fun x hx => by
  rcases List.mem_cons.1 hx with rfl | hx
  · exact World.ownsRow_nil _ _ _ _
  · exact h.fr x hx,
 List.pairwise_cons.2 ⟨fun _ _ => .inl rfl, h.dist⟩, h.im, h.size, by have := h.sum; simp only [Ms.tick]; omega, by have := h.few; simp only [Ms.tick, List.length_cons]; omega⟩
theorem Aii (x : FrV) (h : x.v.oneCell' = true) : ∀ u ∈ x.cells, u.oneCell' = true := by
 intro u hu
 simp only [FrV.cells, List.mem_cons, List.not_mem_nil, or_false] at hu
 rcases hu with rfl | rfl | rfl
 · rfl
 · rfl
 · exact h
theorem Yj (L : Lay) (hL : LOk L) (m : Mm) (q : Nat) (t : Tr) (W : World) (h : MRx L m W) : Calls Tryz.prog 60 #[.pointer (some ⟨L.M, 0, none⟩), .int .i64 (q : Int)] W fun e W' => (∃ u, e = .returned u) ∧ MRx L (ZN q t m) W' ∧ Chg L W W' := by
 obtain ⟨fs, sv, ev, hfs, hm⟩ := h
 have hst := fun n => Xd L hL m 4 0 (W.drewN n) ⟨fs, sv, ev, hfs, hm.drew hL n⟩
 have Hst := Lh hst
 have Hfs := Lh hfs
 have Hm := Lh hm
 have HL := Lh hL
 have c10 := hm.row.cellv (i := 10) (v := .int .i64 (m.s.steps : Int)) rfl
 have c6 := hm.row.cellv (i := 6) (v := .int .i64 (L.F : Int)) rfl
 have hsum := hm.core.sum
 have hfew := hm.core.few
 have hF := hL.F
 clear hm hst hL hfs
 by_cases h0 : m.s.fuel = 0
 · have he : ((m.s.steps : Int) == (L.F : Int)) = true := by simp; omega
   have Hz : Hid (ZN q t m = ⟨m.s.stop 4 0, m.stack⟩) := by show _ = _; unfold ZN; rw [if_pos h0]
   clear hsum hfew h0
   go_enter Tryz.func60, Tryz.ntmps60
   go_wp2_with fail
   go_quiet (fail)
   go_wp2_with fail
   refine (Hst.out nq).mono ?_
   rintro e W2 ⟨⟨u, rfl⟩, h2, g2⟩
   have gd : Chg L W (W.drewN nq) := ⟨rfl, rfl, rfl, Nat.le_refl _, fun _ _ _ _ _ => rfl⟩
   have G2 := Lh (gd.trans g2)
   have H2 := Lh h2
   clear h2 g2 gd
   go_wp2
   refine bodyPost_ret (results_none rfl _ _ _) rfl ?_
   exact ⟨⟨_, rfl⟩, by rw [Hz.out]; exact H2.out, G2.out⟩
 · have he : ((m.s.steps : Int) == (L.F : Int)) = false := by simp; omega
   have Hz : Hid (ZN q t m = ⟨m.s.tick, ⟨q, t, 0, []⟩ :: m.stack⟩) := by show _ = _; unfold ZN; rw [if_neg h0]
   have h0' : 0 < m.s.fuel := by omega
   obtain ⟨i0, hi0, hz0, hz1, hz2⟩ := info_parts Adp
   clear h0 Hst
   go_enter Tryz.func60, Tryz.ntmps60
   go_wp2_with fail
   go_quiet (fail)
   have hd : Below W.heap.size W (W.drewN nq) := ⟨rfl, rfl, rfl, Nat.le_refl _, fun _ _ => rfl⟩
   have Hd := Lh hd
   have Hsz := Lh Hm.out.core.size
   have Hm1 := Lh (Hm.out.drew HL.out nq)
   clear Hm hd
   generalize W.drewN nq = W0 at Hm1 Hd ⊢
   have rM := Hm1.out.row
   have c10' := rM.cellv (i := 10) (v := .int .i64 (m.s.steps : Int)) rfl
   have hstep : (m.s.steps : Int) + 1 ≤ 20001 := by omega
   clear c10 c6
   go_wp2_with (refine QD _ _ _ rfl ?_)
   refine Stop.to ?_
   refine QJ rfl 3 _ _ rfl L.M 10 rfl _ rfl [.int .i64 ((m.s.steps : Int) + 1)] rfl 125 _ (L.cells m.s.tick sv ev) rM (by kernel_rfl) (by show 10 + 1 ≤ 14; omega) (by simp [Value.oneCell']) (by rfl) ?_
   intro W1 r1 o1
   have k1 := Hm1.out.core.only HL.out o1
   have s1 := QA Hm1.out.stack o1 (fun e => by have := QN Hm1.out.stack e; have := HL.out.lt; omega)
   have g1 := Chg.only (L := L) o1 (.inr (.inl rfl))
   have K1 := Lh k1
   have S1 := Lh s1
   have G1 := Lh ((Chg.below (L := L) (Hd.out.mono Hsz.out)).trans g1)
   clear rM c10' o1 k1 s1 g1 Hm1
   have c7 := r1.cellv (i := 7) (v := sv) rfl
   have ha := S1.out.alloc (.cells (FrV.cells ⟨⟨q, t, 0, []⟩, .slice none 0 0⟩).toArray 128)
   have HA := Lh ha
   have hsz1 := K1.out.size
   have hfl : fs.length ≤ 20001 := by omega
   clear ha
   go_wp2_with (at_builtin; refine wpList_append_own_at _ rfl (.tmp 29) (.tmp 32) 122 rfl L.b1 128 i0 _ 3 40 Tryz.underlying122 hi0 hz0 hz1 hz2 rfl (by decide) sv fs.length (fs.reverse.flatMap FrV.cells) rfl HA.out ⟨W1.heap.size, 0, none⟩ 1 1 (FrV.cells ⟨⟨q, t, 0, []⟩, .slice none 0 0⟩) rfl rfl (Jz _ _ _) (Aii _ rfl) (by unfold maxLen; omega) (by omega) (by simp; omega) ?_)
   intro sv' W3 hown hg _ hat
   have b2 : Below W1.heap.size W1 (W1.alloc (.cells (FrV.cells ⟨⟨q, t, 0, []⟩, .slice none 0 0⟩).toArray 128)) := (Below.refl _ _).alloc (Nat.le_refl _) _
   have k3 := (K1.out.below HL.out b2).grownStack HL.out HA.out hg
   have r3 := (r1.alloc (.cells (FrV.cells ⟨⟨q, t, 0, []⟩, .slice none 0 0⟩).toArray 128)).grown hg (Qz HA.out (r1.alloc _) (by decide))
   have g3 : Chg L W1 W3 := (Chg.below (L := L) (b2.mono hsz1)).trans (.grown hg (by simp; omega) (fun k e => QN HA.out e))
   have G3 := Lh (G1.out.trans g3)
   have K3 := Lh k3
   have Hown := Lh hown
   have hov := Jl hown
   clear hown hg hat b2 k3 g3 HA G1 K1 S1 r1 c7
   go_wp2_with (refine QD _ _ _ rfl ?_)
   refine Stop.to ?_
   refine QJ rfl 122 _ _ rfl L.M 7 rfl _ rfl [sv'] (by cases sv' <;> first | rfl | cases hov) 125 _ (L.cells m.s.tick sv' ev) r3 (by kernel_rfl) (by show 7 + 1 ≤ 14; omega) (by simpa using hov) (by rfl) ?_
   intro W4 r4 o4
   have k4 := (K3.out.only HL.out o4).push h0' q t
   have s4 := QA Hown.out o4 (fun e => by have := QN Hown.out e; have := HL.out.lt; omega)
   have K4 := Lh k4
   have S4 := Lh s4
   have G4 := Lh (G3.out.trans (.only o4 (.inr (.inl rfl))))
   clear o4 k4 s4 r3 K3 Hown G3
   go_wp2
   go_end0
   refine ⟨⟨_, rfl⟩, ?_, G4.out⟩
   rw [Hz.out]
   refine ⟨_ :: fs, sv', ev, by rw [← Hfs.out]; rfl, r4, ?_, K4.out⟩
   have := S4.out
   rw [List.reverse_cons, List.flatMap_append]
   simpa using this
structure Top (L : Lay) (W : World) (x : FrV) (r : List FrV) (sv : Value) (SB cap : Nat) (cur : Array Value) : Prop where
 sve : sv = .slice (some ⟨SB, 0, none⟩) (r.length + 1) cap
 row : Row W SB 128 cur
 size : cur.size = cap * 3
 le : r.length + 1 ≤ cap
 max : cap ≤ maxLen
 lo : L.b1 ≤ SB
 low : cur.toList.take (r.length * 3) = r.reverse.flatMap FrV.cells
 top : (cur.toList.drop (r.length * 3)).take 3 = x.cells
section
variable {L : Lay} {W W' : World} {x x' : FrV} {r fs : List FrV} {sv ev : Value} {SB cap : Nat} {cur : Array Value} {s s' : Ms}
theorem Abd (h : W.ownsRow L.b1 128 3 sv (x :: r).length ((x :: r).reverse.flatMap FrV.cells)) : ∃ SB cap cur, Top L W x r sv SB cap cur := by
 rcases h.2 with ⟨_, h0⟩ | ⟨g, cap, cur, rfl, hb, hh, hc, hm, hsz, ht⟩
 · simp at h0
 · rw [List.reverse_cons, List.flatMap_append, List.length_cons] at ht
   have hl : (r.reverse.flatMap FrV.cells).length = r.length * 3 := by rw [KR, List.length_reverse]
   have hlow : cur.toList.take (r.length * 3) = r.reverse.flatMap FrV.cells := by
    have := congrArg (List.take (r.length * 3)) ht
    rw [List.take_take, Nat.min_eq_left (by omega), List.take_append_of_le_length (by omega), List.take_of_length_le (l := r.reverse.flatMap FrV.cells) (by omega)] at this
    exact this
   refine ⟨g, cap, cur, rfl, hh, hsz, hc, hm, hb, hlow, ?_⟩
   have := congrArg (List.drop (r.length * 3)) ht
   rw [List.drop_take, List.drop_append_of_le_length (by omega), List.drop_eq_nil_of_le (show (r.reverse.flatMap FrV.cells).length ≤ r.length * 3 by omega), List.nil_append] at this
   rw [show (r.length + 1) * 3 - r.length * 3 = 3 by omega] at this
   simpa using this
theorem Top.own (h : Top L W x r sv SB cap cur) : W.ownsRow L.b1 128 3 sv (r.length + 1) ((x :: r).reverse.flatMap FrV.cells) := by
 have hl : (r.reverse.flatMap FrV.cells).length = r.length * 3 := by rw [KR, List.length_reverse]
 refine ⟨by rw [KR, List.length_reverse, List.length_cons], .inr ⟨SB, cap, cur, h.sve, h.lo, h.row, h.le, h.max, h.size, ?_⟩⟩
 rw [List.reverse_cons, List.flatMap_append, show (r.length + 1) * 3 = r.length * 3 + 3 by omega, List.take_add, h.low, h.top]
 simp
theorem Top.cell (h : Top L W x r sv SB cap cur) (j : Nat) (u : Value) (hu : x.cells[j]? = some u) : W.cell? ⟨SB, r.length * 3 + j, none⟩ = some u := by
 refine h.row.cellv ?_
 have hj : j < 3 := by have := (List.getElem?_eq_some_iff.1 hu).1; simpa [FrV.cells] using this
 rw [← h.top, List.getElem?_take_of_lt hj, List.getElem?_drop] at hu
 rw [← Array.getElem?_toList]; exact hu
theorem Top.pop (h : Top L W x r sv SB cap cur) : W.ownsRow L.b1 128 3 (.slice (some ⟨SB, 0, none⟩) r.length cap) r.length (r.reverse.flatMap FrV.cells) :=
 ⟨by rw [KR, List.length_reverse], .inr ⟨SB, cap, cur, rfl, h.lo, h.row, by have := h.le; omega, h.max, h.size, h.low⟩⟩
theorem Top.hi (h : Top L W x r sv SB cap cur) : r.length * 3 + 3 ≤ cur.size := by have := h.size; have := h.le; omega
theorem Top.put (h : Top L W x r sv SB cap cur) {j : Nat} {u : Value} (hj : j < 3) (hx : x'.cells = x.cells.set j u) (hr : Row W' SB 128 (ZD cur (r.length * 3 + j) [u])) : Top L W' x' r sv SB cap (ZD cur (r.length * 3 + j) [u]) := by
 have hh := h.hi
 have e : (ZD cur (r.length * 3 + j) [u]).toList = cur.toList.set (r.length * 3 + j) u := by
  unfold ZD
  simp only [List.length_singleton]
  rw [List.set_eq_take_append_cons_drop, if_pos (by simp; omega)]; simp
 refine ⟨h.sve, hr, ?_, h.le, h.max, h.lo, ?_, ?_⟩
 · rw [← h.size, ← Array.length_toList, e]; simp
 · rw [e, List.take_set_of_le (by omega)]; exact h.low
 · rw [e, List.drop_set, if_neg (by omega), show r.length * 3 + j - r.length * 3 = j by omega, List.take_set, h.top, hx]
theorem Top.below (h : Top L W x r sv SB cap cur) (b : Below W.heap.size W W') : Top L W' x r sv SB cap cur := ⟨h.sve, h.row.below b h.row.lt, h.size, h.le, h.max, h.lo, h.low, h.top⟩
theorem Ajk {n : Nat} {v : Value} {xs : List Value} {e : TypeId} {size : Nat} (hL : LOk L) (h : W.ownsRow L.b1 e size v n xs) : v.ownBlock = none ∨ L.vv.ownBlock ≠ v.ownBlock := by
 cases hv : v.ownBlock with
 | none => exact .inl rfl
 | some g => exact .inr (fun e => by have := (hL.vlt g e).1; have := QN h hv; omega)
theorem MC.grownTop (h : MC L s (x :: r) ev W) (hL : LOk L) (hg : W.grownBy W' x.v.ownBlock) (hx : W'.ownsRow L.b1 3 1 x'.v x'.f.vals.length (Qi x'.f.vals)) (hat : x'.v.ownBlock = x.v.ownBlock ∨ x'.v.ownBlock = some W.heap.size) : MC L s (x' :: r) ev W' := by
 have hxo := h.fr x (by simp)
 have hd := List.pairwise_cons.1 h.dist
 refine ⟨Q5 h.evs hg (Za h.evs hxo (by decide)), Q5 h.vals hg (Ajk hL hxo), fun i g a hi ha => (h.arrs i g a hi ha).grown hg (fun e => ?_), fun y hy => ?_, List.pairwise_cons.2 ⟨fun y hy => ?_, hd.2⟩,
  hL.im _ _ h.im (.grown hg h.size (fun k e => QN hxo e)), Nat.le_trans h.size hg.size, h.sum, by have := h.few; simpa using this⟩
 · have h1 := (hL.alt g (List.mem_of_getElem? hi)).1
   have := QN hxo e
   omega
 · rcases List.mem_cons.1 hy with rfl | hy
   · exact hx
   · exact Q5 (h.fr y (by simp [hy])) hg (by
      rcases hd.1 y hy with h1 | h1
      · exact .inl h1
      · exact .inr (fun e => h1 e.symm))
 · rcases hat with h1 | h1
   · rw [h1]; exact hd.1 y hy
   · rw [h1]
     right
     intro e
     have := (h.fr y (by simp [hy])).lt _ e.symm
     omega
end
theorem MC.onlyStack {L : Lay} {s : Ms} {fs : List FrV} {ev : Value} {W W' : World} {SB : Nat} {cur : Array Value} (h : MC L s fs ev W) (hL : LOk L) (o : Only SB W W') (hr : Row W SB 128 cur) (hlo : L.b1 ≤ SB) : MC L s fs ev W' :=
 ⟨QA h.evs o (Qz h.evs hr (by decide)), QA h.vals o (Qz h.vals hr (by decide)), fun i g a hi ha => (h.arrs i g a hi ha).only o (fun e => by have := (hL.alt g (List.mem_of_getElem? hi)).1; omega),
  fun x hx => QA (h.fr x hx) o (Qz (h.fr x hx) hr (by decide)), h.dist, hL.im _ _ h.im (.only o (.inl hlo)), by rw [o.size]; exact h.size, h.sum, h.few⟩
theorem E7 : (Tryz.prog.info? 3).map (fun i => (i.zero, i.size, i.bytes)) = some (some (.int .i64 0), 1, 8) := by kernel_rfl
theorem Z0 (L : Lay) (hL : LOk L) (s : Ms) (f : Fr) (r : List Fr) (v : Int) (W : World) (h : MRx L ⟨s, f :: r⟩ W) (hv : f.vals.length ≤ 1000) : Calls Tryz.prog 122 #[.pointer (some ⟨L.M, 0, none⟩), .int .i64 v] W fun e W' => (∃ u, e = .returned u) ∧ MRx L ⟨s, f.told v :: r⟩ W' ∧ Chg L W W' := by
 obtain ⟨fs, sv, ev, hfs, hm⟩ := h
 obtain ⟨x, rs, rfl⟩ : ∃ x rs, fs = x :: rs := by cases fs with
  | nil => simp at hfs
  | cons x rs => exact ⟨x, rs, rfl⟩
 simp only [List.map_cons, List.cons.injEq] at hfs
 obtain ⟨rfl, rfl⟩ := hfs
 obtain ⟨SB, cap, cur, ht⟩ := Abd hm.stack
 obtain ⟨i0, hi0, hz0, hz1, hz2⟩ := info_parts E7
 have Hm := Lh hm
 have HL := Lh hL
 have Ht := Lh ht
 have c7 := hm.row.cellv (i := 7) (v := sv) rfl
 rw [ht.sve] at c7
 have hfew := hm.core.few
 have hsum := hm.core.sum
 have hF := hL.F
 have hrl : rs.length ≤ 20001 := by simp at hfew; dsimp only at hsum; omega
 clear hm hL ht hfew hsum hF
 go_enter Tryz.func122, Tryz.ntmps122
 go_wp2_with fail
 go_quiet (fail)
 have hd : Below W.heap.size W (W.drewN nq) := ⟨rfl, rfl, rfl, Nat.le_refl _, fun _ _ => rfl⟩
 have gd : Chg L W (W.drewN nq) := ⟨rfl, rfl, rfl, Nat.le_refl _, fun _ _ _ _ _ => rfl⟩
 have hm0 := Hm.out.below HL.out hd
 have ht0 := Ht.out.below hd
 have Gd := Lh gd
 clear Hm Ht c7 hd gd
 generalize W.drewN nq = W0 at hm0 ht0 Gd ⊢
 have cv := ht0.cell 2 x.v rfl
 have hxo := hm0.core.fr x (by simp)
 have hb1 := hm0.core.size
 have ha := hxo.alloc (.cells #[.int .i64 v] 3)
 have HA := Lh ha
 have Hm0 := Lh hm0
 have Ht0 := Lh ht0
 clear ha hxo hm0 ht0
 go_wp2_with (at_builtin; refine wpList_append_own_at _ rfl (.tmp 20) (.tmp 22) 22 rfl L.b1 3 i0 (.int .i64 0) 1 8 Tryz.underlying22 hi0 hz0 hz1 hz2 rfl (by decide) x.v x.f.vals.length (Qi x.f.vals) rfl HA.out ⟨W0.heap.size, 0, none⟩ 1 1 (Qi [v]) rfl rfl (Jz _ _ _) (Jo _) (by unfold maxLen; omega) (by omega) (by simp; omega) ?_)
 intro fv W1 hown hg _ hat
 have b1 : Below W0.heap.size W0 (W0.alloc (.cells #[.int .i64 v] 3)) := (Below.refl _ _).alloc (Nat.le_refl _) _
 have hm1 := Hm0.out.below HL.out b1
 have ht1 := Ht0.out.below b1
 have k2 := hm1.core.grownTop (x' := ⟨x.f.told v, fv⟩) HL.out hg (by rw [← Kj] at hown; simpa [Fr.told] using hown) (by simpa using hat)
 have r2 := hm1.row.grown hg (Qz HA.out hm1.row (by decide))
 have t2 : Row W1 SB 128 cur := ht1.row.grown hg (Qz HA.out ht1.row (by decide))
 have ht2 : Top L W1 x rs sv SB cap cur := ⟨ht1.sve, t2, ht1.size, ht1.le, ht1.max, ht1.lo, ht1.low, ht1.top⟩
 have g2 := (Gd.out.trans (Chg.below (L := L) (b1.mono hb1))).trans (.grown hg (by simp; omega) (fun k e => QN HA.out e))
 have hov := Jl hown
 have K2 := Lh k2
 have R2 := Lh r2
 have T2 := Lh ht2
 have G2 := Lh g2
 clear hown hg hat b1 hm1 ht1 k2 r2 t2 ht2 g2 HA Hm0 Ht0 Gd cv
 go_wp2_with (refine QD _ _ _ rfl ?_)
 refine Stop.to ?_
 refine QJ rfl 22 _ _ rfl SB (rs.length * 3 + 2) rfl _ rfl [fv] (by cases fv <;> first | rfl | cases hov) 128 _ _ T2.out.row (by kernel_rfl) (by have := T2.out.hi; simp; omega) (by simpa using hov) rfl ?_
 intro W3 r3 o3
 have hSB := T2.out.lo
 have t3 := T2.out.put (x' := ⟨x.f.told v, fv⟩) (j := 2) (u := fv) (by decide) rfl r3
 have hne : SB ≠ L.M := by have := HL.out.lt; omega
 have m3 : MR L s (⟨x.f.told v, fv⟩ :: rs) sv ev W3 := by
  refine ⟨R2.out.only o3 (fun e => hne e.symm), t3.own, ?_⟩
  exact K2.out.onlyStack HL.out o3 T2.out.row hSB
 have M3 := Lh m3
 have G3 := Lh (G2.out.trans (.only o3 (.inl hSB)))
 clear m3 t3 o3 r3 R2 T2 K2 G2
 go_wp2
 go_end0
 exact ⟨⟨_, rfl⟩, ⟨_, sv, ev, rfl, M3.out⟩, G3.out⟩
theorem KB (b : Bool) (w : World) : Calls Tryz.prog 198 #[.bool b] w fun e w' => e = .returned (.int .i64 (tr b)) ∧ w = w' := by
 cases b
 all_goals
  go_enter Tryz.func198, Tryz.ntmps198
  go_wp2
  go_ret
  exact ⟨rfl, rfl⟩
theorem Ui (tag a b c : Int) (f : Nat) (w : World) (hf : Ji tag KH = some (fnV f)) (hp : ZW tag a b = some c) : Calls Tryz.prog f #[.int .i64 a, .int .i64 b] w fun e w' => e = .returned (.int .i64 c) ∧ w = w' := by
 have key : tag = 7 ∨ tag = 8 ∨ tag = 9 ∨ tag = 12 ∨ tag = 13 ∨ tag = 14 ∨ tag = 15 ∨ tag = 16 ∨ tag = 17 ∨ tag = 10 ∨ tag = 11 := by
  unfold KH at hf
  simp only [Ji] at hf
  repeat' split at hf
  all_goals (first | (cases hf; done) | omega)
 rcases key with rfl | rfl | rfl | rfl | rfl | rfl | rfl | rfl | rfl | rfl | rfl
 all_goals
  have hf' := hf
  simp [KH, Ji, fnV] at hf'
  subst hf'
  clear hf
 · have hc : wrap64 (a + b) = c := by simpa [ZW] using hp
   subst hc; clear hp
   go_enter Tryz.func194, Tryz.ntmps194
   go_wp2
   go_ret
   exact ⟨QK rfl, rfl⟩
 · have hc : wrap64 (a - b) = c := by simpa [ZW] using hp
   subst hc; clear hp
   go_enter Tryz.func195, Tryz.ntmps195
   go_wp2
   go_ret
   exact ⟨QK rfl, rfl⟩
 · have hc : wrap64 (a * b) = c := by simpa [ZW] using hp
   subst hc; clear hp
   go_enter Tryz.func196, Tryz.ntmps196
   go_wp2
   go_ret
   exact ⟨QK rfl, rfl⟩
 · have hc : tr (decide (a = b)) = c := by simpa [ZW] using hp
   clear hp
   go_enter Tryz.func197, Tryz.ntmps197
   go_wp2_with fail
   refine (KB _ _).mono ?_
   rintro e w' ⟨rfl, rfl⟩
   go_wp2
   go_ret
   exact ⟨QK (by rw [← hc]; all_goals (first | (congr 1; done) | (congr 1; rw [Bool.eq_iff_iff]; simp))), rfl⟩
 · have hc : tr (decide (a ≠ b)) = c := by simpa [ZW] using hp
   clear hp
   go_enter Tryz.func199, Tryz.ntmps199
   go_wp2_with fail
   refine (KB _ _).mono ?_
   rintro e w' ⟨rfl, rfl⟩
   go_wp2
   go_ret
   exact ⟨QK (by rw [← hc]; all_goals (first | (congr 1; done) | (congr 1; rw [Bool.eq_iff_iff]; simp))), rfl⟩
 · have hc : tr (decide (a < b)) = c := by simpa [ZW] using hp
   clear hp
   go_enter Tryz.func200, Tryz.ntmps200
   go_wp2_with fail
   refine (KB _ _).mono ?_
   rintro e w' ⟨rfl, rfl⟩
   go_wp2
   go_ret
   exact ⟨QK (by rw [← hc]; all_goals (first | (congr 1; done) | (congr 1; rw [Bool.eq_iff_iff]; simp))), rfl⟩
 · have hc : tr (decide (a ≤ b)) = c := by simpa [ZW] using hp
   clear hp
   go_enter Tryz.func201, Tryz.ntmps201
   go_wp2_with fail
   refine (KB _ _).mono ?_
   rintro e w' ⟨rfl, rfl⟩
   go_wp2
   go_ret
   exact ⟨QK (by rw [← hc]; all_goals (first | (congr 1; done) | (congr 1; rw [Bool.eq_iff_iff]; simp))), rfl⟩
 · have hc : tr (decide (b < a)) = c := by simpa [ZW] using hp
   clear hp
   go_enter Tryz.func202, Tryz.ntmps202
   go_wp2_with fail
   refine (KB _ _).mono ?_
   rintro e w' ⟨rfl, rfl⟩
   go_wp2
   go_ret
   exact ⟨QK (by rw [← hc]; all_goals (first | (congr 1; done) | (congr 1; rw [Bool.eq_iff_iff]; simp))), rfl⟩
 · have hc : tr (decide (b ≤ a)) = c := by simpa [ZW] using hp
   clear hp
   go_enter Tryz.func203, Tryz.ntmps203
   go_wp2_with fail
   refine (KB _ _).mono ?_
   rintro e w' ⟨rfl, rfl⟩
   go_wp2
   go_ret
   exact ⟨QK (by rw [← hc]; all_goals (first | (congr 1; done) | (congr 1; rw [Bool.eq_iff_iff]; simp))), rfl⟩
 · by_cases h0 : b = 0
   · simp [ZW, h0] at hp
   have hc : wrap64 (a.tdiv b) = c := by simpa [ZW, h0] using hp
   subst hc; clear hp
   go_enter Tryz.func204, Tryz.ntmps204
   go_wp2
   go_ret
   exact ⟨QK rfl, rfl⟩
 · by_cases h0 : b = 0
   · simp [ZW, h0] at hp
   have hc : a.tmod b = c := by simpa [ZW, h0] using hp
   subst hc; clear hp
   go_enter Tryz.func205, Tryz.ntmps205
   go_wp2
   go_ret
   exact ⟨QK rfl, rfl⟩
theorem Abn {w : World} : (zeroValue 202).run Tryz.prog w = .ok Value.nilFunc w := by kernel_rfl
theorem Ach (L : Lay) (hL : LOk L) (m : Mm) (tag a b : Int) (W : World) (h : MRx L m W) (hp : ZW tag a b = none) : Calls Tryz.prog 125 #[.pointer (some ⟨L.M, 0, none⟩), .int .i64 tag, .int .i64 a, .int .i64 b] W fun e W' => (∃ u, e = .returned u) ∧ MRx L ⟨m.s.stop 1 0, m.stack⟩ W' ∧ Chg L W W' := by
 have hst := Xd L hL m 1 0 W h
 have Hst := Lh hst
 have hb : b = 0 ∧ (tag = 10 ∨ tag = 11) := by
  unfold ZW at hp
  repeat' split at hp
  all_goals (first | (cases hp; done) | (refine ⟨?_, ?_⟩ <;> first | assumption | omega))
 obtain ⟨rfl, ht⟩ := hb
 clear hst h hp hL
 rcases ht with rfl | rfl
 all_goals
  go_enter Tryz.func125, Tryz.ntmps125
  go_wp2_with fail
  refine Hst.out.mono ?_
  rintro e W2 ⟨⟨u, rfl⟩, h2, g2⟩
  have G2 := Lh g2
  have H2 := Lh h2
  clear h2 g2
  go_wp2
  refine bodyPost_ret (results_none rfl _ _ _) rfl ?_
  exact ⟨⟨_, rfl⟩, H2.out, G2.out⟩
theorem Afb (L : Lay) (hL : LOk L) (s : Ms) (f : Fr) (r : List Fr) (tag a b c : Int) (W : World) (h : MRx L ⟨s, f :: r⟩ W) (hv : f.vals.length ≤ 1000) (ht : 7 ≤ tag ∧ tag ≤ 17) (hp : ZW tag a b = some c) : Calls Tryz.prog 125 #[.pointer (some ⟨L.M, 0, none⟩), .int .i64 tag, .int .i64 a, .int .i64 b] W fun e W' => (∃ u, e = .returned u) ∧ MRx L ⟨s, f.told c :: r⟩ W' ∧ Chg L W W' := by
 obtain ⟨fs, sv, ev, hfs, hm⟩ := h
 have hte := Z0 L hL s f r c W ⟨fs, sv, ev, hfs, hm⟩ hv
 have hmb := hL.pairs W hm.core.im
 have Hte := Lh hte
 have Hmb := Lh hmb
 have c13 := hm.row.cellv (i := 13) (v := .map (some L.PB)) rfl
 have htags : tag = 7 ∨ tag = 8 ∨ tag = 9 ∨ tag = 12 ∨ tag = 13 ∨ tag = 14 ∨ tag = 15 ∨ tag = 16 ∨ tag = 17 ∨ tag = 10 ∨ tag = 11 := by omega
 clear hte hm hmb hL hfs ht
 rcases htags with rfl | rfl | rfl | rfl | rfl | rfl | rfl | rfl | rfl | rfl | rfl
 iterate 9
  · by_cases hb : b = 0
    · have e0 : (b == 0) = true := by simpa using hb
      clear hb
      have Hcl := Lh (Ui _ a b c _ W rfl hp)
      clear hp
      go_enter Tryz.func125, Tryz.ntmps125
      go_wp2_with (refine QW rfl _ _ rfl Tryz.underlying123 Tryz.underlying3 Hmb.out rfl _ rfl Abn ?_; simp only [KH, Ji, fnV, Option.getD_some, Int.reduceEq, if_false, if_true])
      refine Hcl.out.mono ?_
      rintro e w' ⟨rfl, rfl⟩
      go_wp2_with fail
      refine Hte.out.mono ?_
      rintro e W2 ⟨⟨u, rfl⟩, h2, g2⟩
      have G2 := Lh g2
      have H2 := Lh h2
      clear h2 g2
      go_wp2
      go_end0
      exact ⟨⟨_, rfl⟩, H2.out, G2.out⟩
    · have e0 : (b == 0) = false := by simpa using hb
      clear hb
      have Hcl := Lh (Ui _ a b c _ W rfl hp)
      clear hp
      go_enter Tryz.func125, Tryz.ntmps125
      go_wp2_with (refine QW rfl _ _ rfl Tryz.underlying123 Tryz.underlying3 Hmb.out rfl _ rfl Abn ?_; simp only [KH, Ji, fnV, Option.getD_some, Int.reduceEq, if_false, if_true])
      refine Hcl.out.mono ?_
      rintro e w' ⟨rfl, rfl⟩
      go_wp2_with fail
      refine Hte.out.mono ?_
      rintro e W2 ⟨⟨u, rfl⟩, h2, g2⟩
      have G2 := Lh g2
      have H2 := Lh h2
      clear h2 g2
      go_wp2
      go_end0
      exact ⟨⟨_, rfl⟩, H2.out, G2.out⟩
 all_goals
  by_cases hb : b = 0
  · subst hb; simp [ZW] at hp
  have e0 : (b == 0) = false := by simpa using hb
  clear hb
  have Hcl := Lh (Ui _ a b c _ W rfl hp)
  clear hp
  go_enter Tryz.func125, Tryz.ntmps125
  go_wp2_with (refine QW rfl _ _ rfl Tryz.underlying123 Tryz.underlying3 Hmb.out rfl _ rfl Abn ?_; simp only [KH, Ji, fnV, Option.getD_some, Int.reduceEq, if_false, if_true])
  refine Hcl.out.mono ?_
  rintro e w' ⟨rfl, rfl⟩
  go_wp2_with fail
  refine Hte.out.mono ?_
  rintro e W2 ⟨⟨u, rfl⟩, h2, g2⟩
  have G2 := Lh g2
  have H2 := Lh h2
  clear h2 g2
  go_wp2
  go_end0
  exact ⟨⟨_, rfl⟩, H2.out, G2.out⟩
end Go.Proofs.YtdcmppdhdcjpfaaGreat
