/- Lemmas for RunnerJustP. -/
import Derived.Test.YtkoikjnlpifbjaaGreatZb8
import Derived.Test.YtkoikjnlpifbjaaGreatZb2
import Derived.Test.YtkoikjnlpifbjaaGreatZb3
import Derived.Test.YtkoikjnlpifbjaaGreatZb1
import Derived.Test.YtkoikjnlpifbjaaGreatZb5
set_option linter.unusedVariables false
set_option linter.unusedSimpArgs false
set_option maxRecDepth 100000
set_option maxHeartbeats 16000000
namespace Go.Proofs.YtkoikjnlpifbjaaGreat
open Go.RowKit
structure Rn where
 kind : Int
 value : Int
 dig : List UInt8
def Q9 (b r : Rn) : Int := if b.kind = 4 then 0 else if r.kind = 4 then 2 else if r.kind = b.kind ∧ r.value = b.value then 0 else 1
theorem Vz (b r : Rn) : Q9 b r = 0 ∨ Q9 b r = 1 ∨ Q9 b r = 2 := by
 unfold Q9;split
 · exact .inl rfl
 · split
   · exact .inr (.inr rfl)
   · split
     · exact .inl rfl
     · exact .inr (.inl rfl)
theorem tells_1 {b r : Rn} : Q9 b r = 1 ↔ ¬ b.kind = 4 ∧ ¬ r.kind = 4 ∧ ¬ (r.kind = b.kind ∧ r.value = b.value) := by
 unfold Q9;by_cases c : b.kind = 4
 · rw [if_pos c]; simp [c]
 · rw [if_neg c];by_cases d : r.kind = 4
   · rw [if_pos d]; simp [d]
   · rw [if_neg d];by_cases e : r.kind = b.kind ∧ r.value = b.value
     · rw [if_pos e]; simp [e]
     · rw [if_neg e]; simp [c, d, e]
theorem tells_2 {b r : Rn} : Q9 b r = 2 ↔ ¬ b.kind = 4 ∧ r.kind = 4 := by
 unfold Q9;by_cases c : b.kind = 4
 · rw [if_pos c]; simp [c]
 · rw [if_neg c];by_cases d : r.kind = 4
   · rw [if_pos d]; simp [c, d]
   · rw [if_neg d];split <;> simp [d]
def ZG (vs : List Int) : Int × Int := if 1 ∈ vs then (1, (vs.idxOf 1 : Int)) else if 2 ∈ vs then (2, (vs.idxOf 2 : Int)) else (0, -1)
theorem Aa7 {l r : List Int} {v : Int} (h : v ∉ l) : (l ++ v :: r).idxOf v = l.length := by
 rw [List.idxOf_append, if_neg h]; simp
theorem EA {l r : List Int} {v : Int} (h : v ∈ l) : (l ++ r).idxOf v = l.idxOf v := by rw [List.idxOf_append, if_pos h]
theorem Aki {l : List Int} (r : List Int) (h : (1 : Int) ∉ l) : ZG (l ++ 1 :: r) = (1, (l.length : Int)) := by
 unfold ZG;rw [if_pos (by simp), Aa7 h]
theorem Akj {l : List Int} (h : (1 : Int) ∉ l) (h2 : (2 : Int) ∉ l) : ZG (l ++ [2]) = (2, (l.length : Int)) := by
 unfold ZG;rw [if_neg (by simp [h]), if_pos (by simp), Aa7 h2]
theorem AiX {l : List Int} {v : Int} (h : (1 : Int) ∉ l) (h2 : (2 : Int) ∈ l) (hv : ¬ v = 1) : ZG (l ++ [v]) = ZG l := by
 unfold ZG;rw [if_neg (by simp [h]; omega), if_pos (by simp [h2]), if_neg h, if_pos h2, EA h2]
theorem Akh {l : List Int} {v : Int} (h1 : ¬ v = 1) (h2 : ¬ v = 2) : ZG (l ++ [v]) = ZG l := by
 unfold ZG;by_cases a : (1 : Int) ∈ l
 · rw [if_pos (by simp [a]), if_pos a, EA a]
 · rw [if_neg (by simp [a]; omega), if_neg a];by_cases b : (2 : Int) ∈ l
   · rw [if_pos (by simp [b]), if_pos b, EA b]
   · rw [if_neg (by simp [b]; omega), if_neg b]
theorem best_v1 {l : List Int} : (ZG l).1 = 1 ↔ (1 : Int) ∈ l := by
 unfold ZG;by_cases a : (1 : Int) ∈ l
 · rw [if_pos a]; simp [a]
 · rw [if_neg a]; split <;> simp [a]
theorem best_v2 {l : List Int} : (ZG l).1 = 2 ↔ (1 : Int) ∉ l ∧ (2 : Int) ∈ l := by
 unfold ZG;by_cases a : (1 : Int) ∈ l
 · rw [if_pos a]; simp [a]
 · rw [if_neg a];by_cases b : (2 : Int) ∈ l
   · rw [if_pos b]; simp [a, b]
   · rw [if_neg b]; simp [b]
theorem best_v0 {l : List Int} : (ZG l).1 = 0 ↔ (1 : Int) ∉ l ∧ (2 : Int) ∉ l := by
 unfold ZG;by_cases a : (1 : Int) ∈ l
 · rw [if_pos a]; simp [a]
 · rw [if_neg a];by_cases b : (2 : Int) ∈ l
   · rw [if_pos b]; simp [b]
   · rw [if_neg b]; simp [a, b]
theorem Ea (l : List Int) : (ZG l).1 = 0 ∨ (ZG l).1 = 1 ∨ (ZG l).1 = 2 := by
 unfold ZG; split
 · exact .inr (.inl rfl)
 · split
   · exact .inr (.inr rfl)
   · exact .inl rfl
theorem Afq {l : List Int} (h : (ZG l).1 ≠ 0) : ∃ i, (ZG l).2 = (i : Nat) ∧ i < l.length ∧ l[i]? = some (ZG l).1 ∧ ∀ j, j < i → ¬ l[j]? = some (ZG l).1 := by
 have c : ∀ v : Int, v ∈ l → l.idxOf v < l.length ∧ l[l.idxOf v]? = some v ∧ ∀ j, j < l.idxOf v → ¬ l[j]? = some v := by
  intro v m;have d := List.idxOf_lt_length_iff.2 m;refine ⟨d, by rw [La d, List.getElem_idxOf d], fun j k e => ?_⟩;obtain ⟨n, e⟩ := Ld.1 e;have g := List.not_of_lt_findIdx (p := (· == v)) (xs := l) (i := j) k;simp [e] at g
 by_cases a : (1 : Int) ∈ l
 · have e : ZG l = (1, (l.idxOf 1 : Int)) := by unfold ZG; rw [if_pos a]
   rw [e];exact ⟨_, rfl, c 1 a⟩
 · by_cases b : (2 : Int) ∈ l
   · have e : ZG l = (2, (l.idxOf 2 : Int)) := by unfold ZG; rw [if_neg a, if_pos b]
     rw [e];exact ⟨_, rfl, c 2 b⟩
   · exact absurd (best_v0.2 ⟨a, b⟩) h
def Ads (d : Dl) (rs : List Rn) (b : Int × Int) : Mt := if b.1 = 0 then ⟨d, 0, -1, 0, 0, []⟩ else ⟨d, b.1, b.2, (rs.getD b.2.toNat ⟨0, 0, []⟩).kind, (rs.getD b.2.toNat ⟨0, 0, []⟩).value, (rs.getD b.2.toNat ⟨0, 0, []⟩).dig⟩
section
variable {α : Type} (f g : α → Rn)
def Q2 (ts : List α) : List Int := ts.map fun a => Q9 (f a) (g a)
def QZ (d : Dl) (ts : List α) : Mt := Ads d (ts.map g) (ZG (Q2 f g ts))
variable {f g}
theorem KO {d : Dl} {ts : List α} : (QZ f g d ts).d = d := by unfold QZ Ads; split <;> rfl
theorem X5 {d : Dl} {ts : List α} : (QZ f g d ts).verdict = (ZG (Q2 f g ts)).1 := by
 unfold QZ Ads;split
 · rename_i h; exact h.symm
 · rfl
theorem Ut {d : Dl} {ts : List α} (h : (ZG (Q2 f g ts)).1 = 0) : QZ f g d ts = ⟨d, 0, -1, 0, 0, []⟩ := by
 unfold QZ Ads; rw [if_pos h]
theorem Adb {d : Dl} {ts : List α} (h : (QZ f g d ts).verdict ≠ 0) : ∃ i a, ts[i]? = some a ∧ QZ f g d ts = ⟨d, Q9 (f a) (g a), (i : Nat), (g a).kind, (g a).value, (g a).dig⟩ ∧ (Q9 (f a) (g a) = 1 ∨ Q9 (f a) (g a) = 2) ∧ ∀ j b, j < i → ts[j]? = some b → Q9 (f b) (g b) ≠ Q9 (f a) (g a) := by
 rw [X5] at h;obtain ⟨i, l, m, n, o⟩ := Afq h;have hi : i < ts.length := by simpa [Q2] using m
 have c : ts[i]? = some ts[i] := La hi
 have ev : (ZG (Q2 f g ts)).1 = Q9 (f ts[i]) (g ts[i]) := by
  have := n;unfold Q2 at this;rw [L6, c] at this;exact (Option.some.inj this).symm
 refine ⟨i, ts[i], c, ?_, ?_, fun j b q p e => o j q ?_⟩
 · unfold QZ Ads;rw [if_neg h, l, ev];have k : (ts.map g).getD i ⟨0, 0, []⟩ = g ts[i] := by rw [LX, L6, c]; rfl
   rw [show ((i : Nat) : Int).toNat = i by omega, k]
 · rw [← ev];rcases Ea (Q2 f g ts) with e | e | e
   · exact absurd e h
   · exact .inl e
   · exact .inr e
 · unfold Q2;rw [L6, p];show some (Q9 (f b) (g b)) = some _;rw [e, ← ev]; rfl
theorem Ahz {ts : List α} {x : α} {i : Nat} (h : i < ts.length) : ((ts ++ [x]).map g).getD i ⟨0, 0, []⟩ = (ts.map g).getD i ⟨0, 0, []⟩ := by
 rw [LX, LX, L6, L6, LC h]
theorem Vo {d : Dl} {ts : List α} (hl : ts.length ≤ 20) (hg : ∀ a ∈ ts, 0 ≤ (g a).kind ∧ (g a).kind ≤ 4 ∧ ((g a).kind = 0 ∨ (g a).value = 0) ∧ (g a).dig.length = 32) : JY (QZ f g d ts) = true ∧ (QZ f g d ts).test < ts.length := by
 by_cases h : (QZ f g d ts).verdict = 0
 · rw [X5] at h;rw [Ut h];exact ⟨by simp [JY], by simp only; omega⟩
 · obtain ⟨i, a, c, e, b, _⟩ := Adb h;have hi := (Ld.1 c).1;obtain ⟨k, l, m, n⟩ := hg a (Lj c);rw [e];refine ⟨?_, by simp only; omega⟩;rcases b with b | b
   · have j := (tells_1.1 b).2.1;unfold JY;simp only;rw [b, if_neg (by decide), if_pos rfl];simp only [decide_eq_true_eq];omega
   · have j := (tells_2.1 b).2;unfold JY;simp only;rw [b, if_neg (by decide), if_neg (by decide), if_pos rfl];simp only [decide_eq_true_eq];omega
end
end Go.Proofs.YtkoikjnlpifbjaaGreat
namespace Go.Proofs.YtkoikjnlpifbjaaGreat
open Go.RowKit Go.Deep
def RunV.cells (r : RunV) : Array Value := #[.int .i64 r.kind, .int .i64 r.value, .int .i64 r.steps, .slice r.addr r.evs.length r.cap]
def fnV (f : Nat) : Value := .func (.func f) #[] #[]
def Xc : List (Int × Value) := [(7, fnV 179), (8, fnV 180), (9, fnV 181), (12, fnV 182), (13, fnV 184), (14, fnV 185),
 (15, fnV 186), (16, fnV 187), (17, fnV 188), (10, fnV 189), (11, fnV 190)]
structure Lay where
 p : PgV
 M : Nat
 ka : Option Addr
 kcap : Nat
 vv : Value
 aa : Option Addr
 acap : Nat
 ab : List Nat
 PB : Nat
 F : Nat
 b0 : Nat
 b1 : Nat
 Im : World → Prop
structure FrV where
 f : Fr
 v : Value
def FrV.cells (x : FrV) : List Value := [.int .i64 (x.f.at_ : Int), .int .i64 (x.f.kid : Int), x.v]
def Lay.cells (L : Lay) (s : Ms) (sv ev : Value) : Array Value :=
 #[.int .i64 L.p.params, .slice L.p.va L.p.V.length L.p.vcap, .slice L.p.ba L.p.body.length L.p.bcap, .slice L.ka L.p.body.length L.kcap, L.vv, .slice L.aa L.ab.length L.acap, .int .i64 (L.F : Int), sv,
  .int .i64 (s.out.getD (0, 0)).1, .int .i64 (s.out.getD (0, 0)).2, .int .i64 (s.steps : Int), ev, .bool s.out.isSome, .map (some L.PB)]
structure Chg (L : Lay) (W W' : World) : Prop where
 os : W'.os = W.os
 tape : W'.tape = W.tape
 output : W'.output = W.output
 size : W.heap.size ≤ W'.heap.size
 block : ∀ k, k < L.b1 → k ≠ L.M → L.vv.ownBlock ≠ some k → k ∉ L.ab → W'.heap[k]? = W.heap[k]?
theorem Chg.refl (L : Lay) (W : World) : Chg L W W := ⟨rfl, rfl, rfl, Nat.le_refl _, fun _ _ _ _ _ => rfl⟩
theorem Chg.trans {L : Lay} {A B C : World} (h : Chg L A B) (k : Chg L B C) : Chg L A C :=
 ⟨k.os.trans h.os, k.tape.trans h.tape, k.output.trans h.output, Li h.size k.size, fun i h1 h2 h3 h4 => (k.block i h1 h2 h3 h4).trans (h.block i h1 h2 h3 h4)⟩
theorem Chg.only {L : Lay} {A B : World} {g : Nat} (o : Only g A B) (h : L.b1 ≤ g ∨ g = L.M ∨ L.vv.ownBlock = some g ∨ g ∈ L.ab) : Chg L A B :=
 ⟨o.os, o.tape, o.output, LM o.size.symm, fun k h1 h2 h3 h4 => o.block k (fun e => by subst e; rcases h with h | h | h | h; omega; exact h2 h; exact h3 h; exact h4 h)⟩
theorem Chg.below {L : Lay} {A B : World} (b : Below L.b1 A B) : Chg L A B := ⟨b.os, b.tape, b.output, b.size, fun k h1 _ _ _ => b.block k h1⟩
theorem Chg.grown {L : Lay} {A B : World} {g : Option Nat} (h : A.grownBy B g) (hs : L.b1 ≤ A.heap.size) (hg : ∀ k, g = some k → L.b1 ≤ k) : Chg L A B :=
 ⟨h.os, h.tape, h.output, h.size, fun k h1 _ _ _ => h.block k (by omega) (fun e => by have := hg k e.symm; omega)⟩
structure MC (L : Lay) (s : Ms) (fs : List FrV) (ev : Value) (W : World) : Prop where
 evs : W.ownsRow L.b1 263 3 ev s.evs.length (s.evs.flatMap EvV.cells)
 vals : W.ownsRow L.b0 3 1 L.vv s.vals.length (Qj s.vals)
 arrs : ∀ (i g : Nat) (a : List Int), L.ab[i]? = some g → s.arrs[i]? = some a → Row W g 3 (Qj a).toArray
 fr : ∀ x ∈ fs, W.ownsRow L.b1 3 1 x.v x.f.vals.length (Qj x.f.vals)
 dist : fs.Pairwise fun x y => x.v.ownBlock = none ∨ x.v.ownBlock ≠ y.v.ownBlock
 im : L.Im W
 size : L.b1 ≤ W.heap.size
 sum : s.steps + s.fuel = L.F
 few : s.evs.length + fs.length ≤ s.steps
structure MR (L : Lay) (s : Ms) (fs : List FrV) (sv ev : Value) (W : World) : Prop where
 row : Row W L.M 184 (L.cells s sv ev)
 stack : W.ownsRow L.b1 187 3 sv fs.length (fs.reverse.flatMap FrV.cells)
 core : MC L s fs ev W
structure LOk0 (L : Lay) : Prop where
 im : ∀ W W', L.Im W → Chg L W W' → L.Im W'
 lt : L.M < L.b1
 vlt : ∀ g, L.vv.ownBlock = some g → g < L.b1 ∧ g ≠ L.M ∧ g ∉ L.ab
 alt : ∀ g ∈ L.ab, g < L.b1 ∧ g ≠ L.M
 and : L.ab.Nodup
 F : L.F ≤ 20000
 blen : L.p.body.length ≤ 1000
 b0 : L.b0 ≤ L.M
 bb : L.b0 ≤ L.b1
structure LOk (L : Lay) : Prop extends LOk0 L where
 kids : ∀ W, L.Im W → ∀ (q : Nat) (t : Tr), At L.p.body q t → ∃ ad A cap, L.ka = some ad ∧ W.cell? (ad.add q) = some (.slice A t.kids.length cap) ∧ Rd W A (Qj (KI (Zk (q + 1) t.kids)))
 pok : ∀ W, L.Im W → L.p.ok W
 arrs : ∀ W, L.Im W → ∀ (i g : Nat), L.ab[i]? = some g → ∃ (ad : Addr) (t : Int), L.aa = some ad ∧ L.p.V[i]? = some t ∧ W.cell? (ad.add i) = some (.slice (some ⟨g, 0, none⟩) (QY t).toNat (QY t).toNat)
 alen : L.ab.length = L.p.V.length
 pairs : ∀ W, L.Im W → MapB W L.PB Xc
instance {L : Lay} : Coe (LOk L) (LOk0 L) := ⟨LOk.toLOk0⟩
def MRx (L : Lay) (m : Mm) (W : World) : Prop := ∃ fs sv ev, fs.map FrV.f = m.stack ∧ MR L m.s fs sv ev W
theorem Only.trans {A B C : World} {g : Nat} (h : Only g A B) (k : Only g B C) : Only g A C := ⟨k.os.trans h.os, k.tape.trans h.tape, k.output.trans h.output, k.size.trans h.size, fun i hi => (k.block i hi).trans (h.block i hi)⟩
theorem Zx {w w' : World} {base size n : Nat} {e : TypeId} {v : Value} {xs : List Value} {row : Option Nat} (h : w.ownsRow base e size v n xs) (hg : w.grownBy w' row) (hne : row = none ∨ v.ownBlock ≠ row) : w'.ownsRow base e size v n xs := by
 refine h.kept hg ?_;rcases hne with rfl | h
 · cases v.ownBlock <;> simp
 · exact .inr h
theorem ZM {w : World} {b b' s s' n n' : Nat} {e e' : TypeId} {v v' : Value} {xs xs' : List Value} (h : w.ownsRow b e s v n xs) (h' : w.ownsRow b' e' s' v' n' xs') (hne : e ≠ e') : v'.ownBlock = none ∨ v.ownBlock ≠ v'.ownBlock := by
 rcases h'.2 with ⟨rfl, _⟩ | ⟨g, d, c, rfl, _, j, _⟩
 · exact .inl rfl
 · have k : Row w g e' c := j;right;intro i;exact QD h k hne (by rw [i]; rfl)
section
variable {L : Lay} {s : Ms} {fs : List FrV} {sv ev : Value} {W W' : World}
theorem MC.only (h : MC L s fs ev W) (hL : LOk0 L) (o : Only L.M W W') : MC L s fs ev W' := by
 have lo : ∀ {e : TypeId} {size n : Nat} {v : Value} {xs : List Value}, W.ownsRow L.b1 e size v n xs → W'.ownsRow L.b1 e size v n xs := fun h => QB h o (fun e => by have := Q3 h e; have := hL.lt; omega)
 exact ⟨lo h.evs, QB h.vals o (fun e => (hL.vlt _ e).2.1 rfl), fun i g a hi b => (h.arrs i g a hi b).only o (hL.alt g (Lj hi)).2, fun x c => lo (h.fr x c), h.dist,
  hL.im _ _ h.im (.only o (.inr (.inl rfl))), by rw [o.size]; exact h.size, h.sum, h.few⟩
theorem MC.below (h : MC L s fs ev W) (hL : LOk0 L) (b : Below W.heap.size W W') : MC L s fs ev W' :=
 ⟨Qy h.evs b, Qy h.vals b, fun i g a hi ha => (h.arrs i g a hi ha).below b (h.arrs i g a hi ha).lt, fun x hx => Qy (h.fr x hx) b, h.dist, hL.im _ _ h.im (.below (b.mono h.size)), Li h.size b.size, h.sum, h.few⟩
theorem MR.below (h : MR L s fs sv ev W) (hL : LOk L) (b : Below W.heap.size W W') : MR L s fs sv ev W' :=
 ⟨h.row.below b h.row.lt, Qy h.stack b, h.core.below hL b⟩
theorem MR.drew (h : MR L s fs sv ev W) (hL : LOk L) (n : Nat) : MR L s fs sv ev (W.drewN n) := h.below hL ⟨rfl, rfl, rfl, Nat.le_refl _, fun _ _ => rfl⟩
theorem MC.grownStack {n : Nat} {xs : List Value} (h : MC L s fs ev W) (hL : LOk0 L) (hs : W.ownsRow L.b1 187 3 sv n xs) (hg : W.grownBy W' sv.ownBlock) : MC L s fs ev W' :=
 ⟨Zx h.evs hg (ZM h.evs hs (by decide)), Zx h.vals hg (ZM h.vals hs (by decide)), fun i g a hi ha => (h.arrs i g a hi ha).grown hg (QD hs (h.arrs i g a hi ha) (by decide)),
  fun x hx => Zx (h.fr x hx) hg (ZM (h.fr x hx) hs (by decide)), h.dist, hL.im _ _ h.im (.grown hg h.size (fun k e => Q3 hs e)), Li h.size hg.size, h.sum, h.few⟩
theorem MC.grownEvs (h : MC L s fs ev W) (hL : LOk0 L) (hg : W.grownBy W' ev.ownBlock) {s' : Ms} {ev' : Value} (he : W'.ownsRow L.b1 263 3 ev' s'.evs.length (s'.evs.flatMap EvV.cells)) (h1 : s'.vals = s.vals) (h2 : s'.arrs = s.arrs) (h3 : s'.steps = s.steps) (h4 : s'.fuel = s.fuel) (h5 : s'.evs.length + fs.length ≤ s'.steps) : MC L s' fs ev' W' :=
 ⟨he, by rw [h1]; exact Zx h.vals hg (ZM h.vals h.evs (by decide)), fun i g a hi ha => by rw [h2] at ha; exact (h.arrs i g a hi ha).grown hg (QD h.evs (h.arrs i g a hi ha) (by decide)),
  fun x hx => Zx (h.fr x hx) hg (ZM (h.fr x hx) h.evs (by decide)), h.dist, hL.im _ _ h.im (.grown hg h.size (fun k e => Q3 h.evs e)), Li h.size hg.size, by rw [h3, h4]; exact h.sum, h5⟩
theorem MC.state {s' : Ms} (h : MC L s fs ev W) (h1 : s'.vals = s.vals) (h2 : s'.arrs = s.arrs) (h3 : s'.evs = s.evs) (h4 : s'.steps + s'.fuel = L.F) (h5 : s.steps ≤ s'.steps) : MC L s' fs ev W :=
 ⟨by rw [h3]; exact h.evs, by rw [h1]; exact h.vals, by rw [h2]; exact h.arrs, h.fr, h.dist, h.im, h.size, h4, by rw [h3]; have := h.few; omega⟩
end
theorem MR.setM {L : Lay} {s s' : Ms} {fs : List FrV} {sv ev : Value} {W W' : World} (h : MR L s fs sv ev W) (hL : LOk L) (o : Only L.M W W') (hr : Row W' L.M 184 (L.cells s' sv ev))
 (h1 : s'.vals = s.vals) (h2 : s'.arrs = s.arrs) (h3 : s'.evs = s.evs) (h4 : s'.steps + s'.fuel = L.F) (h5 : s.steps ≤ s'.steps) : MR L s' fs sv ev W' :=
 ⟨hr, QB h.stack o (fun e => by have := Q3 h.stack e; have := hL.lt; omega), (h.core.only hL o).state h1 h2 h3 h4 h5⟩
theorem EL (L : Lay) (hL : LOk L) (m : Mm) (k v : Int) (W : World) (h : MRx L m W) : Calls Tryz.prog 110 #[.pointer (some ⟨L.M, 0, none⟩), .int .i64 k, .int .i64 v] W fun e W' => (∃ u, e = .returned u) ∧ MRx L ⟨m.s.stop k v, m.stack⟩ W' ∧ Only L.M W W' := by
 obtain ⟨t, i, ev, c, d⟩ := h;have j := Lv d;have p := d.row;have g : (L.cells m.s i ev).size = 14 := rfl;clear d;go_enter Tryz.func110, Tryz.ntmps110
 go_wp2_with (refine Qp _ _ _ rfl ?_)
 refine Stop.to ?_;refine Qq rfl 52 _ _ rfl L.M 8 rfl _ rfl [.int .i64 k, .int .i64 v] rfl 184 _ _ p (by kernel_rfl) (by show 8 + 2 ≤ 14; omega) (by simp [Value.oneCell']) rfl ?_;intro x o l;go_wp2_with (refine Qp _ _ _ rfl ?_)
 refine Stop.to ?_;refine Qq rfl 4 _ _ rfl L.M 12 rfl _ rfl [.bool true] rfl 184 _ (L.cells (m.s.stop k v) i ev) o (by kernel_rfl) (by show 12 + 1 ≤ 14; omega) (by simp [Value.oneCell']) rfl ?_;intro q w n;have b : Only L.M W q := l.trans n;clear p o l n g;go_wp2
 go_end0
 exact ⟨⟨_, rfl⟩, ⟨t, i, ev, c, j.out.setM hL b w rfl rfl rfl j.out.core.sum (Nat.le_refl _)⟩, b⟩
theorem XN (L : Lay) (hL : LOk L) (m : Mm) (k v : Int) (W : World) (h : MRx L m W) : Calls Tryz.prog 110 #[.pointer (some ⟨L.M, 0, none⟩), .int .i64 k, .int .i64 v] W fun e W' => (∃ u, e = .returned u) ∧ MRx L ⟨m.s.stop k v, m.stack⟩ W' ∧ Chg L W W' :=
 (EL L hL m k v W h).mono fun _ _ h => ⟨h.1, h.2.1, .only h.2.2 (.inr (.inl rfl))⟩
theorem AeB : (Tryz.prog.info? 187).map (fun i => (i.zero, i.size, i.bytes)) = some (some (.agg #[.int .i64 0, .int .i64 0, .slice none 0 0]), 3, 40) := by kernel_rfl
theorem Xq (fs : List FrV) : (fs.flatMap FrV.cells).length = fs.length * 3 := by
 induction fs with
 | nil => rfl
 | cons x fs ih => simp only [LI, Lf, Le, ih]; simp [FrV.cells]; omega
theorem Kg {w : World} {base n size : Nat} {e : TypeId} {v : Value} {xs : List Value} (h : w.ownsRow base e size v n xs) : v.oneCell' = true := by
 rcases h.2 with ⟨rfl, _⟩ | ⟨g, b, c, rfl, _⟩ <;> rfl
theorem MC.push {L : Lay} {s : Ms} {fs : List FrV} {ev : Value} {W : World} (h : MC L s fs ev W) (hf : 0 < s.fuel) (q : Nat) (t : Tr) : MC L s.tick (⟨⟨q, t, 0, []⟩, .slice none 0 0⟩ :: fs) ev W :=
 ⟨h.evs, h.vals, h.arrs, fun x hx => by
  rcases L2.1 hx with rfl | hx
  · exact World.ownsRow_nil _ _ _ _
  · exact h.fr x hx,
 Nl.2 ⟨fun _ _ => .inl rfl, h.dist⟩, h.im, h.size, by have := h.sum; simp only [Ms.tick]; omega, by have := h.few; simp only [Ms.tick, Le]; omega⟩
theorem Aka (x : FrV) (h : x.v.oneCell' = true) : ∀ u ∈ x.cells, u.oneCell' = true := by
 intro u b;simp only [FrV.cells, L2, L9, or_false] at b;rcases b with rfl | rfl | rfl
 · rfl
 · rfl
 · exact h
theorem Y8 (L : Lay) (hL : LOk L) (m : Mm) (q : Nat) (t : Tr) (W : World) (h : MRx L m W) : Calls Tryz.prog 111 #[.pointer (some ⟨L.M, 0, none⟩), .int .i64 (q : Int)] W fun e W' => (∃ u, e = .returned u) ∧ MRx L (Z0 q t m) W' ∧ Chg L W W' := by
 obtain ⟨z, sv, ev, l, o⟩ := h;have ac := fun n => XN L hL m 4 0 (W.drewN n) ⟨z, sv, ev, l, o.drew hL n⟩
 have w := Lv ac;have af := Lv l;have Hm := Lv o;have j := Lv hL;have ah := o.row.cellv (i := 10) (v := .int .i64 (m.s.steps : Int)) rfl;have c6 := o.row.cellv (i := 6) (v := .int .i64 (L.F : Int)) rfl;have ad := o.core.sum;have aa := o.core.few;have hF := hL.F;clear o ac hL l;by_cases h0 : m.s.fuel = 0
 · have he : ((m.s.steps : Int) == (L.F : Int)) = true := by simp; omega
   have Hz : Hid (Z0 q t m = ⟨m.s.stop 4 0, m.stack⟩) := by show _ = _; unfold Z0; rw [if_pos h0]
   clear ad aa h0;go_enter Tryz.func111, Tryz.ntmps111
   go_wp2_with fail
   go_quiet (fail)
   go_wp2_with fail
   refine (w.out nq).mono ?_;rintro e W2 ⟨⟨u, rfl⟩, h2, g2⟩;have gd : Chg L W (W.drewN nq) := ⟨rfl, rfl, rfl, Nat.le_refl _, fun _ _ _ _ _ => rfl⟩;have G2 := Lv (gd.trans g2);have H2 := Lv h2;clear h2 g2 gd;go_wp2
   refine bodyPost_ret (results_none rfl _ _ _) rfl ?_;exact ⟨⟨_, rfl⟩, by rw [Hz.out]; exact H2.out, G2.out⟩
 · have he : ((m.s.steps : Int) == (L.F : Int)) = false := by simp; omega
   have Hz : Hid (Z0 q t m = ⟨m.s.tick, ⟨q, t, 0, []⟩ :: m.stack⟩) := by show _ = _; unfold Z0; rw [if_neg h0]
   have ai : 0 < m.s.fuel := by omega
   obtain ⟨i0, ak, am, an, ao⟩ := info_parts AeB;clear h0 w;go_enter Tryz.func111, Tryz.ntmps111
   go_wp2_with fail
   go_quiet (fail)
   have hd : Below W.heap.size W (W.drewN nq) := ⟨rfl, rfl, rfl, Nat.le_refl _, fun _ _ => rfl⟩;have Hd := Lv hd;have ag := Lv Hm.out.core.size;have b := Lv (Hm.out.drew j.out nq);clear Hm hd;generalize W.drewN nq = W0 at b Hd ⊢;have rM := b.out.row;have y := rM.cellv (i := 10) (v := .int .i64 (m.s.steps : Int)) rfl;have al : (m.s.steps : Int) + 1 ≤ 20001 := by omega
   clear ah c6;go_wp2_with (refine Qp _ _ _ rfl ?_)
   refine Stop.to ?_;refine Qq rfl 3 _ _ rfl L.M 10 rfl _ rfl [.int .i64 ((m.s.steps : Int) + 1)] rfl 184 _ (L.cells m.s.tick sv ev) rM (by kernel_rfl) (by show 10 + 1 ≤ 14; omega) (by simp [Value.oneCell']) (by rfl) ?_;intro x r1 o1;have k1 := b.out.core.only j.out o1;have s1 := QB b.out.stack o1 (fun e => by have := Q3 b.out.stack e; have := j.out.lt; omega);have g1 := Chg.only (L := L) o1 (.inr (.inl rfl));have K1 := Lv k1;have S1 := Lv s1;have G1 := Lv ((Chg.below (L := L) (Hd.out.mono ag.out)).trans g1);clear rM y o1 k1 s1 g1 b;have c7 := r1.cellv (i := 7) (v := sv) rfl;have ha := S1.out.alloc (.cells (FrV.cells ⟨⟨q, t, 0, []⟩, .slice none 0 0⟩).toArray 187);have p := Lv ha;have ae := K1.out.size;have ap : z.length ≤ 20001 := by omega
   clear ha;go_wp2_with (at_builtin; refine wpList_append_own_at _ rfl (.tmp 29) (.tmp 32) 181 rfl L.b1 187 i0 _ 3 40 Tryz.underlying181 ak am an ao rfl (by decide) sv z.length (z.reverse.flatMap FrV.cells) rfl p.out ⟨x.heap.size, 0, none⟩ 1 1 (FrV.cells ⟨⟨q, t, 0, []⟩, .slice none 0 0⟩) rfl rfl (JK _ _ _) (Aka _ rfl) (by unfold maxLen; omega) (by omega) (by simp; omega) ?_)
   intro g W3 d hg _ aj;have b2 : Below x.heap.size x (x.alloc (.cells (FrV.cells ⟨⟨q, t, 0, []⟩, .slice none 0 0⟩).toArray 187)) := (Below.refl _ _).alloc (Nat.le_refl _) _;have k3 := (K1.out.below j.out b2).grownStack j.out p.out hg;have r3 := (r1.alloc (.cells (FrV.cells ⟨⟨q, t, 0, []⟩, .slice none 0 0⟩).toArray 187)).grown hg (QD p.out (r1.alloc _) (by decide));have g3 : Chg L x W3 := (Chg.below (L := L) (b2.mono ae)).trans (.grown hg (by simp; omega) (fun k e => Q3 p.out e));have G3 := Lv (G1.out.trans g3);have K3 := Lv k3;have c := Lv d;have ab := Kg d;clear d hg aj b2 k3 g3 p G1 K1 S1 r1 c7;go_wp2_with (refine Qp _ _ _ rfl ?_)
   refine Stop.to ?_;refine Qq rfl 181 _ _ rfl L.M 7 rfl _ rfl [g] (by cases g <;> first | rfl | cases ab) 184 _ (L.cells m.s.tick g ev) r3 (by kernel_rfl) (by show 7 + 1 ≤ 14; omega) (by simpa using ab) (by rfl) ?_
   intro W4 r4 o4;have k4 := (K3.out.only j.out o4).push ai q t;have s4 := QB c.out o4 (fun e => by have := Q3 c.out e; have := j.out.lt; omega);have K4 := Lv k4;have S4 := Lv s4;have G4 := Lv (G3.out.trans (.only o4 (.inr (.inl rfl))));clear o4 k4 s4 r3 K3 c G3;go_wp2
   go_end0
   refine ⟨⟨_, rfl⟩, ?_, G4.out⟩;rw [Hz.out];refine ⟨_ :: z, g, ev, by rw [← af.out]; rfl, r4, ?_, K4.out⟩;have := S4.out;rw [List.reverse_cons, LD];simpa using this
structure Top (L : Lay) (W : World) (x : FrV) (r : List FrV) (sv : Value) (SB cap : Nat) (cur : Array Value) : Prop where
 sve : sv = .slice (some ⟨SB, 0, none⟩) (r.length + 1) cap
 row : Row W SB 187 cur
 size : cur.size = cap * 3
 le : r.length + 1 ≤ cap
 max : cap ≤ maxLen
 lo : L.b1 ≤ SB
 low : cur.toList.take (r.length * 3) = r.reverse.flatMap FrV.cells
 top : (cur.toList.drop (r.length * 3)).take 3 = x.cells
section
variable {L : Lay} {W W' : World} {x x' : FrV} {r fs : List FrV} {sv ev : Value} {SB cap : Nat} {cur : Array Value} {s s' : Ms}
theorem Acd (h : W.ownsRow L.b1 187 3 sv (x :: r).length ((x :: r).reverse.flatMap FrV.cells)) : ∃ SB cap cur, Top L W x r sv SB cap cur := by
 rcases h.2 with ⟨_, e⟩ | ⟨g, cap, cur, rfl, i, k, j, m, c, d⟩
 · simp at e
 · rw [List.reverse_cons, LD, Le] at d;have n : (r.reverse.flatMap FrV.cells).length = r.length * 3 := by rw [Xq, NQ]
   have b : cur.toList.take (r.length * 3) = r.reverse.flatMap FrV.cells := by
    have := congrArg (List.take (r.length * 3)) d;rw [NL, NT (by omega), Nx (by omega), LA (l := r.reverse.flatMap FrV.cells) (by omega)] at this;exact this
   refine ⟨g, cap, cur, rfl, k, c, j, m, i, b, ?_⟩;have := congrArg (List.drop (r.length * 3)) d;rw [List.drop_take, List.drop_append_of_le_length (by omega), NE (show (r.reverse.flatMap FrV.cells).length ≤ r.length * 3 by omega), Lp] at this;rw [show (r.length + 1) * 3 - r.length * 3 = 3 by omega] at this;simpa using this
theorem Top.own (h : Top L W x r sv SB cap cur) : W.ownsRow L.b1 187 3 sv (r.length + 1) ((x :: r).reverse.flatMap FrV.cells) := by
 have b : (r.reverse.flatMap FrV.cells).length = r.length * 3 := by rw [Xq, NQ]
 refine ⟨by rw [Xq, NQ, Le], .inr ⟨SB, cap, cur, h.sve, h.lo, h.row, h.le, h.max, h.size, ?_⟩⟩;rw [List.reverse_cons, LD, show (r.length + 1) * 3 = r.length * 3 + 3 by omega, List.take_add, h.low, h.top];simp
theorem Top.cell (h : Top L W x r sv SB cap cur) (j : Nat) (u : Value) (hu : x.cells[j]? = some u) : W.cell? ⟨SB, r.length * 3 + j, none⟩ = some u := by
 refine h.row.cellv ?_;have b : j < 3 := by have := (Ld.1 hu).1; simpa [FrV.cells] using this
 rw [← h.top, LV b, Nv] at hu;rw [← Nk]; exact hu
theorem Top.pop (h : Top L W x r sv SB cap cur) : W.ownsRow L.b1 187 3 (.slice (some ⟨SB, 0, none⟩) r.length cap) r.length (r.reverse.flatMap FrV.cells) :=
 ⟨by rw [Xq, NQ], .inr ⟨SB, cap, cur, rfl, h.lo, h.row, by have := h.le; omega, h.max, h.size, h.low⟩⟩
theorem Top.hi (h : Top L W x r sv SB cap cur) : r.length * 3 + 3 ≤ cur.size := by have := h.size; have := h.le; omega
theorem Top.put (h : Top L W x r sv SB cap cur) {j : Nat} {u : Value} (hj : j < 3) (hx : x'.cells = x.cells.set j u) (hr : Row W' SB 187 (ZQ cur (r.length * 3 + j) [u])) : Top L W' x' r sv SB cap (ZQ cur (r.length * 3 + j) [u]) := by
 have b := h.hi
 have e : (ZQ cur (r.length * 3 + j) [u]).toList = cur.toList.set (r.length * 3 + j) u := by
  unfold ZQ;simp only [Ni];rw [List.set_eq_take_append_cons_drop, if_pos (by simp; omega)]; simp
 refine ⟨h.sve, hr, ?_, h.le, h.max, h.lo, ?_, ?_⟩
 · rw [← h.size, ← Nf, e]; simp
 · rw [e, List.take_set_of_le (by omega)]; exact h.low
 · rw [e, List.drop_set, if_neg (by omega), show r.length * 3 + j - r.length * 3 = j by omega, List.take_set, h.top, hx]
theorem Top.below (h : Top L W x r sv SB cap cur) (b : Below W.heap.size W W') : Top L W' x r sv SB cap cur := ⟨h.sve, h.row.below b h.row.lt, h.size, h.le, h.max, h.lo, h.low, h.top⟩
theorem Alb {n : Nat} {v : Value} {xs : List Value} {e : TypeId} {size : Nat} (hL : LOk L) (h : W.ownsRow L.b1 e size v n xs) : v.ownBlock = none ∨ L.vv.ownBlock ≠ v.ownBlock := by
 cases hv : v.ownBlock with
 | none => exact .inl rfl
 | some g => exact .inr (fun e => by have := (hL.vlt g e).1; have := Q3 h hv; omega)
theorem MC.grownTop (h : MC L s (x :: r) ev W) (hL : LOk L) (hg : W.grownBy W' x.v.ownBlock) (hx : W'.ownsRow L.b1 3 1 x'.v x'.f.vals.length (Qj x'.f.vals)) (hat : x'.v.ownBlock = x.v.ownBlock ∨ x'.v.ownBlock = some W.heap.size) : MC L s (x' :: r) ev W' := by
 have b := h.fr x (by simp);have j := Nl.1 h.dist
 refine ⟨Zx h.evs hg (ZM h.evs b (by decide)), Zx h.vals hg (Alb hL b), fun i g a hi l => (h.arrs i g a hi l).grown hg (fun e => ?_), fun y d => ?_, Nl.2 ⟨fun y d => ?_, j.2⟩,
  hL.im _ _ h.im (.grown hg h.size (fun k e => Q3 b e)), Li h.size hg.size, h.sum, by have := h.few; simpa using this⟩
 · have c := (hL.alt g (Lj hi)).1;have := Q3 b e;omega
 · rcases L2.1 d with rfl | d
   · exact hx
   · exact Zx (h.fr y (by simp [d])) hg (by
      rcases j.1 y d with c | c
      · exact .inl c
      · exact .inr (fun e => c e.symm))
 · rcases hat with c | c
   · rw [c]; exact j.1 y d
   · rw [c];right;intro e;have := (h.fr y (by simp [d])).lt _ e.symm;omega
end
theorem MC.onlyStack {L : Lay} {s : Ms} {fs : List FrV} {ev : Value} {W W' : World} {SB : Nat} {cur : Array Value} (h : MC L s fs ev W) (hL : LOk L) (o : Only SB W W') (hr : Row W SB 187 cur) (hlo : L.b1 ≤ SB) : MC L s fs ev W' :=
 ⟨QB h.evs o (QD h.evs hr (by decide)), QB h.vals o (QD h.vals hr (by decide)), fun i g a hi ha => (h.arrs i g a hi ha).only o (fun e => by have := (hL.alt g (Lj hi)).1; omega),
  fun x hx => QB (h.fr x hx) o (QD (h.fr x hx) hr (by decide)), h.dist, hL.im _ _ h.im (.only o (.inl hlo)), by rw [o.size]; exact h.size, h.sum, h.few⟩
theorem Aa8 : (Tryz.prog.info? 3).map (fun i => (i.zero, i.size, i.bytes)) = some (some (.int .i64 0), 1, 8) := by kernel_rfl
theorem Jm (L : Lay) (hL : LOk L) (s : Ms) (f : Fr) (r : List Fr) (v : Int) (W : World) (h : MRx L ⟨s, f :: r⟩ W) (hv : f.vals.length ≤ 1000) : Calls Tryz.prog 145 #[.pointer (some ⟨L.M, 0, none⟩), .int .i64 v] W fun e W' => (∃ u, e = .returned u) ∧ MRx L ⟨s, f.told v :: r⟩ W' ∧ Chg L W W' := by
 obtain ⟨fs, sv, ev, p, w⟩ := h
 obtain ⟨x, o, rfl⟩ : ∃ x o, fs = x :: o := by cases fs with
  | nil => simp at p
  | cons x o => exact ⟨x, o, rfl⟩
 simp only [LQ, NG] at p;obtain ⟨rfl, rfl⟩ := p;obtain ⟨SB, ai, ac, ht⟩ := Acd w.stack;obtain ⟨i0, ak, am, an, ao⟩ := info_parts Aa8;have Hm := Lv w;have z := Lv hL;have Ht := Lv ht;have c7 := w.row.cellv (i := 7) (v := sv) rfl;rw [ht.sve] at c7;have m := w.core.few;have n := w.core.sum;have hF := hL.F;have ap : o.length ≤ 20001 := by simp at m; dsimp only at n; omega
 clear w hL ht m n hF;go_enter Tryz.func145, Tryz.ntmps145
 go_wp2_with fail
 go_quiet (fail)
 have hd : Below W.heap.size W (W.drewN nq) := ⟨rfl, rfl, rfl, Nat.le_refl _, fun _ _ => rfl⟩;have gd : Chg L W (W.drewN nq) := ⟨rfl, rfl, rfl, Nat.le_refl _, fun _ _ _ _ _ => rfl⟩;have d := Hm.out.below z.out hd;have l := Ht.out.below hd;have Gd := Lv gd;clear Hm Ht c7 hd gd;generalize W.drewN nq = W0 at d l Gd ⊢;have cv := l.cell 2 x.v rfl;have ah := d.core.fr x (by simp);have aj := d.core.size;have ha := ah.alloc (.cells #[.int .i64 v] 3);have y := Lv ha;have aa := Lv d;have ab := Lv l;clear ha ah d l;go_wp2_with (at_builtin; refine wpList_append_own_at _ rfl (.tmp 20) (.tmp 22) 22 rfl L.b1 3 i0 (.int .i64 0) 1 8 Tryz.underlying22 ak am an ao rfl (by decide) x.v x.f.vals.length (Qj x.f.vals) rfl y.out ⟨W0.heap.size, 0, none⟩ 1 1 (Qj [v]) rfl rfl (JK _ _ _) (Jl _) (by unfold maxLen; omega) (by omega) (by simp; omega) ?_)
 intro t W1 c hg _ ae;have b1 : Below W0.heap.size W0 (W0.alloc (.cells #[.int .i64 v] 3)) := (Below.refl _ _).alloc (Nat.le_refl _) _;have g := aa.out.below z.out b1;have b := ab.out.below b1;have k2 := g.core.grownTop (x' := ⟨x.f.told v, t⟩) z.out hg (by rw [← KD] at c; simpa [Fr.told] using c) (by simpa using ae);have r2 := g.row.grown hg (QD y.out g.row (by decide));have t2 : Row W1 SB 187 ac := b.row.grown hg (QD y.out b.row (by decide));have ag : Top L W1 x o sv SB ai ac := ⟨b.sve, t2, b.size, b.le, b.max, b.lo, b.low, b.top⟩;have g2 := (Gd.out.trans (Chg.below (L := L) (b1.mono aj))).trans (.grown hg (by simp; omega) (fun k e => Q3 y.out e));have af := Kg c;have K2 := Lv k2;have R2 := Lv r2;have q := Lv ag;have G2 := Lv g2;clear c hg ae b1 g b k2 r2 t2 ag g2 y aa ab Gd cv;go_wp2_with (refine Qp _ _ _ rfl ?_)
 refine Stop.to ?_;refine Qq rfl 22 _ _ rfl SB (o.length * 3 + 2) rfl _ rfl [t] (by cases t <;> first | rfl | cases af) 187 _ _ q.out.row (by kernel_rfl) (by have := q.out.hi; simp; omega) (by simpa using af) rfl ?_
 intro W3 r3 o3;have ad := q.out.lo;have t3 := q.out.put (x' := ⟨x.f.told v, t⟩) (j := 2) (u := t) (by decide) rfl r3;have al : SB ≠ L.M := by have := z.out.lt; omega
 have m3 : MR L s (⟨x.f.told v, t⟩ :: o) sv ev W3 := by
  refine ⟨R2.out.only o3 (fun e => al e.symm), t3.own, ?_⟩;exact K2.out.onlyStack z.out o3 q.out.row ad
 have M3 := Lv m3;have G3 := Lv (G2.out.trans (.only o3 (.inl ad)));clear m3 t3 o3 r3 R2 q K2 G2;go_wp2
 go_end0
 exact ⟨⟨_, rfl⟩, ⟨_, sv, ev, rfl, M3.out⟩, G3.out⟩
theorem KX (b : Bool) (w : World) : Calls Tryz.prog 183 #[.bool b] w fun e w' => e = .returned (.int .i64 (tr b)) ∧ w = w' := by
 cases b
 all_goals
  go_enter Tryz.func183, Tryz.ntmps183
  go_wp2
  go_ret
  exact ⟨rfl, rfl⟩
theorem U8 (tag a b c : Int) (f : Nat) (w : World) (hf : JB tag Xc = some (fnV f)) (hp : Jd tag a b = some c) : Calls Tryz.prog f #[.int .i64 a, .int .i64 b] w fun e w' => e = .returned (.int .i64 c) ∧ w = w' := by
 have i : tag = 7 ∨ tag = 8 ∨ tag = 9 ∨ tag = 12 ∨ tag = 13 ∨ tag = 14 ∨ tag = 15 ∨ tag = 16 ∨ tag = 17 ∨ tag = 10 ∨ tag = 11 := by
  unfold Xc at hf;simp only [JB] at hf
  repeat' split at hf
  all_goals (first | (cases hf; done) | omega)
 rcases i with rfl | rfl | rfl | rfl | rfl | rfl | rfl | rfl | rfl | rfl | rfl
 all_goals
  have h := hf
  simp [Xc, JB, fnV] at h
  subst h
  clear hf
 · have d : wrap64 (a + b) = c := by simpa [Jd] using hp
   subst d; clear hp;go_enter Tryz.func179, Tryz.ntmps179
   go_wp2
   go_ret
   exact ⟨Q1 rfl, rfl⟩
 · have d : wrap64 (a - b) = c := by simpa [Jd] using hp
   subst d; clear hp;go_enter Tryz.func180, Tryz.ntmps180
   go_wp2
   go_ret
   exact ⟨Q1 rfl, rfl⟩
 · have d : wrap64 (a * b) = c := by simpa [Jd] using hp
   subst d; clear hp;go_enter Tryz.func181, Tryz.ntmps181
   go_wp2
   go_ret
   exact ⟨Q1 rfl, rfl⟩
 · have d : tr (decide (a = b)) = c := by simpa [Jd] using hp
   clear hp;go_enter Tryz.func182, Tryz.ntmps182
   go_wp2_with fail
   refine (KX _ _).mono ?_;rintro e w' ⟨rfl, rfl⟩;go_wp2
   go_ret
   exact ⟨Q1 (by rw [← d]; all_goals (first | (congr 1; done) | (congr 1; rw [Nz]; simp))), rfl⟩
 · have d : tr (decide (a ≠ b)) = c := by simpa [Jd] using hp
   clear hp;go_enter Tryz.func184, Tryz.ntmps184
   go_wp2_with fail
   refine (KX _ _).mono ?_;rintro e w' ⟨rfl, rfl⟩;go_wp2
   go_ret
   exact ⟨Q1 (by rw [← d]; all_goals (first | (congr 1; done) | (congr 1; rw [Nz]; simp))), rfl⟩
 · have d : tr (decide (a < b)) = c := by simpa [Jd] using hp
   clear hp;go_enter Tryz.func185, Tryz.ntmps185
   go_wp2_with fail
   refine (KX _ _).mono ?_;rintro e w' ⟨rfl, rfl⟩;go_wp2
   go_ret
   exact ⟨Q1 (by rw [← d]; all_goals (first | (congr 1; done) | (congr 1; rw [Nz]; simp))), rfl⟩
 · have d : tr (decide (a ≤ b)) = c := by simpa [Jd] using hp
   clear hp;go_enter Tryz.func186, Tryz.ntmps186
   go_wp2_with fail
   refine (KX _ _).mono ?_;rintro e w' ⟨rfl, rfl⟩;go_wp2
   go_ret
   exact ⟨Q1 (by rw [← d]; all_goals (first | (congr 1; done) | (congr 1; rw [Nz]; simp))), rfl⟩
 · have d : tr (decide (b < a)) = c := by simpa [Jd] using hp
   clear hp;go_enter Tryz.func187, Tryz.ntmps187
   go_wp2_with fail
   refine (KX _ _).mono ?_;rintro e w' ⟨rfl, rfl⟩;go_wp2
   go_ret
   exact ⟨Q1 (by rw [← d]; all_goals (first | (congr 1; done) | (congr 1; rw [Nz]; simp))), rfl⟩
 · have d : tr (decide (b ≤ a)) = c := by simpa [Jd] using hp
   clear hp;go_enter Tryz.func188, Tryz.ntmps188
   go_wp2_with fail
   refine (KX _ _).mono ?_;rintro e w' ⟨rfl, rfl⟩;go_wp2
   go_ret
   exact ⟨Q1 (by rw [← d]; all_goals (first | (congr 1; done) | (congr 1; rw [Nz]; simp))), rfl⟩
 · by_cases g : b = 0
   · simp [Jd, g] at hp
   have d : wrap64 (a.tdiv b) = c := by simpa [Jd, g] using hp
   subst d; clear hp;go_enter Tryz.func189, Tryz.ntmps189
   go_wp2
   go_ret
   exact ⟨Q1 rfl, rfl⟩
 · by_cases g : b = 0
   · simp [Jd, g] at hp
   have d : a.tmod b = c := by simpa [Jd, g] using hp
   subst d; clear hp;go_enter Tryz.func190, Tryz.ntmps190
   go_wp2
   go_ret
   exact ⟨Q1 rfl, rfl⟩
theorem Aco {w : World} : (zeroValue 144).run Tryz.prog w = .ok Value.nilFunc w := by kernel_rfl
theorem Ado (L : Lay) (hL : LOk L) (m : Mm) (tag a b : Int) (W : World) (h : MRx L m W) (hp : Jd tag a b = none) : Calls Tryz.prog 148 #[.pointer (some ⟨L.M, 0, none⟩), .int .i64 tag, .int .i64 a, .int .i64 b] W fun e W' => (∃ u, e = .returned u) ∧ MRx L ⟨m.s.stop 1 0, m.stack⟩ W' ∧ Chg L W W' := by
 have c := XN L hL m 1 0 W h;have d := Lv c
 have l : b = 0 ∧ (tag = 10 ∨ tag = 11) := by
  unfold Jd at hp
  repeat' split at hp
  all_goals (first | (cases hp; done) | (refine ⟨?_, ?_⟩ <;> first | assumption | omega))
 obtain ⟨rfl, n⟩ := l;clear c h hp hL;rcases n with rfl | rfl
 all_goals
  go_enter Tryz.func148, Tryz.ntmps148
  go_wp2_with fail
  refine d.out.mono ?_
  rintro e o ⟨⟨u, rfl⟩, i, g⟩
  have j := Lv g
  have k := Lv i
  clear i g
  go_wp2
  refine bodyPost_ret (results_none rfl _ _ _) rfl ?_
  exact ⟨⟨_, rfl⟩, k.out, j.out⟩
theorem Agv (L : Lay) (hL : LOk L) (s : Ms) (f : Fr) (r : List Fr) (tag a b c : Int) (W : World) (h : MRx L ⟨s, f :: r⟩ W) (hv : f.vals.length ≤ 1000) (ht : 7 ≤ tag ∧ tag ≤ 17) (hp : Jd tag a b = some c) : Calls Tryz.prog 148 #[.pointer (some ⟨L.M, 0, none⟩), .int .i64 tag, .int .i64 a, .int .i64 b] W fun e W' => (∃ u, e = .returned u) ∧ MRx L ⟨s, f.told c :: r⟩ W' ∧ Chg L W W' := by
 obtain ⟨fs, sv, ev, q, x⟩ := h;have w := Jm L hL s f r c W ⟨fs, sv, ev, q, x⟩ hv;have t := hL.pairs W x.core.im;have m := Lv w;have l := Lv t;have aa := x.row.cellv (i := 13) (v := .map (some L.PB)) rfl;have n : tag = 7 ∨ tag = 8 ∨ tag = 9 ∨ tag = 12 ∨ tag = 13 ∨ tag = 14 ∨ tag = 15 ∨ tag = 16 ∨ tag = 17 ∨ tag = 10 ∨ tag = 11 := by omega
 clear w x t hL q ht;rcases n with rfl | rfl | rfl | rfl | rfl | rfl | rfl | rfl | rfl | rfl | rfl
 iterate 9
  · by_cases k : b = 0
    · have z : (b == 0) = true := by simpa using k
      clear k
      have d := Lv (U8 _ a b c _ W rfl hp)
      clear hp
      go_enter Tryz.func148, Tryz.ntmps148
      go_wp2_with (refine ZN rfl _ _ rfl Tryz.underlying182 Tryz.underlying3 l.out rfl _ rfl Aco ?_; simp only [Xc, JB, fnV, LZ, Int.reduceEq, if_false, if_true])
      refine d.out.mono ?_
      rintro e w' ⟨rfl, rfl⟩
      go_wp2_with fail
      refine m.out.mono ?_
      rintro e y ⟨⟨u, rfl⟩, j, g⟩
      have o := Lv g
      have p := Lv j
      clear j g
      go_wp2
      go_end0
      exact ⟨⟨_, rfl⟩, p.out, o.out⟩
    · have z : (b == 0) = false := by simpa using k
      clear k
      have d := Lv (U8 _ a b c _ W rfl hp)
      clear hp
      go_enter Tryz.func148, Tryz.ntmps148
      go_wp2_with (refine ZN rfl _ _ rfl Tryz.underlying182 Tryz.underlying3 l.out rfl _ rfl Aco ?_; simp only [Xc, JB, fnV, LZ, Int.reduceEq, if_false, if_true])
      refine d.out.mono ?_
      rintro e w' ⟨rfl, rfl⟩
      go_wp2_with fail
      refine m.out.mono ?_
      rintro e y ⟨⟨u, rfl⟩, j, g⟩
      have o := Lv g
      have p := Lv j
      clear j g
      go_wp2
      go_end0
      exact ⟨⟨_, rfl⟩, p.out, o.out⟩
 all_goals
  by_cases k : b = 0
  · subst k; simp [Jd] at hp
  have z : (b == 0) = false := by simpa using k
  clear k
  have d := Lv (U8 _ a b c _ W rfl hp)
  clear hp
  go_enter Tryz.func148, Tryz.ntmps148
  go_wp2_with (refine ZN rfl _ _ rfl Tryz.underlying182 Tryz.underlying3 l.out rfl _ rfl Aco ?_; simp only [Xc, JB, fnV, LZ, Int.reduceEq, if_false, if_true])
  refine d.out.mono ?_
  rintro e w' ⟨rfl, rfl⟩
  go_wp2_with fail
  refine m.out.mono ?_
  rintro e y ⟨⟨u, rfl⟩, j, g⟩
  have o := Lv g
  have p := Lv j
  clear j g
  go_wp2
  go_end0
  exact ⟨⟨_, rfl⟩, p.out, o.out⟩
end Go.Proofs.YtkoikjnlpifbjaaGreat
