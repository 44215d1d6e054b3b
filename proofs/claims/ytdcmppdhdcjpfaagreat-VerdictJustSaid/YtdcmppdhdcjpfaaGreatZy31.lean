/- Lemmas for VerdictJustP. -/
import Derived.Test.YtdcmppdhdcjpfaaGreatZy1
import Derived.Test.YtdcmppdhdcjpfaaGreatZy22
import Derived.Test.YtdcmppdhdcjpfaaGreatZy23
import Derived.Test.YtdcmppdhdcjpfaaGreatZy28
import Derived.Test.YtdcmppdhdcjpfaaGreatZy30
import Derived.Test.YtdcmppdhdcjpfaaGreatZy18
import Derived.Test.YtdcmppdhdcjpfaaGreatZy17
set_option linter.unusedVariables false
set_option linter.unusedSimpArgs false
set_option maxRecDepth 100000
set_option maxHeartbeats 16000000
namespace Go.Proofs.YtdcmppdhdcjpfaaGreat
open Go.RowKit Go.Deep
theorem XX {p q : PgV} (h1 : p.params = q.params) (h2 : p.V = q.V) (h3 : p.body = q.body) {t : Tr} : Good p t ↔ Good q t := by
 obtain ⟨a, b, c, d, e, f, g⟩ := p;obtain ⟨i, j, k, l, m, n, o⟩ := q;simp only at h1 h2 h3;subst h1 h2 h3;exact ⟨fun h => ⟨h.hat, h.size, h.vars, h.tag, h.kind⟩, fun h => ⟨h.hat, h.size, h.vars, h.tag, h.kind⟩⟩
theorem Abl {p q : PgV} (h1 : p.params = q.params) (h2 : p.V = q.V) (h3 : p.body = q.body) (n : Nat) (fuel : Int) : Q2 p n fuel = Q2 q n fuel := by
 by_cases h : ∃ t, Good p t
 · obtain ⟨t, c⟩ := h;rw [KF c, KF ((XX h1 h2 h3).1 c), h1]
 · rw [JL fun t c => h ⟨t, c⟩, JL fun t c => h ⟨t, (XX h1 h2 h3).2 c⟩]
theorem EU {p q : PgV} (h1 : p.params = q.params) (h2 : p.V = q.V) (h3 : p.body = q.body) (args : List Int) (fuel : Int) : Q8 p args fuel = Q8 q args fuel := by
 have d := Abl h1 h2 h3 args.length fuel
 have c : ∀ s, IsRun p args fuel s ↔ IsRun q args fuel s := fun s => by
  unfold IsRun;rw [h2];exact ⟨fun ⟨t, v, s', a, b⟩ => ⟨t, v, s', (XX h1 h2 h3).1 a, b⟩, fun ⟨t, v, s', a, b⟩ => ⟨t, v, s', (XX h1 h2 h3).2 a, b⟩⟩
 by_cases h : Q2 p args.length fuel = 0
 · by_cases k : ∃ s, IsRun p args fuel s
   · obtain ⟨s, k⟩ := k;rw [AbR h k, AbR (d ▸ h) ((c s).1 k)]
   · unfold Q8;rw [dif_neg (fun x => k x.2), dif_neg (fun x => k (x.2.imp fun s g => (c s).2 g))]
 · rw [YJ h, YJ (fun e => h (d.trans e))]
noncomputable def rnZ (p : PgV) (fuel : Int) (args : List Int) : Rn := ⟨((Q8 p args fuel).out.getD (0, 0)).1, ((Q8 p args fuel).out.getD (0, 0)).2, AcB ((Q8 p args fuel).rv none 0)⟩
theorem XK {p q : PgV} (h1 : p.params = q.params) (h2 : p.V = q.V) (h3 : p.body = q.body) (fuel : Int) : rnZ p fuel = rnZ q fuel := by
 funext args;unfold rnZ;rw [EU h1 h2 h3]
noncomputable def KQ (p : PgV) (d : Dl) : PgV := ⟨p.params, none, 0, p.V, none, 0, Agh p d⟩
theorem IsMut.rn {p m : PgV} {d : Dl} (h : IsMut p d m) (fuel : Int) : rnZ m fuel = rnZ (KQ p d) fuel := XK (q := KQ p d) h.par h.vars h.body fuel
theorem IsMut.run {p m : PgV} {d : Dl} (h : IsMut p d m) (args : List Int) (fuel : Int) : Q8 m args fuel = Q8 (KQ p d) args fuel := EU (q := KQ p d) h.par h.vars h.body args fuel
noncomputable def K9 (p : PgV) (d : Dl) (ts : List (List Int)) (fuel : Int) : Mt := Zp (rnZ p fuel) (rnZ (KQ p d) fuel) d ts
noncomputable def KD (p : PgV) (ts : List (List Int)) (fuel : Int) : Int := if Zg p ≠ 0 then Zg p else J8 p.params ts fuel
noncomputable def Zv (p : PgV) (d : Dl) (ts : List (List Int)) (fuel : Int) : Int := if KD p ts fuel ≠ 0 then KD p ts fuel else YW p d
theorem AgD {params fuel : Int} {ts : List (List Int)} (h : J8 params ts fuel = 0) : 1 ≤ ts.length ∧ ts.length ≤ 20 ∧ (∀ l ∈ ts, (l.length : Int) = params) ∧ 1 ≤ fuel ∧ fuel ≤ 10000 := by
 unfold J8 at h;split at h
 · cases h
 · split at h
   · split at h
     · cases h
     · rename_i d c e;exact ⟨by omega, by omega, c, by omega, by omega⟩
   · cases h
section
variable {α : Type} {f g : α → Rn}
theorem Afe {pre rest : List α} {x : α} : ((pre ++ x :: rest).map g).getD pre.length ⟨0, 0, []⟩ = g x := by
 rw [LG, L8, Lu (Nat.le_refl _), Nu]; rfl
theorem Kq {pre rest : List α} : Q0 f g (pre ++ rest) = Q0 f g pre ++ Q0 f g rest := by unfold Q0; rw [Nk]
theorem YK {pre : List α} : (Q0 f g pre).length = pre.length := by unfold Q0; simp
theorem YU {d : Dl} {pre rest : List α} {x : α} (h1 : (1 : Int) ∉ Q0 f g pre) (hx : QT (f x) (g x) = 1) : Zp f g d (pre ++ x :: rest) = ⟨d, 1, (pre.length : Int), (g x).kind, (g x).value, (g x).dig⟩ := by
 have e : Q0 f g (pre ++ x :: rest) = Q0 f g pre ++ 1 :: Q0 f g rest := by rw [Kq]; unfold Q0; rw [LE, hx]
 unfold Zp UV;rw [e, AjU _ h1, YK, if_neg (by simp)];simp only [Li, Afe]
theorem Aeo {d : Dl} {pre : List α} {x : α} (h1 : (1 : Int) ∉ Q0 f g pre) (h2 : (2 : Int) ∉ Q0 f g pre) (hx : QT (f x) (g x) = 2) : Zp f g d (pre ++ [x]) = ⟨d, 2, (pre.length : Int), (g x).kind, (g x).value, (g x).dig⟩ := by
 have e : Q0 f g (pre ++ [x]) = Q0 f g pre ++ [2] := by rw [Kq]; unfold Q0; rw [LE, hx, Nc]
 unfold Zp UV;rw [e, AjV h1 h2, YK, if_neg (by simp)];simp only [Li, Afe]
theorem Ep {d : Dl} {pre : List α} {x : α} (h1 : (1 : Int) ∉ Q0 f g pre) (hx1 : ¬ QT (f x) (g x) = 1) (hx2 : QT (f x) (g x) = 2 → ¬ (Zp f g d pre).verdict = 0) : Zp f g d (pre ++ [x]) = Zp f g d pre := by
 have e : Q0 f g (pre ++ [x]) = Q0 f g pre ++ [QT (f x) (g x)] := by rw [Kq]; unfold Q0; rw [LE, Nc]
 have l : ZE (Q0 f g (pre ++ [x])) = ZE (Q0 f g pre) := by
  rw [e];by_cases j : QT (f x) (g x) = 2
  · have k := hx2 j;rw [VC] at k
    have n : (2 : Int) ∈ Q0 f g pre := by
     by_cases h : (2 : Int) ∈ Q0 f g pre
     · exact h
     · exact absurd (best_v0.2 ⟨h1, h⟩) k
    exact Aix h1 n hx1
  · exact AjT hx1 j
 by_cases c : (ZE (Q0 f g pre)).1 = 0
 · rw [Ul c, Ul (by rw [l]; exact c)]
 · unfold Zp UV;rw [l, if_neg c, if_neg c];obtain ⟨i, hi, m, _⟩ := Ae3 c;rw [hi, Li, Ahp (by rw [YK] at m; exact m)]
end
theorem AhW {W : World} {g : Nat} {t : TypeId} {cs : List Value} (h : Row W g t cs.toArray) : Rd W (some ⟨g, 0, none⟩) cs := fun j u hj => ⟨_, rfl, by
 have := h.cellv (i := j) (v := u) (by simpa using hj)
 unfold Addr.add
 by_cases h0 : j = 0
 · subst h0; exact this
 · rw [if_neg h0]; simpa using this⟩
def Ex (params : Int) (V : List Int) (body : List Nd) (g1 g2 : Nat) : PgV := ⟨params, some ⟨g1, 0, none⟩, V.length, V, some ⟨g2, 0, none⟩, body.length, body⟩
theorem Ai2 {params : Int} {V : List Int} {body : List Nd} {g1 g2 : Nat} {W : World} (hp : InI params) (hv : ∀ t ∈ V, InI t) (hb : ∀ x ∈ body, InI x.tag ∧ InI x.n) (h1 : V.length ≤ maxLen) (h2 : body.length ≤ maxLen)
 (r1 : Row W g1 3 (Qi V).toArray) (r2 : Row W g2 85 (body.flatMap Nd.cells).toArray) : (Ex params V body g1 g2).ok W :=
 ⟨hp, Nat.le_refl _, h1, fun h => (by cases h), AhW r1, hv, Nat.le_refl _, h2, fun h => (by cases h), AhW r2, hb⟩
theorem UB {p : PgV} {t : Tr} {args : List Int} {fuel v : Int} {s : Ms} {w : World} (hok : p.ok w) (hin : ∀ a ∈ args, InI a) (hc : Q2 p args.length fuel = 0) (hg : Good p t) (he : evG (fuel.toNat + 1) (.one t) (Zd p.V args fuel.toNat) = (v, s)) : Q8 p args fuel = s.stopped 3 0 := by
 obtain ⟨h, i, g, c⟩ := UA hok hin hc;have := c.good.hat.uniq hg.hat;subst this;have d := c.big.ev (fuel.toNat + 1) (by simp [Zd]);rw [he] at d;have e : s = g := congrArg Prod.snd d;rw [c.eq, e]
theorem Afc {params : Int} {V : List Int} {body : List Nd} (w : World) (hp : InI params) (hv : ∀ t ∈ V, InI t) (hb : ∀ x ∈ body, InI x.tag ∧ InI x.n) (h1 : V.length ≤ maxLen) (h2 : body.length ≤ maxLen) : ∃ W g1 g2, (Ex params V body g1 g2).ok W := by
 have c := Row.new w 3 (Qi V).toArray;have d := Row.new (w.alloc (.cells (Qi V).toArray 3)) 85 (body.flatMap Nd.cells).toArray;have b : Below (w.alloc (.cells (Qi V).toArray 3)).heap.size (w.alloc (.cells (Qi V).toArray 3)) ((w.alloc (.cells (Qi V).toArray 3)).alloc (.cells (body.flatMap Nd.cells).toArray 85)) := (Below.refl _ _).alloc (Nat.le_refl _) _;exact ⟨_, _, _, Ai2 hp hv hb h1 h2 (c.below b c.lt) d⟩
def YR : List Nd := [⟨20, 1⟩, ⟨26, 0⟩]
def YS : List Nd := [⟨20, 1⟩, ⟨25, 0⟩, ⟨1, 0⟩]
def treeE5 : Tr := .node ⟨20, 1⟩ [.node ⟨26, 0⟩ []]
def treeE7 : Tr := .node ⟨20, 1⟩ [.node ⟨25, 0⟩ [.node ⟨1, 0⟩ []]]
theorem AdB : treeE5.fits := by
 refine .mk _ _ (by rfl) (fun k c => ?_);rw [Ls.1 c];exact .mk _ _ (by rfl) (fun k c => by simp at c)
theorem AdC : treeE7.fits := by
 refine .mk _ _ (by rfl) (fun k c => ?_);rw [Ls.1 c];refine .mk _ _ (by rfl) (fun k c => ?_);rw [Ls.1 c];exact .mk _ _ (by rfl) (fun k c => by simp at c)
theorem AjN (g1 g2 : Nat) : Good (Ex 1 [0] YR g1 g2) treeE5 := ⟨⟨AdB, [], by rfl⟩, by rfl, by show Kc 1 [0]; decide, rfl, by show ofT [0] treeE5 = 2; decide +kernel⟩
theorem Aff (g1 g2 : Nat) : Good (Ex 1 [0] YS g1 g2) treeE7 := ⟨⟨AdC, [], by rfl⟩, by rfl, by show Kc 1 [0]; decide, rfl, by show ofT [0] treeE7 = 2; decide +kernel⟩
theorem Abu (g1 g2 : Nat) : Good (Ex 1 [0] bodyE g1 g2) treeE := ⟨⟨Aac, [], by rfl⟩, by rfl, by show Kc 1 [0]; decide, rfl, by show ofT [0] treeE = 2; decide +kernel⟩
theorem AcR {n : Int} (h : InI n) : ∀ a ∈ [n], InI a := fun a ha => by rw [Ls.1 ha]; exact h
theorem Ahz {t : Tr} {body : List Nd} {g1 g2 : Nat} (h : Good (Ex 1 [0] body g1 g2) t) (a : Int) : Q2 (Ex 1 [0] body g1 g2) [a].length 9 = 0 := by
 rw [KF h]; rfl
theorem AfC {p : PgV} (w : World) (h1 : p.params = 1) (h2 : p.V = [0]) (h3 : p.body = bodyE) : (rnZ p 9 [0]).kind = 0 ∧ (rnZ p 9 [0]).value = 0 := by
 obtain ⟨W, c, d, e⟩ := Afc (params := 1) (V := [0]) (body := bodyE) w (by unfold InI; omega) (by simp [InI]) (by simp [bodyE, InI]) (by unfold maxLen; simp) (by unfold maxLen; simp [bodyE]);rw [XK (q := Ex 1 [0] bodyE c d) h1 h2 h3];have h := UB e (args := [0]) (fuel := 9) (AcR (by unfold InI; omega)) (Ahz (Abu c d) 0) (Abu c d) (v := 0) (s := ⟨[0], [[]], 6, 3, [], some (0, 0)⟩) (by kernel_rfl);unfold rnZ;rw [h];exact ⟨rfl, rfl⟩
theorem AjP {p : PgV} (w : World) (h1 : p.params = 1) (h2 : p.V = [0]) (h3 : p.body = bodyE) : (rnZ p 9 [5]).kind = 0 ∧ (rnZ p 9 [5]).value = 5 := by
 obtain ⟨W, c, d, e⟩ := Afc (params := 1) (V := [0]) (body := bodyE) w (by unfold InI; omega) (by simp [InI]) (by simp [bodyE, InI]) (by unfold maxLen; simp) (by unfold maxLen; simp [bodyE]);rw [XK (q := Ex 1 [0] bodyE c d) h1 h2 h3];have h := UB e (args := [5]) (fuel := 9) (AcR (by unfold InI; omega)) (Ahz (Abu c d) 5) (Abu c d) (v := 0) (s := ⟨[5], [[]], 6, 3, [], some (0, 5)⟩) (by kernel_rfl);unfold rnZ;rw [h];exact ⟨rfl, rfl⟩
theorem AkK {p : PgV} (w : World) (h1 : p.params = 1) (h2 : p.V = [0]) (h3 : p.body = YR) : (rnZ p 9 [0]).kind = 3 ∧ (rnZ p 9 [0]).value = 0 := by
 obtain ⟨W, c, d, e⟩ := Afc (params := 1) (V := [0]) (body := YR) w (by unfold InI; omega) (by simp [InI]) (by simp [YR, InI]) (by unfold maxLen; simp) (by unfold maxLen; simp [YR]);rw [XK (q := Ex 1 [0] YR c d) h1 h2 h3];have h := UB e (args := [0]) (fuel := 9) (AcR (by unfold InI; omega)) (Ahz (AjN c d) 0) (AjN c d) (v := 0) (s := ⟨[0], [[]], 7, 2, [], none⟩) (by kernel_rfl);unfold rnZ;rw [h];exact ⟨rfl, rfl⟩
theorem AhY {p : PgV} (w : World) (h1 : p.params = 1) (h2 : p.V = [0]) (h3 : p.body = YS) (a : Int) (ha : a = 0 ∨ a = 5) : (rnZ p 9 [a]).kind = 0 ∧ (rnZ p 9 [a]).value = 0 := by
 obtain ⟨W, c, d, e⟩ := Afc (params := 1) (V := [0]) (body := YS) w (by unfold InI; omega) (by simp [InI]) (by simp [YS, InI]) (by unfold maxLen; simp) (by unfold maxLen; simp [YS]);rw [XK (q := Ex 1 [0] YS c d) h1 h2 h3];rcases ha with rfl | rfl
 · have h := UB e (args := [0]) (fuel := 9) (AcR (by unfold InI; omega)) (Ahz (Aff c d) 0) (Aff c d) (v := 0) (s := ⟨[0], [[]], 6, 3, [], some (0, 0)⟩) (by kernel_rfl);unfold rnZ;rw [h];exact ⟨rfl, rfl⟩
 · have h := UB e (args := [5]) (fuel := 9) (AcR (by unfold InI; omega)) (Ahz (Aff c d) 5) (Aff c d) (v := 0) (s := ⟨[5], [[]], 6, 3, [], some (0, 0)⟩) (by kernel_rfl);unfold rnZ;rw [h];exact ⟨rfl, rfl⟩
theorem Aky : (⟨[0], 7, 0⟩ : Dl) ∈ Ji bodyE treeE := by
 unfold Ji;rw [Np];refine ⟨(1, [0]), by simp [QY, Zq, treeE], ?_⟩;rw [LN];refine ⟨(7, 0), ?_, rfl⟩;unfold ZK ZM;rw [Np];refine ⟨7, by rw [LN]; exact ⟨6, by simp, rfl⟩, ?_⟩;rw [LN];refine ⟨0, ?_, rfl⟩;rw [Na];exact ⟨by unfold Va; rw [KV]; simp, by decide⟩
theorem Ak5 : (⟨[0], 5, 0⟩ : Dl) ∈ Ji bodyE treeE := by
 unfold Ji;rw [Np];refine ⟨(1, [0]), by simp [QY, Zq, treeE], ?_⟩;rw [LN];refine ⟨(5, 0), ?_, rfl⟩;unfold ZK ZM;rw [Np];refine ⟨5, by rw [LN]; exact ⟨4, by simp, rfl⟩, ?_⟩;rw [LN];refine ⟨0, ?_, rfl⟩;rw [Na];exact ⟨by unfold Va; rw [KV]; simp, by decide⟩
theorem AkG : (⟨[], 0, 0⟩ : Dl) ∉ Ji bodyE treeE := fun h => by
 obtain ⟨q, k, _, c⟩ := allZ_mem.1 h;unfold ZK ZM at c;rw [Np] at c;obtain ⟨g, e, c⟩ := c;rw [LN] at e c;obtain ⟨i, _, rfl⟩ := e;obtain ⟨n, _, d⟩ := c;injection d with d _;have : (i : Int) + 1 = 0 := d;omega
theorem Ai5 (g1 g2 : Nat) : Agh (pE g1 g2) ⟨[0], 5, 0⟩ = YR := by
 rw [AbE (El g1 g2) (q := 1) (k := .node ⟨25, 0⟩ [.node ⟨3, 0⟩ []]) (by rfl)]; rfl
theorem AbD (g1 g2 : Nat) : Agh (pE g1 g2) ⟨[0], 7, 0⟩ = YS := by
 rw [AbE (El g1 g2) (q := 1) (k := .node ⟨25, 0⟩ [.node ⟨3, 0⟩ []]) (by rfl)]; rfl
theorem AgR (g1 g2 : Nat) {ts : List (List Int)} (h : ts = [[0], [5]] ∨ ts = [[0]]) : KD (pE g1 g2) ts 9 = 0 := by
 unfold KD;rw [if_neg (by rw [checkP_ok.2 ⟨_, El g1 g2⟩]; simp)];show J8 1 ts 9 = 0;rcases h with rfl | rfl <;> decide
theorem Abz (g1 g2 : Nat) {ts : List (List Int)} (h : ts = [[0], [5]] ∨ ts = [[0]]) (d : Dl) : Zv (pE g1 g2) d ts 9 = YW (pE g1 g2) d := by
 unfold Zv; rw [if_neg (by rw [AgR g1 g2 h]; simp)]
theorem Ak7 (g1 g2 : Nat) (w : World) : K9 (pE g1 g2) ⟨[0], 5, 0⟩ [[0], [5]] 9 = ⟨⟨[0], 5, 0⟩, 1, 0, 3, 0, (rnZ (KQ (pE g1 g2) ⟨[0], 5, 0⟩) 9 [0]).dig⟩ := by
 obtain ⟨i, j⟩ := AfC (p := pE g1 g2) w rfl rfl rfl;obtain ⟨c, e⟩ := AkK (p := KQ (pE g1 g2) ⟨[0], 5, 0⟩) w rfl rfl (Ai5 g1 g2);have h := YU (f := rnZ (pE g1 g2) 9) (g := rnZ (KQ (pE g1 g2) ⟨[0], 5, 0⟩) 9) (d := ⟨[0], 5, 0⟩) (pre := []) (rest := [[5]]) (x := [0]) (by simp [Q0]) (by unfold QT; rw [i, j, c, e]; rfl);unfold K9;rw [Lo] at h;rw [h, c, e];rfl
theorem Ak8 (g1 g2 : Nat) (w : World) : K9 (pE g1 g2) ⟨[0], 7, 0⟩ [[0], [5]] 9 = ⟨⟨[0], 7, 0⟩, 1, 1, 0, 0, (rnZ (KQ (pE g1 g2) ⟨[0], 7, 0⟩) 9 [5]).dig⟩ := by
 obtain ⟨i, j⟩ := AfC (p := pE g1 g2) w rfl rfl rfl;obtain ⟨m, n⟩ := AjP (p := pE g1 g2) w rfl rfl rfl;obtain ⟨k, l⟩ := AhY (p := KQ (pE g1 g2) ⟨[0], 7, 0⟩) w rfl rfl (AbD g1 g2) 0 (.inl rfl);obtain ⟨c, e⟩ := AhY (p := KQ (pE g1 g2) ⟨[0], 7, 0⟩) w rfl rfl (AbD g1 g2) 5 (.inr rfl);have h := YU (f := rnZ (pE g1 g2) 9) (g := rnZ (KQ (pE g1 g2) ⟨[0], 7, 0⟩) 9) (d := ⟨[0], 7, 0⟩) (pre := [[0]]) (rest := []) (x := [5]) (by simp only [Q0, LE, Nc, Ls]; unfold QT; rw [i, j, k, l]; decide) (by unfold QT; rw [m, n, c, e]; rfl);unfold K9;rw [show ([[0]] ++ [5] :: [] : List (List Int)) = [[0], [5]] from rfl] at h;rw [h, c, e];rfl
theorem Aj4 (g1 g2 : Nat) (w : World) : K9 (pE g1 g2) ⟨[0], 7, 0⟩ [[0]] 9 = ⟨⟨[0], 7, 0⟩, 0, -1, 0, 0, []⟩ := by
 obtain ⟨c, d⟩ := AfC (p := pE g1 g2) w rfl rfl rfl;obtain ⟨e, g⟩ := AhY (p := KQ (pE g1 g2) ⟨[0], 7, 0⟩) w rfl rfl (AbD g1 g2) 0 (.inl rfl);unfold K9;refine Ul ?_;rw [best_v0];simp only [Q0, LE, Nc, Ls];unfold QT;rw [c, d, e, g];decide
theorem PgV.ok.kx {p : PgV} {X : Nat → Prop} {W W' : World} (h : p.ok W) (hv : Qi p.V ≠ [] → ∀ ad, p.va = some ad → ¬ X ad.block) (hb : p.body.flatMap Nd.cells ≠ [] → ∀ ad, p.ba = some ad → ¬ X ad.block) (k : KpX X W W') : p.ok W' :=
 ⟨h.par, h.vlen, h.vmax, h.vnil, k.rd h.vrd hv, h.vin, h.blen, h.bmax, h.bnil, k.rd h.brd hb, h.bin⟩
structure MutR (p : PgV) (d : Dl) (w w' : World) (e : Ending) : Prop where
 ex : ∃ m : PgV, e = .returned (.tuple #[.agg m.cells, .int .i64 (YW p d)]) ∧ (YW p d = 0 → IsMut p d m ∧ m.ok w' ∧ m.body.length ≤ p.body.length + 1 ∧ ∀ ad, m.va = some ad ∨ m.ba = some ad → w.heap.size ≤ ad.block) ∧ (YW p d ≠ 0 → m = ⟨0, none, 0, [], none, 0, []⟩) ∧ Below w.heap.size w w'
theorem Ada (p : PgV) (x : DlV) (w : World) (hok : p.ok w) (hbl : p.body.length ≤ 1000) (hc : Zg p ≠ 0) :
 Calls Tryz.prog 18 #[.agg p.cells, .agg x.cells] w fun e w' => e = .returned (.tuple #[.agg (PgV.mk 0 none 0 [] none 0 []).cells, .int .i64 (Zg p)]) ∧ Below w.heap.size w w' := by
 have HS : Hid (∀ W, Below w.heap.size w W → Calls Tryz.prog 17 #[.agg p.cells] W fun e w' => AllR p W w' e) := fun W b => X7 p hbl W (hok.go b);obtain ⟨c, d⟩ : ∃ c, c = Zg p := ⟨_, rfl⟩;have v := Lh d;rw [← d] at hc ⊢;have ac : (c != 0) = true := by simpa using hc
 clear hok hbl d hc;go_enter Tryz.func18, Tryz.ntmps18
 go_wp2_with (refine Qn _ _ rfl ?_)
 refine Stop.to ?_;refine Qe rfl 25 _ rfl p.cells rfl ?_;intro G Gw Gh u Gb;go_wp2_with (refine Qn _ _ rfl ?_)
 refine Stop.to ?_;refine Qe rfl 35 _ rfl x.cells rfl ?_;intro D Dw s t r;go_wp2_with (first | fail | (refine QH _ rfl ?_))
 refine Stop.to ?_;refine Qj rfl 25 rfl _ _ YC rfl ?_;intro R Rw g Rr n;have y := (Below.refl w.heap.size w).trans (Gb.mono Gh);have o := y.trans ((r.mono s).mono y.size);have q := o.trans ((n.mono g).mono o.size);have hR : w.heap.size ≤ R := Le o.size g;have rG := (u.below r (Lc u.lt s));have l := rG.below n (Lc rG.lt g);have rD := t.below n (Lc t.lt g);have m : Row Rw R 25 #[.int .i64 0, .slice none 0 0, .slice none 0 0] := Rr;have H1 := Lh (HS.out _ q);clear u Gb Gh t r s n g rG y o Rr HS;go_wp2_with (refine wpList_load_row rfl 25 _ rfl G rfl 25 p.cells (0, 0) _ l Tryz.underlying25 rfl (by kernel_rfl) ?_)
 refine H1.out.mono ?_;rintro e w1 ⟨A, ab, xs, rfl, aa, h, k, hT, j, _, i, z⟩;rw [← v.out];have b5 := q.trans (z.mono q.size);replace m := m.below z m.lt;clear H1 aa h k hT j i z q l rD;go_wp2_with (refine Qs 25 _ _ rfl ?_)
 refine Stop.to ?_;refine Qk rfl 25 _ _ rfl R (PgV.mk 0 none 0 [] none 0 []).cells rfl rfl 25 _ m (by kernel_rfl) rfl (by simp [PgV.cells, Value.oneCell']) ?_;intro W9 r9 o9;have bE := Qo b5 o9 hR;clear b5 o9 m;go_wp2_with fail
 refine bodyPost_ret (QN Tryz.results18 _ _ R 25 _ (0, 0) _ rfl r9 Tryz.underlying25 rfl (by kernel_rfl)) rfl ?_;exact ⟨rfl, bE⟩
theorem Ac9 (p : PgV) (t : Tr) (x : DlV) (w : World) (hok : p.ok w) (hx : DlOk w x) (hbl : p.body.length ≤ 1000) (hg : Fine p t) (hd : x.d ∉ Ji p.body t) :
 Calls Tryz.prog 18 #[.agg p.cells, .agg x.cells] w fun e w' => e = .returned (.tuple #[.agg (PgV.mk 0 none 0 [] none 0 []).cells, .int .i64 17]) ∧ Below w.heap.size w w' := by
 have HS : Hid (∀ W, Below w.heap.size w W → Calls Tryz.prog 17 #[.agg p.cells] W fun e w' => AllR p W w' e) := fun W b => X7 p hbl W (hok.go b);have HX : Hid (∀ W, Below w.heap.size w W → DlOk W x) := fun W b => ⟨hx.1.go b, hx.2⟩;have Hd := Lh hd;have Hg := Lh hg;have Hc := Lh (checkP_ok.2 ⟨t, hg⟩);clear hok hx hbl hg hd;go_enter Tryz.func18, Tryz.ntmps18
 go_wp2_with (refine Qn _ _ rfl ?_)
 refine Stop.to ?_;refine Qe rfl 25 _ rfl p.cells rfl ?_;intro G Gw Gh Gr Gb;go_wp2_with (refine Qn _ _ rfl ?_)
 refine Stop.to ?_;refine Qe rfl 35 _ rfl x.cells rfl ?_;intro D Dw Dh Dr Db;go_wp2_with (first | fail | (refine QH _ rfl ?_))
 refine Stop.to ?_;refine Qj rfl 25 rfl _ _ YC rfl ?_;intro R Rw l Rr v;have b1 := (Below.refl w.heap.size w).trans (Gb.mono Gh);have z := b1.trans ((Db.mono Dh).mono b1.size);have b3 := z.trans ((v.mono l).mono z.size);have hR : w.heap.size ≤ R := Le z.size l;have rG := (Gr.below Db (Lc Gr.lt Dh));have u := rG.below v (Lc rG.lt l);have s := Dr.below v (Lc Dr.lt l);have i : Row Rw R 25 #[.int .i64 0, .slice none 0 0, .slice none 0 0] := Rr;have H1 := Lh (HS.out _ b3);clear Gr Gb Gh Dr Db Dh v l rG b1 z Rr HS;go_wp2_with (refine wpList_load_row rfl 25 _ rfl G rfl 25 p.cells (0, 0) _ u Tryz.underlying25 rfl (by kernel_rfl) ?_)
 refine H1.out.mono ?_;rintro e w1 ⟨A, aa, xs, rfl, q, m, o, hT, g, _, n, b4⟩;rw [Hc.out];have c := g t Hg.out;have b5 := b3.trans (b4.mono b3.size);replace s := s.below b4 s.lt;replace i := i.below b4 i.lt;have j := Lh (AcG A aa xs x w1 q (by omega) (fun y hy => (hT y hy).ok) (HX.out _ b5) (by rw [c]; exact Aaw _ _));have k : Hid (¬ x.d ∈ xs.map DlV.d) := by show ¬ _; rw [c]; exact Hd.out
 clear H1 q m o hT g c n b4 b3;go_wp2_with (refine wpList_load_row rfl 35 _ rfl D rfl 35 x.cells (0, 0) _ s Tryz.underlying35 rfl (by kernel_rfl) ?_)
 refine j.out.mono ?_;rintro e w2 ⟨⟨r, rfl, hr⟩, b6⟩
 have ab : r < 0 := by
  by_cases h : 0 ≤ r
  · exact absurd (hr.1 h) k.out
  · omega
 have b7 := b5.trans (b6.mono b5.size);replace i := i.below b6 i.lt;clear j k hr b6 b5 HX s u;go_wp2_with (refine Qs 25 _ _ rfl ?_)
 refine Stop.to ?_;refine Qk rfl 25 _ _ rfl R (PgV.mk 0 none 0 [] none 0 []).cells rfl rfl 25 _ i (by kernel_rfl) rfl (by simp [PgV.cells, Value.oneCell']) ?_;intro W9 r9 o9;have bE := Qo b7 o9 hR;clear b7 o9 i;go_wp2_with fail
 refine bodyPost_ret (QN Tryz.results18 _ _ R 25 _ (0, 0) _ rfl r9 Tryz.underlying25 rfl (by kernel_rfl)) rfl ?_;exact ⟨rfl, bE⟩
theorem EA (p : PgV) (x : DlV) (w : World) (hok : p.ok w) (hx : DlOk w x) (hbl : p.body.length ≤ 1000) :
 Calls Tryz.prog 18 #[.agg p.cells, .agg x.cells] w fun e w' => MutR p x.d w w' e := by
 by_cases j : Zg p = 0
 · obtain ⟨t, g⟩ := checkP_ok.1 j;by_cases i : x.d ∈ Ji p.body t
   · obtain ⟨q, k, l, _, r⟩ := AeA p t x w hok hx hbl g i (AeB p hbl);obtain ⟨u, v⟩ := AgU g.good i l hok.bin;have c := AbF g i;have s := AbE g l;refine r.mono fun e w' h => ?_
     obtain ⟨m, o, ⟨y, z, n⟩, m4, m6, m5⟩ := h.okm hok u;exact ⟨m, by rw [c]; exact o, fun _ => ⟨⟨y, z, n.trans s.symm⟩, m4, by rw [n]; exact v, m6⟩, fun h => absurd c h, m5⟩
   · have c := Afq g i;refine (Ac9 p t x w hok hx hbl g i).mono ?_;rintro e w' ⟨rfl, b⟩;exact ⟨_, by rw [c], fun h => (by rw [c] at h; cases h), fun _ => rfl, b⟩
 · have c := Aj6 (d := x.d) j;refine (Ada p x w hok hbl j).mono ?_;rintro e w' ⟨rfl, b⟩;exact ⟨_, by rw [c], fun h => absurd (c.symm.trans h) j, fun _ => rfl, b⟩
theorem AeO {p : PgV} {args : List Int} {fuel : Int} {w : World} (hok : p.ok w) (hin : ∀ a ∈ args, InI a) :
 InI ((Q8 p args fuel).out.getD (0, 0)).1 ∧ InI ((Q8 p args fuel).out.getD (0, 0)).2 ∧ InI ((Q8 p args fuel).steps : Int) ∧ ∀ e ∈ (Q8 p args fuel).evs, e.ok := by
 by_cases g : Q2 p args.length fuel = 0
 · obtain ⟨t, v, i, c⟩ := UA hok hin g;have hi := (c.big.inv (c.okO : okG p.V (.one t)) c.init).1;have n := c.steps;obtain ⟨_, _, _, m⟩ := KG g;rw [c.eq]
   have d : OkS p.V (i.stopped 3 0) := by
    unfold Ms.stopped;split
    · exact hi
    · exact hi.stop (.inr ⟨by omega, by omega, rfl⟩)
   refine ⟨?_, ?_, by rw [Aat]; unfold InI; omega, fun e h => (d.evs e h).ok⟩
   · cases ho : (i.stopped 3 0).out with
     | none => exact Z4
     | some o =>
      obtain ⟨k, x⟩ := o;rcases d.out k x ho with ⟨rfl, _⟩ | ⟨j, l, _⟩
      · exact Z4
      · show InI k; unfold InI; omega
   · cases ho : (i.stopped 3 0).out with
     | none => exact Z4
     | some o =>
      obtain ⟨k, x⟩ := o;rcases d.out k x ho with ⟨_, j⟩ | ⟨_, _, rfl⟩
      · exact j
      · exact Z4
 · rw [YJ g];exact ⟨Z4, Z4, Z4, fun e h => by simp [Aik] at h⟩
theorem AkL {p : PgV} {args : List Int} {fuel : Int} {w W : World} {A : Option Addr} {c : Nat} (hok : p.ok w) (hin : ∀ a ∈ args, InI a) (hle : (Q8 p args fuel).evs.length ≤ c) (hmx : c ≤ maxLen) (hni : A = none → c = 0) (hrd : Rd3 ((Q8 p args fuel).rv A c) W) : ((Q8 p args fuel).rv A c).ok W := by
 obtain ⟨d, e, g, h⟩ := AeO (fuel := fuel) hok hin;exact ⟨d, e, g, hle, hmx, hni, hrd, h⟩
attribute [local go_sem] Oper.semAt_some
theorem Vl (k v k' v' : Int) (W : World) : (binOp .neq 37 (.agg (ZI k v).toArray) (.agg (ZI k' v').toArray)).run Tryz.prog W = .ok (.bool (!(k == k' && v == v'))) W := by
 unfold ZI;simp [go_sem];by_cases c : k = k' <;> by_cases d : v = v' <;> simp [c, d]
def Rn.cells (r : Rn) : Array Value := (ZI r.kind r.value).toArray
theorem Aba (b r : Rn) (w : World) : Calls Tryz.prog 27 #[.agg b.cells, .agg r.cells] w fun e w' => e = .returned (.int .i64 (QT b r)) ∧ Below w.heap.size w w' := by
 go_enter Tryz.func27, Tryz.ntmps27
 go_wp2_with (refine Qn _ _ rfl ?_)
 refine Stop.to ?_;refine Qe rfl 37 _ rfl b.cells rfl ?_;intro G Gw x j u;go_wp2_with (refine Qn _ _ rfl ?_)
 refine Stop.to ?_;refine Qe rfl 37 _ rfl r.cells rfl ?_;intro J Jw q s p;have t := (Below.refl w.heap.size w).trans (u.mono x);have n := t.trans ((p.mono q).mono t.size);replace j := j.below p (Lc j.lt q);clear u x p q t;have y := j.cellv (i := 0) (v := .int .i64 b.kind) rfl;have z := s.cellv (i := 0) (v := .int .i64 r.kind) rfl;by_cases g : b.kind = 4
 · have e1 : (b.kind == 4) = true := by simpa using g
   have d : Hid (QT b r = 0) := by show _ = _; unfold QT; rw [if_pos g]
   rw [g] at y;clear g;go_wp2_with fail
   go_ret
   exact ⟨by rw [d.out]; rfl, n⟩
 have e1 : (b.kind == 4) = false := by simpa using g
 by_cases l : r.kind = 4
 · have d : Hid (QT b r = 2) := by show _ = _; unfold QT; rw [if_neg g, if_pos l]
   rw [l] at z;clear l;go_wp2_with fail
   go_ret
   exact ⟨by rw [d.out]; rfl, n⟩
 have e2 : (r.kind == 4) = false := by simpa using l
 have k := Vl r.kind r.value b.kind b.value;have d : Hid (QT b r = if r.kind = b.kind ∧ r.value = b.value then 0 else 1) := by show _ = _; unfold QT; rw [if_neg g, if_neg l]
 by_cases h : r.kind = b.kind ∧ r.value = b.value
 · rw [if_pos h] at d;have m : (!(r.kind == b.kind && r.value == b.value)) = false := by simp [h.1, h.2]
   rw [m] at k;have o := Lh k;clear h m k;go_wp2_with (first | (refine wpList_load_row rfl 37 _ rfl J rfl 37 r.cells (0, 0) _ s Tryz.underlying37 rfl (by kernel_rfl) ?_) | (refine wpList_load_row rfl 37 _ rfl G rfl 37 b.cells (0, 0) _ j Tryz.underlying37 rfl (by kernel_rfl) ?_) | (refine Zk rfl _ (ZD rfl _ (run_eqGuard_agg _ _ _ _ _ _ _ (by kernel_rfl)) (o.out _)) ?_))
   go_ret
   exact ⟨by rw [d.out]; rfl, n⟩
 · rw [if_neg h] at d
   have m : (!(r.kind == b.kind && r.value == b.value)) = true := by
    by_cases a : r.kind = b.kind
    · have : ¬ r.value = b.value := fun c => h ⟨a, c⟩
      simp [a, this]
    · simp [a]
   rw [m] at k;have o := Lh k;clear h m k;go_wp2_with (first | (refine wpList_load_row rfl 37 _ rfl J rfl 37 r.cells (0, 0) _ s Tryz.underlying37 rfl (by kernel_rfl) ?_) | (refine wpList_load_row rfl 37 _ rfl G rfl 37 b.cells (0, 0) _ j Tryz.underlying37 rfl (by kernel_rfl) ?_) | (refine Zk rfl _ (ZD rfl _ (run_eqGuard_agg _ _ _ _ _ _ _ (by kernel_rfl)) (o.out _)) ?_))
   go_ret
   exact ⟨by rw [d.out]; rfl, n⟩
structure RunsFn (p : PgV) (A : Option Addr) (n cap : Nat) (fuel : Int) (w w' : World) (e : Ending) : Prop where
 ex : ∃ bt bp bf, e = .returned (.func (.func 136) #[] #[.pointer (some ⟨bt, 0, none⟩), .pointer (some ⟨bp, 0, none⟩), .pointer (some ⟨bf, 0, none⟩)]) ∧ Row w' bt 46 #[.slice A n cap] ∧ Row w' bp 25 p.cells ∧ Row w' bf 3 #[.int .i64 fuel] ∧ w.heap.size ≤ bt ∧ w.heap.size ≤ bp ∧ w.heap.size ≤ bf ∧ Below w.heap.size w w'
theorem E3 (p : PgV) (A : Option Addr) (n cap : Nat) (fuel : Int) (w : World) :
 Calls Tryz.prog 69 #[.agg p.cells, .slice A n cap, .int .i64 fuel] w fun e w' => RunsFn p A n cap fuel w w' e := by
 go_enter Tryz.func69, Tryz.ntmps69
 go_wp2_with (refine Qn _ _ rfl ?_)
 refine Stop.to ?_;refine Qe rfl 25 _ rfl p.cells rfl ?_;intro G x o c m;go_wp2_with (refine Qn _ _ rfl ?_)
 refine Stop.to ?_;refine Qe rfl 46 _ rfl #[.slice A n cap] rfl ?_;intro J y j k d;go_wp2_with (refine Qn _ _ rfl ?_)
 refine Stop.to ?_;refine Qe rfl 3 _ rfl #[.int .i64 fuel] rfl ?_;intro K z l q g;have u := (c.below d (Lc c.lt j)).below g (by have := c.lt; have := d.size; omega);have v := k.below g (Lc k.lt l);have h := (Below.refl w.heap.size w).trans (m.mono o);have i := h.trans ((d.mono j).mono h.size);have r := i.trans ((g.mono l).mono i.size);have s : w.heap.size ≤ J := Le h.size j;have t : w.heap.size ≤ K := Le i.size l;clear c k m d g h i;go_wp2
 go_ret
 exact ⟨J, G, K, rfl, v, u, q, s, o, t, r⟩
structure RnX where
 i : Nat
 r : RunV
def RnX.enc (x : RnX) : Array Value := #[.int .i64 (x.i : Int), x.r.val]
def RnP (p : PgV) (fuel : Int) (ts : List (List Int)) (pre : List RnX) (x : RnX) (W : World) : Prop := x.i = pre.length ∧ (∃ l, ts[pre.length]? = some l ∧ ∃ A c, x.r = (Q8 p l fuel).rv A c) ∧ x.r.ok W ∧ x.r.evs.length ≤ 10000
structure RunsC (p : PgV) (A : Option Addr) (cap : Nat) (ts : List IntsV) (fuel : Int) (X : Nat → Prop) (bt bp bf : Nat) (W : World) : Prop where
 ok : p.ok W
 xv : Qi p.V ≠ [] → ∀ ad, p.va = some ad → ¬ X ad.block
 xb : p.body.flatMap Nd.cells ≠ [] → ∀ ad, p.ba = some ad → ¬ X ad.block
 rt : Rd W A (Xf ts)
 xt : Xf ts ≠ [] → ∀ ad, A = some ad → ¬ X ad.block
 ot : ∀ x ∈ ts, x.ok W
 xo : ∀ x ∈ ts, Qi x.l ≠ [] → ∀ ad, x.addr = some ad → ¬ X ad.block
 r1 : Row W bt 46 #[.slice A ts.length cap]
 r2 : Row W bp 25 p.cells
 r3 : Row W bf 3 #[.int .i64 fuel]
 x1 : ¬ X bt
 x2 : ¬ X bp
 x3 : ¬ X bf
theorem IntsV.ok.kx {x : IntsV} {X : Nat → Prop} {W W' : World} (h : x.ok W) (hx : Qi x.l ≠ [] → ∀ ad, x.addr = some ad → ¬ X ad.block) (k : KpX X W W') : x.ok W' := ⟨h.len, h.cap, h.nil, k.rd h.reads hx, h.all⟩
theorem RunsC.kx {p : PgV} {A : Option Addr} {cap : Nat} {ts : List IntsV} {fuel : Int} {X : Nat → Prop} {bt bp bf : Nat} {W W' : World} (h : RunsC p A cap ts fuel X bt bp bf W) (k : KpX X W W') : RunsC p A cap ts fuel X bt bp bf W' :=
 ⟨h.ok.kx h.xv h.xb k, h.xv, h.xb, k.rd h.rt h.xt, h.xt, fun x hx => (h.ot x hx).kx (h.xo x hx) k, h.xo, k.row h.r1 h.x1, k.row h.r2 h.x2, k.row h.r3 h.x3, h.x1, h.x2, h.x3⟩
theorem RunsC.add {p : PgV} {A : Option Addr} {cap : Nat} {ts : List IntsV} {fuel : Int} {X : Nat → Prop} {bt bp bf : Nat} {w W : World} {lb : Nat} (h : RunsC p A cap ts fuel X bt bp bf w) (b : Below w.heap.size w W) (h1 : w.heap.size ≤ lb) : RunsC p A cap ts fuel (fun i => X i ∨ i = lb) bt bp bf W := by
 have d := h.kx (KpX.of_below b)
 have c : ∀ {xs : List Value} {ad : Option Addr}, Rd w ad xs → (xs ≠ [] → ∀ a, ad = some a → ¬ X a.block) → (xs ≠ [] → ∀ a, ad = some a → ¬ (X a.block ∨ a.block = lb)) := fun m j l a e => by
  have := XJ m l e;rintro (k | k)
  · exact j l a e k
  · omega
 have n : ∀ {g : Nat} {t : TypeId} {cs : Array Value}, Row w g t cs → ¬ X g → ¬ (X g ∨ g = lb) := fun m j => by
  have := m.lt;rintro (k | k)
  · exact j k
  · omega
 exact ⟨d.ok, c h.ok.vrd h.xv, c h.ok.brd h.xb, d.rt, c h.rt h.xt, d.ot, fun x j => c (h.ot x j).reads (h.xo x j), d.r1, d.r2, d.r3, n h.r1 h.x1, n h.r2 h.x2, n h.r3 h.x3⟩
theorem RunsC.of {p : PgV} {A : Option Addr} {cap : Nat} {ts : List IntsV} {fuel : Int} {X : Nat → Prop} {bt bp bf lim : Nat} {w0 W : World} (hX : ∀ k, X k → lim ≤ k) (hs : w0.heap.size ≤ lim) (hok : p.ok w0) (hr : Rd w0 A (Xf ts)) (ho : ∀ x ∈ ts, x.ok w0) (b : Below w0.heap.size w0 W)
 (r1 : Row W bt 46 #[.slice A ts.length cap]) (r2 : Row W bp 25 p.cells) (r3 : Row W bf 3 #[.int .i64 fuel]) (x1 : ¬ X bt) (x2 : ¬ X bp) (x3 : ¬ X bf) : RunsC p A cap ts fuel X bt bp bf W := by
 have c : ∀ {xs : List Value} {ad : Option Addr}, Rd w0 ad xs → (xs ≠ [] → ∀ a, ad = some a → ¬ X a.block) := fun h g a e d => by
  have i := XJ h g e;have j := hX _ d;omega
 exact ⟨hok.go b, c hok.vrd, c hok.brd, hr.go b, c hr, fun x d => (ho x d).go b, fun x d => c (ho x d).reads, r1, r2, r3, x1, x2, x3⟩
def RnX.rn (x : RnX) : Rn := ⟨x.r.kind, x.r.value, AcB x.r⟩
theorem RnP.rn {p : PgV} {fuel : Int} {ts : List (List Int)} {pre : List RnX} {x : RnX} {W : World} (h : RnP p fuel ts pre x W) : ∃ l, ts[pre.length]? = some l ∧ x.rn = rnZ p fuel l := by
 obtain ⟨_, ⟨l, d, A, c, e⟩, _, _⟩ := h;exact ⟨l, d, by unfold RnX.rn; rw [e]; rfl⟩
def JW (l : List Rn) : List Value := l.flatMap fun r => r.cells.toList
theorem AeF (l : List Rn) (r : Rn) : JW (l ++ [r]) = JW l ++ r.cells.toList := by simp [JW]
end Go.Proofs.YtdcmppdhdcjpfaaGreat
namespace Go.Proofs.YtdcmppdhdcjpfaaGreat
open Go.RowKit Go.Deep
def Agg (x : DlV) (v i : Int) (r : RunV) : MtV := ⟨x.A, x.cap, ⟨x.d, v, i, r.kind, r.value, AcB r⟩⟩
structure NoteR (M : Nat) (y : MtV) (w w' : World) (e : Ending) : Prop where
 ex : e = .returned (.tuple #[]) ∧ Row w' M 54 y.cells.toArray ∧ ∃ w1, Below w.heap.size w w1 ∧ Only M w1 w'
theorem Adb (x : DlV) (v i : Int) (r : RunV) (D M : Nat) (cur : Array Value) (w : World) (hD : Row w D 35 x.cells) (hM : Row w M 54 cur) (hsz : cur.size = 8) (hok : r.ok w) (hl : r.evs.length ≤ 10000) :
 Calls Tryz.prog 73 #[.int .i64 v, .int .i64 i, r.val, .pointer (some ⟨D, 0, none⟩), .pointer (some ⟨M, 0, none⟩)] w fun e w' => NoteR M (Agg x v i r) w w' e := by
 rw [show r.val = .agg r.cells from rfl];have g : ∀ W : World, (Instr.build 54 #[(0, .agg x.cells), (1, .int .i64 v), (2, .int .i64 i), (3, .agg (ZI r.kind r.value).toArray), (4, .string ⟨(AcB r).toArray⟩)]).run Tryz.prog W = .ok (.agg (Agg x v i r).cells.toArray) W := fun W => by kernel_rfl
 go_enter Tryz.func73, Tryz.ntmps73
 go_wp2_with (refine Qn _ _ rfl ?_)
 refine Stop.to ?_;refine Qe rfl 40 _ rfl r.cells rfl ?_;intro G Gw s t q;have j := (Below.refl w.heap.size w).trans (q.mono s);have l := hD.lt;have n := hM.lt;have k := hD.below j l;have m := hM.below j n;obtain ⟨S, c⟩ : ∃ S, S = (fun W => (Row W D 35 x.cells ∧ Row W M 54 cur) ∧ (Row W G 40 r.cells ∧ r.ok W) ∧ Below w.heap.size w W) := ⟨_, rfl⟩;have p : St S := by rw [c]; infer_instance
 have y : Hid (∀ W, S W → Row W D 35 x.cells) := by show ∀ W, _; rw [c]; exact fun W h => h.1.1
 have z : Hid (∀ W, S W → Row W M 54 cur) := by show ∀ W, _; rw [c]; exact fun W h => h.1.2
 have o : Hid (∀ W, S W → Row W G 40 r.cells) := by show ∀ W, _; rw [c]; exact fun W h => h.2.1.1
 have TO : Hid (∀ W, S W → r.ok W) := by show ∀ W, _; rw [c]; exact fun W h => h.2.1.2
 have u : Hid (∀ W, S W → Below w.heap.size w W) := by show ∀ W, _; rw [c]; exact fun W h => h.2.2
 have hS : S Gw := by rw [c]; exact ⟨⟨k, m⟩, ⟨t, St.go (S := fun W => r.ok W) hok j⟩, j⟩
 clear c hD hM hok l n k m t q s j;go_wp2_with fail
 refine Zn S 8 (by kernel_rfl) (by kernel_rfl) (St.drew hS) ?_;clear hS;simp only [Lw, L5, Lv, L1];(refine QA rfl 35 _ rfl (D) rfl 35 _ _ y.out Tryz.underlying35 rfl (by kernel_rfl) ?_; simp only [Act.put, Qa, Qb, Qc])
 iterate 3 (refine Qg rfl ?_ (fun W d => ?_) ?_; rotate_left; (focus (go_simp; exact rfl)); simp only [Act.put, Qa, Qb, Qc])
 (refine ZA rfl 37 _ rfl (⟨G, 0, none⟩) rfl (ZI r.kind r.value) _ (fun W d => UY (o.out W d)) Tryz.underlying37 rfl (by kernel_rfl) ?_; simp only [Act.put, Qa, Qb, Qc]);(refine QA rfl 40 _ rfl (G) rfl 40 _ _ o.out Tryz.underlying40 rfl (by kernel_rfl) ?_; simp only [Act.put, Qa, Qb, Qc]);(refine QI rfl 33 _ (fun W => by (go_simp; try rfl)) (.string ⟨(AcB r).toArray⟩) (fun W d => Ab0 r W (TO.out W d) hl) ?_; simp only [Act.put, Qa, Qb, Qc])
 (refine Qg rfl (.agg (Agg x v i r).cells.toArray) (fun W d => JY 54 [_, _, _, _, _] rfl _ (by exact g W)) ?_; simp only [Act.put, Qa, Qb, Qc]);refine QG fun W d => ?_
 have rM := z.out W d;have bW := u.out W d;clear d y z o TO u p g;go_wp2_with (refine Qs 54 _ _ rfl ?_)
 refine Stop.to ?_;refine Qk rfl 54 _ _ rfl M (Agg x v i r).cells.toArray rfl rfl 54 _ rM (by kernel_rfl) hsz (by simp [Agg, MtV.cells, Value.oneCell']) ?_;intro W2 r2 o2;have HF : Hid (NoteR M (Agg x v i r) w W2 (.returned (.tuple #[]))) := ⟨rfl, r2, W, bW, o2⟩;clear rM bW r2 o2;go_wp2_with fail
 refine bodyPost_end (results_none rfl _ _ _) rfl ?_;exact HF.out
end Go.Proofs.YtdcmppdhdcjpfaaGreat
