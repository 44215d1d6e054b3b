/- Lemmas for VerdictMoreP. -/
import Derived.Test.YtdcmppdhdcjpfaaGreatZr1
import Derived.Test.YtdcmppdhdcjpfaaGreatZr22
import Derived.Test.YtdcmppdhdcjpfaaGreatZr23
import Derived.Test.YtdcmppdhdcjpfaaGreatZr28
import Derived.Test.YtdcmppdhdcjpfaaGreatZr30
import Derived.Test.YtdcmppdhdcjpfaaGreatZr18
import Derived.Test.YtdcmppdhdcjpfaaGreatZr17
set_option linter.unusedVariables false
set_option linter.unusedSimpArgs false
set_option maxRecDepth 100000
set_option maxHeartbeats 16000000
namespace Go.Proofs.YtdcmppdhdcjpfaaGreat
open Go.RowKit Go.Deep
theorem Xt {p q : PgV} (h1 : p.params = q.params) (h2 : p.V = q.V) (h3 : p.body = q.body) {t : Tr} : Good p t ↔ Good q t := by
 obtain ⟨a, b, c, d, e, f, g⟩ := p
 obtain ⟨a', b', c', d', e', f', g'⟩ := q
 simp only at h1 h2 h3
 subst h1 h2 h3
 exact ⟨fun h => ⟨h.hat, h.size, h.vars, h.tag, h.kind⟩, fun h => ⟨h.hat, h.size, h.vars, h.tag, h.kind⟩⟩
theorem AaA {p q : PgV} (h1 : p.params = q.params) (h2 : p.V = q.V) (h3 : p.body = q.body) (n : Nat) (fuel : Int) : Zr p n fuel = Zr q n fuel := by
 by_cases h : ∃ t, Good p t
 · obtain ⟨t, ht⟩ := h
   rw [Kf ht, Kf ((Xt h1 h2 h3).1 ht), h1]
 · rw [JA fun t ht => h ⟨t, ht⟩, JA fun t ht => h ⟨t, (Xt h1 h2 h3).2 ht⟩]
theorem VV {p q : PgV} (h1 : p.params = q.params) (h2 : p.V = q.V) (h3 : p.body = q.body) (args : List Int) (fuel : Int) : Z2 p args fuel = Z2 q args fuel := by
 have hc := AaA h1 h2 h3 args.length fuel
 have his : ∀ s, IsRun p args fuel s ↔ IsRun q args fuel s := fun s => by
  unfold IsRun
  rw [h2]
  exact ⟨fun ⟨t, v, s', a, b⟩ => ⟨t, v, s', (Xt h1 h2 h3).1 a, b⟩, fun ⟨t, v, s', a, b⟩ => ⟨t, v, s', (Xt h1 h2 h3).2 a, b⟩⟩
 by_cases h : Zr p args.length fuel = 0
 · by_cases k : ∃ s, IsRun p args fuel s
   · obtain ⟨s, k⟩ := k
     rw [Aa5 h k, Aa5 (hc ▸ h) ((his s).1 k)]
   · unfold Z2
     rw [dif_neg (fun x => k x.2), dif_neg (fun x => k (x.2.imp fun s hs => (his s).2 hs))]
 · rw [UV h, UV (fun e => h (hc.trans e))]
noncomputable def rnZ (p : PgV) (fuel : Int) (args : List Int) : Rn := ⟨((Z2 p args fuel).out.getD (0, 0)).1, ((Z2 p args fuel).out.getD (0, 0)).2, AbN ((Z2 p args fuel).rv none 0)⟩
theorem Xk {p q : PgV} (h1 : p.params = q.params) (h2 : p.V = q.V) (h3 : p.body = q.body) (fuel : Int) : rnZ p fuel = rnZ q fuel := by
 funext args
 unfold rnZ
 rw [VV h1 h2 h3]
noncomputable def XE (p : PgV) (d : Dl) : PgV := ⟨p.params, none, 0, p.V, none, 0, Afd p d⟩
theorem IsMut.rn {p m : PgV} {d : Dl} (h : IsMut p d m) (fuel : Int) : rnZ m fuel = rnZ (XE p d) fuel := Xk (q := XE p d) h.par h.vars h.body fuel
theorem IsMut.run {p m : PgV} {d : Dl} (h : IsMut p d m) (args : List Int) (fuel : Int) : Z2 m args fuel = Z2 (XE p d) args fuel := VV (q := XE p d) h.par h.vars h.body args fuel
noncomputable def Kn (p : PgV) (d : Dl) (ts : List (List Int)) (fuel : Int) : Mt := QR (rnZ p fuel) (rnZ (XE p d) fuel) d ts
noncomputable def JT (p : PgV) (ts : List (List Int)) (fuel : Int) : Int := if Zb p ≠ 0 then Zb p else Jd p.params ts fuel
noncomputable def QQ (p : PgV) (d : Dl) (ts : List (List Int)) (fuel : Int) : Int := if JT p ts fuel ≠ 0 then JT p ts fuel else Ue p d
theorem Aap {params fuel : Int} {ts : List (List Int)} (h : Jd params ts fuel = 0) : 1 ≤ ts.length ∧ ts.length ≤ 20 ∧ (∀ l ∈ ts, (l.length : Int) = params) ∧ 1 ≤ fuel ∧ fuel ≤ 10000 := by
 unfold Jd at h
 split at h
 · cases h
 · split at h
   · split at h
     · cases h
     · rename_i h1 h2 h3
       exact ⟨by omega, by omega, h2, by omega, by omega⟩
   · cases h
section
variable {α : Type} {f g : α → Rn}
theorem Aej {pre rest : List α} {x : α} : ((pre ++ x :: rest).map g).getD pre.length ⟨0, 0, []⟩ = g x := by
 rw [List.getD_eq_getElem?_getD, List.getElem?_map, List.getElem?_append_right (Nat.le_refl _), Nat.sub_self]; rfl
theorem KC {pre rest : List α} : QP f g (pre ++ rest) = QP f g pre ++ QP f g rest := by unfold QP; rw [List.map_append]
theorem Uu {pre : List α} : (QP f g pre).length = pre.length := by unfold QP; simp
theorem Yi {d : Dl} {pre rest : List α} {x : α} (h1 : (1 : Int) ∉ QP f g pre) (hx : Q8 (f x) (g x) = 1) : QR f g d (pre ++ x :: rest) = ⟨d, 1, (pre.length : Int), (g x).kind, (g x).value, (g x).dig⟩ := by
 have e : QP f g (pre ++ x :: rest) = QP f g pre ++ 1 :: QP f g rest := by rw [KC]; unfold QP; rw [List.map_cons, hx]
 unfold QR Ex
 rw [e, AfH _ h1, Uu, if_neg (by simp)]
 simp only [Int.toNat_natCast, Aej]
theorem Ads {d : Dl} {pre : List α} {x : α} (h1 : (1 : Int) ∉ QP f g pre) (h2 : (2 : Int) ∉ QP f g pre) (hx : Q8 (f x) (g x) = 2) : QR f g d (pre ++ [x]) = ⟨d, 2, (pre.length : Int), (g x).kind, (g x).value, (g x).dig⟩ := by
 have e : QP f g (pre ++ [x]) = QP f g pre ++ [2] := by rw [KC]; unfold QP; rw [List.map_cons, hx, List.map_nil]
 unfold QR Ex
 rw [e, AfI h1 h2, Uu, if_neg (by simp)]
 simp only [Int.toNat_natCast, Aej]
theorem Vt {d : Dl} {pre : List α} {x : α} (h1 : (1 : Int) ∉ QP f g pre) (hx1 : ¬ Q8 (f x) (g x) = 1) (hx2 : Q8 (f x) (g x) = 2 → ¬ (QR f g d pre).verdict = 0) : QR f g d (pre ++ [x]) = QR f g d pre := by
 have e : QP f g (pre ++ [x]) = QP f g pre ++ [Q8 (f x) (g x)] := by rw [KC]; unfold QP; rw [List.map_cons, List.map_nil]
 have hb : Zk (QP f g (pre ++ [x])) = Zk (QP f g pre) := by
  rw [e]
  by_cases h2 : Q8 (f x) (g x) = 2
  · have h3 := hx2 h2
    rw [X7] at h3
    have h4 : (2 : Int) ∈ QP f g pre := by
     by_cases h : (2 : Int) ∈ QP f g pre
     · exact h
     · exact absurd (best_v0.2 ⟨h1, h⟩) h3
    exact Aea h1 h4 hx1
  · exact AfG hx1 h2
 by_cases h0 : (Zk (QP f g pre)).1 = 0
 · rw [YG h0, YG (by rw [hb]; exact h0)]
 · unfold QR Ex
   rw [hb, if_neg h0, if_neg h0]
   obtain ⟨i, hi, hl, _⟩ := Aax h0
   rw [hi, Int.toNat_natCast, AbT (by rw [Uu] at hl; exact hl)]
end
theorem Agx {W : World} {g : Nat} {t : TypeId} {cs : List Value} (h : Row W g t cs.toArray) : Rd W (some ⟨g, 0, none⟩) cs := fun j u hj => ⟨_, rfl, by
 have := h.cellv (i := j) (v := u) (by simpa using hj)
 unfold Addr.add
 by_cases h0 : j = 0
 · subst h0; exact this
 · rw [if_neg h0]; simpa using this⟩
def Vz (params : Int) (V : List Int) (body : List Nd) (g1 g2 : Nat) : PgV := ⟨params, some ⟨g1, 0, none⟩, V.length, V, some ⟨g2, 0, none⟩, body.length, body⟩
theorem Ahz {params : Int} {V : List Int} {body : List Nd} {g1 g2 : Nat} {W : World} (hp : InI params) (hv : ∀ t ∈ V, InI t) (hb : ∀ x ∈ body, InI x.tag ∧ InI x.n) (h1 : V.length ≤ maxLen) (h2 : body.length ≤ maxLen)
 (r1 : Row W g1 3 (Qi V).toArray) (r2 : Row W g2 85 (body.flatMap Nd.cells).toArray) : (Vz params V body g1 g2).ok W :=
 ⟨hp, Nat.le_refl _, h1, fun h => (by cases h), Agx r1, hv, Nat.le_refl _, h2, fun h => (by cases h), Agx r2, hb⟩
theorem YW {p : PgV} {t : Tr} {args : List Int} {fuel v : Int} {s : Ms} {w : World} (hok : p.ok w) (hin : ∀ a ∈ args, InI a) (hc : Zr p args.length fuel = 0) (hg : Good p t) (he : evG (fuel.toNat + 1) (.one t) (ZR p.V args fuel.toNat) = (v, s)) : Z2 p args fuel = s.stopped 3 0 := by
 obtain ⟨t', v', s', hk⟩ := Aa4 hok hin hc
 have := hk.good.hat.uniq hg.hat
 subst this
 have h1 := hk.big.ev (fuel.toNat + 1) (by simp [ZR])
 rw [he] at h1
 have h2 : s = s' := congrArg Prod.snd h1
 rw [hk.eq, h2]
theorem Aei {params : Int} {V : List Int} {body : List Nd} (w : World) (hp : InI params) (hv : ∀ t ∈ V, InI t) (hb : ∀ x ∈ body, InI x.tag ∧ InI x.n) (h1 : V.length ≤ maxLen) (h2 : body.length ≤ maxLen) : ∃ W g1 g2, (Vz params V body g1 g2).ok W := by
 have r1 := Row.new w 3 (Qi V).toArray
 have r2 := Row.new (w.alloc (.cells (Qi V).toArray 3)) 85 (body.flatMap Nd.cells).toArray
 have b : Below (w.alloc (.cells (Qi V).toArray 3)).heap.size (w.alloc (.cells (Qi V).toArray 3)) ((w.alloc (.cells (Qi V).toArray 3)).alloc (.cells (body.flatMap Nd.cells).toArray 85)) := (Below.refl _ _).alloc (Nat.le_refl _) _
 exact ⟨_, _, _, Ahz hp hv hb h1 h2 (r1.below b r1.lt) r2⟩
def Yf : List Nd := [⟨20, 1⟩, ⟨26, 0⟩]
def Yg : List Nd := [⟨20, 1⟩, ⟨25, 0⟩, ⟨1, 0⟩]
def treeE5 : Tr := .node ⟨20, 1⟩ [.node ⟨26, 0⟩ []]
def treeE7 : Tr := .node ⟨20, 1⟩ [.node ⟨25, 0⟩ [.node ⟨1, 0⟩ []]]
theorem AcJ : treeE5.fits := by
 refine .mk _ _ (by rfl) (fun k hk => ?_)
 rw [List.mem_singleton.1 hk]
 exact .mk _ _ (by rfl) (fun k hk => by simp at hk)
theorem AcK : treeE7.fits := by
 refine .mk _ _ (by rfl) (fun k hk => ?_)
 rw [List.mem_singleton.1 hk]
 refine .mk _ _ (by rfl) (fun k hk => ?_)
 rw [List.mem_singleton.1 hk]
 exact .mk _ _ (by rfl) (fun k hk => by simp at hk)
theorem Aij (g1 g2 : Nat) : Good (Vz 1 [0] Yf g1 g2) treeE5 := ⟨⟨AcJ, [], by rfl⟩, by rfl, by show JS 1 [0]; decide, rfl, by show ofT [0] treeE5 = 2; decide +kernel⟩
theorem Aek (g1 g2 : Nat) : Good (Vz 1 [0] Yg g1 g2) treeE7 := ⟨⟨AcK, [], by rfl⟩, by rfl, by show JS 1 [0]; decide, rfl, by show ofT [0] treeE7 = 2; decide +kernel⟩
theorem AaJ (g1 g2 : Nat) : Good (Vz 1 [0] bodyE g1 g2) treeE := ⟨⟨Ek, [], by rfl⟩, by rfl, by show JS 1 [0]; decide, rfl, by show ofT [0] treeE = 2; decide +kernel⟩
theorem Ab4 {n : Int} (h : InI n) : ∀ a ∈ [n], InI a := fun a ha => by rw [List.mem_singleton.1 ha]; exact h
theorem Agc {t : Tr} {body : List Nd} {g1 g2 : Nat} (h : Good (Vz 1 [0] body g1 g2) t) (a : Int) : Zr (Vz 1 [0] body g1 g2) [a].length 9 = 0 := by
 rw [Kf h]; rfl
theorem AeD {p : PgV} (w : World) (h1 : p.params = 1) (h2 : p.V = [0]) (h3 : p.body = bodyE) : (rnZ p 9 [0]).kind = 0 ∧ (rnZ p 9 [0]).value = 0 := by
 obtain ⟨W, g1, g2, hok⟩ := Aei (params := 1) (V := [0]) (body := bodyE) w (by unfold InI; omega) (by simp [InI]) (by simp [bodyE, InI]) (by unfold maxLen; simp) (by unfold maxLen; simp [bodyE])
 rw [Xk (q := Vz 1 [0] bodyE g1 g2) h1 h2 h3]
 have h := YW hok (args := [0]) (fuel := 9) (Ab4 (by unfold InI; omega)) (Agc (AaJ g1 g2) 0) (AaJ g1 g2) (v := 0) (s := ⟨[0], [[]], 6, 3, [], some (0, 0)⟩) (by kernel_rfl)
 unfold rnZ
 rw [h]
 exact ⟨rfl, rfl⟩
theorem Aim {p : PgV} (w : World) (h1 : p.params = 1) (h2 : p.V = [0]) (h3 : p.body = bodyE) : (rnZ p 9 [5]).kind = 0 ∧ (rnZ p 9 [5]).value = 5 := by
 obtain ⟨W, g1, g2, hok⟩ := Aei (params := 1) (V := [0]) (body := bodyE) w (by unfold InI; omega) (by simp [InI]) (by simp [bodyE, InI]) (by unfold maxLen; simp) (by unfold maxLen; simp [bodyE])
 rw [Xk (q := Vz 1 [0] bodyE g1 g2) h1 h2 h3]
 have h := YW hok (args := [5]) (fuel := 9) (Ab4 (by unfold InI; omega)) (Agc (AaJ g1 g2) 5) (AaJ g1 g2) (v := 0) (s := ⟨[5], [[]], 6, 3, [], some (0, 5)⟩) (by kernel_rfl)
 unfold rnZ
 rw [h]
 exact ⟨rfl, rfl⟩
theorem Ai3 {p : PgV} (w : World) (h1 : p.params = 1) (h2 : p.V = [0]) (h3 : p.body = Yf) : (rnZ p 9 [0]).kind = 3 ∧ (rnZ p 9 [0]).value = 0 := by
 obtain ⟨W, g1, g2, hok⟩ := Aei (params := 1) (V := [0]) (body := Yf) w (by unfold InI; omega) (by simp [InI]) (by simp [Yf, InI]) (by unfold maxLen; simp) (by unfold maxLen; simp [Yf])
 rw [Xk (q := Vz 1 [0] Yf g1 g2) h1 h2 h3]
 have h := YW hok (args := [0]) (fuel := 9) (Ab4 (by unfold InI; omega)) (Agc (Aij g1 g2) 0) (Aij g1 g2) (v := 0) (s := ⟨[0], [[]], 7, 2, [], none⟩) (by kernel_rfl)
 unfold rnZ
 rw [h]
 exact ⟨rfl, rfl⟩
theorem Agz {p : PgV} (w : World) (h1 : p.params = 1) (h2 : p.V = [0]) (h3 : p.body = Yg) (a : Int) (ha : a = 0 ∨ a = 5) : (rnZ p 9 [a]).kind = 0 ∧ (rnZ p 9 [a]).value = 0 := by
 obtain ⟨W, g1, g2, hok⟩ := Aei (params := 1) (V := [0]) (body := Yg) w (by unfold InI; omega) (by simp [InI]) (by simp [Yg, InI]) (by unfold maxLen; simp) (by unfold maxLen; simp [Yg])
 rw [Xk (q := Vz 1 [0] Yg g1 g2) h1 h2 h3]
 rcases ha with rfl | rfl
 · have h := YW hok (args := [0]) (fuel := 9) (Ab4 (by unfold InI; omega)) (Agc (Aek g1 g2) 0) (Aek g1 g2) (v := 0) (s := ⟨[0], [[]], 6, 3, [], some (0, 0)⟩) (by kernel_rfl)
   unfold rnZ
   rw [h]
   exact ⟨rfl, rfl⟩
 · have h := YW hok (args := [5]) (fuel := 9) (Ab4 (by unfold InI; omega)) (Agc (Aek g1 g2) 5) (Aek g1 g2) (v := 0) (s := ⟨[5], [[]], 6, 3, [], some (0, 0)⟩) (by kernel_rfl)
   unfold rnZ
   rw [h]
   exact ⟨rfl, rfl⟩
theorem AiT : (⟨[0], 7, 0⟩ : Dl) ∈ Z5 bodyE treeE := by
 unfold Z5
 rw [List.mem_flatMap]
 refine ⟨(1, [0]), by simp [QX, Zl, treeE], ?_⟩
 rw [List.mem_map]
 refine ⟨(7, 0), ?_, rfl⟩
 unfold ZC ZE
 rw [List.mem_flatMap]
 refine ⟨7, by rw [List.mem_map]; exact ⟨6, by simp, rfl⟩, ?_⟩
 rw [List.mem_map]
 refine ⟨0, ?_, rfl⟩
 rw [List.mem_filter]
 exact ⟨by unfold Us; rw [Kz]; simp, by decide⟩
theorem Ajn : (⟨[0], 5, 0⟩ : Dl) ∈ Z5 bodyE treeE := by
 unfold Z5
 rw [List.mem_flatMap]
 refine ⟨(1, [0]), by simp [QX, Zl, treeE], ?_⟩
 rw [List.mem_map]
 refine ⟨(5, 0), ?_, rfl⟩
 unfold ZC ZE
 rw [List.mem_flatMap]
 refine ⟨5, by rw [List.mem_map]; exact ⟨4, by simp, rfl⟩, ?_⟩
 rw [List.mem_map]
 refine ⟨0, ?_, rfl⟩
 rw [List.mem_filter]
 exact ⟨by unfold Us; rw [Kz]; simp, by decide⟩
theorem Ai1 : (⟨[], 0, 0⟩ : Dl) ∉ Z5 bodyE treeE := fun h => by
 obtain ⟨q, k, _, hc⟩ := allZ_mem.1 h
 unfold ZC ZE at hc
 rw [List.mem_flatMap] at hc
 obtain ⟨op, ho, hc⟩ := hc
 rw [List.mem_map] at ho hc
 obtain ⟨i, _, rfl⟩ := ho
 obtain ⟨n, _, hn⟩ := hc
 injection hn with hn _
 have : (i : Int) + 1 = 0 := hn
 omega
theorem AhB (g1 g2 : Nat) : Afd (pE g1 g2) ⟨[0], 5, 0⟩ = Yf := by
 rw [AaR (Vp g1 g2) (q := 1) (k := .node ⟨25, 0⟩ [.node ⟨3, 0⟩ []]) (by rfl)]; rfl
theorem AaQ (g1 g2 : Nat) : Afd (pE g1 g2) ⟨[0], 7, 0⟩ = Yg := by
 rw [AaR (Vp g1 g2) (q := 1) (k := .node ⟨25, 0⟩ [.node ⟨3, 0⟩ []]) (by rfl)]; rfl
theorem AfF (g1 g2 : Nat) {ts : List (List Int)} (h : ts = [[0], [5]] ∨ ts = [[0]]) : JT (pE g1 g2) ts 9 = 0 := by
 unfold JT
 rw [if_neg (by rw [checkP_ok.2 ⟨_, Vp g1 g2⟩]; simp)]
 show Jd 1 ts 9 = 0
 rcases h with rfl | rfl <;> decide
theorem AaN (g1 g2 : Nat) {ts : List (List Int)} (h : ts = [[0], [5]] ∨ ts = [[0]]) (d : Dl) : QQ (pE g1 g2) d ts 9 = Ue (pE g1 g2) d := by
 unfold QQ; rw [if_neg (by rw [AfF g1 g2 h]; simp)]
theorem Ajp (g1 g2 : Nat) (w : World) : Kn (pE g1 g2) ⟨[0], 5, 0⟩ [[0], [5]] 9 = ⟨⟨[0], 5, 0⟩, 1, 0, 3, 0, (rnZ (XE (pE g1 g2) ⟨[0], 5, 0⟩) 9 [0]).dig⟩ := by
 obtain ⟨a1, a2⟩ := AeD (p := pE g1 g2) w rfl rfl rfl
 obtain ⟨b1, b2⟩ := Ai3 (p := XE (pE g1 g2) ⟨[0], 5, 0⟩) w rfl rfl (AhB g1 g2)
 have h := Yi (f := rnZ (pE g1 g2) 9) (g := rnZ (XE (pE g1 g2) ⟨[0], 5, 0⟩) 9) (d := ⟨[0], 5, 0⟩) (pre := []) (rest := [[5]]) (x := [0]) (by simp [QP]) (by unfold Q8; rw [a1, a2, b1, b2]; rfl)
 unfold Kn
 rw [List.nil_append] at h
 rw [h, b1, b2]
 rfl
theorem Ajq (g1 g2 : Nat) (w : World) : Kn (pE g1 g2) ⟨[0], 7, 0⟩ [[0], [5]] 9 = ⟨⟨[0], 7, 0⟩, 1, 1, 0, 0, (rnZ (XE (pE g1 g2) ⟨[0], 7, 0⟩) 9 [5]).dig⟩ := by
 obtain ⟨a1, a2⟩ := AeD (p := pE g1 g2) w rfl rfl rfl
 obtain ⟨c1, c2⟩ := Aim (p := pE g1 g2) w rfl rfl rfl
 obtain ⟨b1, b2⟩ := Agz (p := XE (pE g1 g2) ⟨[0], 7, 0⟩) w rfl rfl (AaQ g1 g2) 0 (.inl rfl)
 obtain ⟨d1, d2⟩ := Agz (p := XE (pE g1 g2) ⟨[0], 7, 0⟩) w rfl rfl (AaQ g1 g2) 5 (.inr rfl)
 have h := Yi (f := rnZ (pE g1 g2) 9) (g := rnZ (XE (pE g1 g2) ⟨[0], 7, 0⟩) 9) (d := ⟨[0], 7, 0⟩) (pre := [[0]]) (rest := []) (x := [5]) (by simp only [QP, List.map_cons, List.map_nil, List.mem_singleton]; unfold Q8; rw [a1, a2, b1, b2]; decide) (by unfold Q8; rw [c1, c2, d1, d2]; rfl)
 unfold Kn
 rw [show ([[0]] ++ [5] :: [] : List (List Int)) = [[0], [5]] from rfl] at h
 rw [h, d1, d2]
 rfl
theorem Ais (g1 g2 : Nat) (w : World) : Kn (pE g1 g2) ⟨[0], 7, 0⟩ [[0]] 9 = ⟨⟨[0], 7, 0⟩, 0, -1, 0, 0, []⟩ := by
 obtain ⟨a1, a2⟩ := AeD (p := pE g1 g2) w rfl rfl rfl
 obtain ⟨b1, b2⟩ := Agz (p := XE (pE g1 g2) ⟨[0], 7, 0⟩) w rfl rfl (AaQ g1 g2) 0 (.inl rfl)
 unfold Kn
 refine YG ?_
 rw [best_v0]
 simp only [QP, List.map_cons, List.map_nil, List.mem_singleton]
 unfold Q8
 rw [a1, a2, b1, b2]
 decide
theorem PgV.ok.kx {p : PgV} {X : Nat → Prop} {W W' : World} (h : p.ok W) (hv : Qi p.V ≠ [] → ∀ ad, p.va = some ad → ¬ X ad.block) (hb : p.body.flatMap Nd.cells ≠ [] → ∀ ad, p.ba = some ad → ¬ X ad.block) (k : KpX X W W') : p.ok W' :=
 ⟨h.par, h.vlen, h.vmax, h.vnil, k.rd h.vrd hv, h.vin, h.blen, h.bmax, h.bnil, k.rd h.brd hb, h.bin⟩
structure MutR (p : PgV) (d : Dl) (w w' : World) (e : Ending) : Prop where
 ex : ∃ m : PgV, e = .returned (.tuple #[.agg m.cells, .int .i64 (Ue p d)]) ∧ (Ue p d = 0 → IsMut p d m ∧ m.ok w' ∧ m.body.length ≤ p.body.length + 1 ∧ ∀ ad, m.va = some ad ∨ m.ba = some ad → w.heap.size ≤ ad.block) ∧ (Ue p d ≠ 0 → m = ⟨0, none, 0, [], none, 0, []⟩) ∧ Below w.heap.size w w'
theorem Acm (p : PgV) (x : DlV) (w : World) (hok : p.ok w) (hbl : p.body.length ≤ 1000) (hc : Zb p ≠ 0) :
 Calls Tryz.prog 18 #[.agg p.cells, .agg x.cells] w fun e w' => e = .returned (.tuple #[.agg (PgV.mk 0 none 0 [] none 0 []).cells, .int .i64 (Zb p)]) ∧ Below w.heap.size w w' := by
 have HS : Hid (∀ W, Below w.heap.size w W → Calls Tryz.prog 17 #[.agg p.cells] W fun e w' => AllR p W w' e) := fun W b => XB p hbl W (hok.go b)
 obtain ⟨c, hcd⟩ : ∃ c, c = Zb p := ⟨_, rfl⟩
 have Hcd := Lh hcd
 rw [← hcd] at hc ⊢
 have hc1 : (c != 0) = true := by simpa using hc
 clear hok hbl hcd hc
 go_enter Tryz.func18, Tryz.ntmps18
 go_wp2_with (refine Qp _ _ rfl ?_)
 refine Stop.to ?_
 refine Qf rfl 25 _ rfl p.cells rfl ?_
 intro G Gw Gh Gr Gb
 go_wp2_with (refine Qp _ _ rfl ?_)
 refine Stop.to ?_
 refine Qf rfl 35 _ rfl x.cells rfl ?_
 intro D Dw Dh Dr Db
 go_wp2_with (first | fail | (refine QY _ rfl ?_))
 refine Stop.to ?_
 refine Ql rfl 25 rfl _ _ Y7 rfl ?_
 intro R Rw Rh Rr Rb
 have b1 := (Below.refl w.heap.size w).trans (Gb.mono Gh)
 have b2 := b1.trans ((Db.mono Dh).mono b1.size)
 have b3 := b2.trans ((Rb.mono Rh).mono b2.size)
 have hR : w.heap.size ≤ R := Nat.le_trans b2.size Rh
 have rG := (Gr.below Db (Nat.lt_of_lt_of_le Gr.lt Dh))
 have rG2 := rG.below Rb (Nat.lt_of_lt_of_le rG.lt Rh)
 have rD := Dr.below Rb (Nat.lt_of_lt_of_le Dr.lt Rh)
 have rR : Row Rw R 25 #[.int .i64 0, .slice none 0 0, .slice none 0 0] := Rr
 have H1 := Lh (HS.out _ b3)
 clear Gr Gb Gh Dr Db Dh Rb Rh rG b1 b2 Rr HS
 go_wp2_with (refine wpList_load_row rfl 25 _ rfl G rfl 25 p.cells (0, 0) _ rG2 Tryz.underlying25 rfl (by kernel_rfl) ?_)
 refine H1.out.mono ?_
 rintro e w1 ⟨A, cap, xs, rfl, hrd, hcap, hnil, hT, hmap, _, hlen, b4⟩
 rw [← Hcd.out]
 have b5 := b3.trans (b4.mono b3.size)
 replace rR := rR.below b4 rR.lt
 clear H1 hrd hcap hnil hT hmap hlen b4 b3 rG2 rD
 go_wp2_with (refine QD 25 _ _ rfl ?_)
 refine Stop.to ?_
 refine Qk rfl 25 _ _ rfl R (PgV.mk 0 none 0 [] none 0 []).cells rfl rfl 25 _ rR (by kernel_rfl) rfl (by simp [PgV.cells, Value.oneCell']) ?_
 intro W9 r9 o9
 have bE := Qo b5 o9 hR
 clear b5 o9 rR
 go_wp2_with fail
 refine bodyPost_ret (QS Tryz.results18 _ _ R 25 _ (0, 0) _ rfl r9 Tryz.underlying25 rfl (by kernel_rfl)) rfl ?_
 exact ⟨rfl, bE⟩
theorem Acl (p : PgV) (t : Tr) (x : DlV) (w : World) (hok : p.ok w) (hx : DlOk w x) (hbl : p.body.length ≤ 1000) (hg : Fine p t) (hd : x.d ∉ Z5 p.body t) :
 Calls Tryz.prog 18 #[.agg p.cells, .agg x.cells] w fun e w' => e = .returned (.tuple #[.agg (PgV.mk 0 none 0 [] none 0 []).cells, .int .i64 17]) ∧ Below w.heap.size w w' := by
 have HS : Hid (∀ W, Below w.heap.size w W → Calls Tryz.prog 17 #[.agg p.cells] W fun e w' => AllR p W w' e) := fun W b => XB p hbl W (hok.go b)
 have HX : Hid (∀ W, Below w.heap.size w W → DlOk W x) := fun W b => ⟨hx.1.go b, hx.2⟩
 have Hd := Lh hd
 have Hg := Lh hg
 have Hc := Lh (checkP_ok.2 ⟨t, hg⟩)
 clear hok hx hbl hg hd
 go_enter Tryz.func18, Tryz.ntmps18
 go_wp2_with (refine Qp _ _ rfl ?_)
 refine Stop.to ?_
 refine Qf rfl 25 _ rfl p.cells rfl ?_
 intro G Gw Gh Gr Gb
 go_wp2_with (refine Qp _ _ rfl ?_)
 refine Stop.to ?_
 refine Qf rfl 35 _ rfl x.cells rfl ?_
 intro D Dw Dh Dr Db
 go_wp2_with (first | fail | (refine QY _ rfl ?_))
 refine Stop.to ?_
 refine Ql rfl 25 rfl _ _ Y7 rfl ?_
 intro R Rw Rh Rr Rb
 have b1 := (Below.refl w.heap.size w).trans (Gb.mono Gh)
 have b2 := b1.trans ((Db.mono Dh).mono b1.size)
 have b3 := b2.trans ((Rb.mono Rh).mono b2.size)
 have hR : w.heap.size ≤ R := Nat.le_trans b2.size Rh
 have rG := (Gr.below Db (Nat.lt_of_lt_of_le Gr.lt Dh))
 have rG2 := rG.below Rb (Nat.lt_of_lt_of_le rG.lt Rh)
 have rD := Dr.below Rb (Nat.lt_of_lt_of_le Dr.lt Rh)
 have rR : Row Rw R 25 #[.int .i64 0, .slice none 0 0, .slice none 0 0] := Rr
 have H1 := Lh (HS.out _ b3)
 clear Gr Gb Gh Dr Db Dh Rb Rh rG b1 b2 Rr HS
 go_wp2_with (refine wpList_load_row rfl 25 _ rfl G rfl 25 p.cells (0, 0) _ rG2 Tryz.underlying25 rfl (by kernel_rfl) ?_)
 refine H1.out.mono ?_
 rintro e w1 ⟨A, cap, xs, rfl, hrd, hcap, hnil, hT, hmap, _, hlen, b4⟩
 rw [Hc.out]
 have hmap2 := hmap t Hg.out
 have b5 := b3.trans (b4.mono b3.size)
 replace rD := rD.below b4 rD.lt
 replace rR := rR.below b4 rR.lt
 have Hfd := Lh (AbR A cap xs x w1 hrd (by omega) (fun y hy => (hT y hy).ok) (HX.out _ b5) (by rw [hmap2]; exact EG _ _))
 have Hin : Hid (¬ x.d ∈ xs.map DlV.d) := by show ¬ _; rw [hmap2]; exact Hd.out
 clear H1 hrd hcap hnil hT hmap hmap2 hlen b4 b3
 go_wp2_with (refine wpList_load_row rfl 35 _ rfl D rfl 35 x.cells (0, 0) _ rD Tryz.underlying35 rfl (by kernel_rfl) ?_)
 refine Hfd.out.mono ?_
 rintro e w2 ⟨⟨r, rfl, hr⟩, b6⟩
 have hr0 : r < 0 := by
  by_cases h : 0 ≤ r
  · exact absurd (hr.1 h) Hin.out
  · omega
 have b7 := b5.trans (b6.mono b5.size)
 replace rR := rR.below b6 rR.lt
 clear Hfd Hin hr b6 b5 HX rD rG2
 go_wp2_with (refine QD 25 _ _ rfl ?_)
 refine Stop.to ?_
 refine Qk rfl 25 _ _ rfl R (PgV.mk 0 none 0 [] none 0 []).cells rfl rfl 25 _ rR (by kernel_rfl) rfl (by simp [PgV.cells, Value.oneCell']) ?_
 intro W9 r9 o9
 have bE := Qo b7 o9 hR
 clear b7 o9 rR
 go_wp2_with fail
 refine bodyPost_ret (QS Tryz.results18 _ _ R 25 _ (0, 0) _ rfl r9 Tryz.underlying25 rfl (by kernel_rfl)) rfl ?_
 exact ⟨rfl, bE⟩
theorem AdD (p : PgV) (x : DlV) (w : World) (hok : p.ok w) (hx : DlOk w x) (hbl : p.body.length ≤ 1000) :
 Calls Tryz.prog 18 #[.agg p.cells, .agg x.cells] w fun e w' => MutR p x.d w w' e := by
 by_cases hc : Zb p = 0
 · obtain ⟨t, hg⟩ := checkP_ok.1 hc
   by_cases hd : x.d ∈ Z5 p.body t
   · obtain ⟨q, k, h1, _, h3⟩ := AdE p t x w hok hx hbl hg hd (AdF p hbl)
     obtain ⟨i1, i2⟩ := AfK hg.good hd h1 hok.bin
     have h0 := AaS hg hd
     have hb := AaR hg h1
     refine h3.mono fun e w' h => ?_
     obtain ⟨m, e1, ⟨m1, m2, m3⟩, m4, m6, m5⟩ := h.okm hok i1
     exact ⟨m, by rw [h0]; exact e1, fun _ => ⟨⟨m1, m2, m3.trans hb.symm⟩, m4, by rw [m3]; exact i2, m6⟩, fun h => absurd h0 h, m5⟩
   · have h0 := Aer hg hd
     refine (Acl p t x w hok hx hbl hg hd).mono ?_
     rintro e w' ⟨rfl, b⟩
     exact ⟨_, by rw [h0], fun h => (by rw [h0] at h; cases h), fun _ => rfl, b⟩
 · have h0 := Aiw (d := x.d) hc
   refine (Acm p x w hok hbl hc).mono ?_
   rintro e w' ⟨rfl, b⟩
   exact ⟨_, by rw [h0], fun h => absurd (h0.symm.trans h) hc, fun _ => rfl, b⟩
theorem AdT {p : PgV} {args : List Int} {fuel : Int} {w : World} (hok : p.ok w) (hin : ∀ a ∈ args, InI a) :
 InI ((Z2 p args fuel).out.getD (0, 0)).1 ∧ InI ((Z2 p args fuel).out.getD (0, 0)).2 ∧ InI ((Z2 p args fuel).steps : Int) ∧ ∀ e ∈ (Z2 p args fuel).evs, e.ok := by
 by_cases hc : Zr p args.length fuel = 0
 · obtain ⟨t, v, s', hk⟩ := Aa4 hok hin hc
   have hi := (hk.big.inv (hk.okO : okG p.V (.one t)) hk.init).1
   have hs := hk.steps
   obtain ⟨_, _, _, hf⟩ := KQ hc
   rw [hk.eq]
   have h2 : OkS p.V (s'.stopped 3 0) := by
    unfold Ms.stopped
    split
    · exact hi
    · exact hi.stop (.inr ⟨by omega, by omega, rfl⟩)
   refine ⟨?_, ?_, by rw [ED]; unfold InI; omega, fun e he => (h2.evs e he).ok⟩
   · cases ho : (s'.stopped 3 0).out with
     | none => exact ZV
     | some o =>
      obtain ⟨k, x⟩ := o
      rcases h2.out k x ho with ⟨rfl, _⟩ | ⟨h3, h4, _⟩
      · exact ZV
      · show InI k; unfold InI; omega
   · cases ho : (s'.stopped 3 0).out with
     | none => exact ZV
     | some o =>
      obtain ⟨k, x⟩ := o
      rcases h2.out k x ho with ⟨_, h3⟩ | ⟨_, _, rfl⟩
      · exact h3
      · exact ZV
 · rw [UV hc]
   exact ⟨ZV, ZV, ZV, fun e he => by simp [AgX] at he⟩
theorem Ai4 {p : PgV} {args : List Int} {fuel : Int} {w W : World} {A : Option Addr} {c : Nat} (hok : p.ok w) (hin : ∀ a ∈ args, InI a) (hle : (Z2 p args fuel).evs.length ≤ c) (hmx : c ≤ maxLen) (hni : A = none → c = 0) (hrd : Rd3 ((Z2 p args fuel).rv A c) W) : ((Z2 p args fuel).rv A c).ok W := by
 obtain ⟨h1, h2, h3, h4⟩ := AdT (fuel := fuel) hok hin
 exact ⟨h1, h2, h3, hle, hmx, hni, hrd, h4⟩
attribute [local go_sem] Oper.semAt_some
theorem Acn (k v k' v' : Int) (W : World) : (binOp .neq 37 (.agg (Ym k v).toArray) (.agg (Ym k' v').toArray)).run Tryz.prog W = .ok (.bool (!(k == k' && v == v'))) W := by
 unfold Ym
 simp [go_sem]
 by_cases h1 : k = k' <;> by_cases h2 : v = v' <;> simp [h1, h2]
def Rn.cells (r : Rn) : Array Value := (Ym r.kind r.value).toArray
theorem Aaq (b r : Rn) (w : World) : Calls Tryz.prog 27 #[.agg b.cells, .agg r.cells] w fun e w' => e = .returned (.int .i64 (Q8 b r)) ∧ Below w.heap.size w w' := by
 go_enter Tryz.func27, Tryz.ntmps27
 go_wp2_with (refine Qp _ _ rfl ?_)
 refine Stop.to ?_
 refine Qf rfl 37 _ rfl b.cells rfl ?_
 intro G Gw Gh Gr Gb
 go_wp2_with (refine Qp _ _ rfl ?_)
 refine Stop.to ?_
 refine Qf rfl 37 _ rfl r.cells rfl ?_
 intro J Jw Jh Jr Jb
 have b1 := (Below.refl w.heap.size w).trans (Gb.mono Gh)
 have b2 := b1.trans ((Jb.mono Jh).mono b1.size)
 replace Gr := Gr.below Jb (Nat.lt_of_lt_of_le Gr.lt Jh)
 clear Gb Gh Jb Jh b1
 have c0 := Gr.cellv (i := 0) (v := .int .i64 b.kind) rfl
 have d0 := Jr.cellv (i := 0) (v := .int .i64 r.kind) rfl
 by_cases h1 : b.kind = 4
 · have e1 : (b.kind == 4) = true := by simpa using h1
   have hz : Hid (Q8 b r = 0) := by show _ = _; unfold Q8; rw [if_pos h1]
   rw [h1] at c0
   clear h1
   go_wp2_with fail
   go_ret
   exact ⟨by rw [hz.out]; rfl, b2⟩
 have e1 : (b.kind == 4) = false := by simpa using h1
 by_cases h2 : r.kind = 4
 · have hz : Hid (Q8 b r = 2) := by show _ = _; unfold Q8; rw [if_neg h1, if_pos h2]
   rw [h2] at d0
   clear h2
   go_wp2_with fail
   go_ret
   exact ⟨by rw [hz.out]; rfl, b2⟩
 have e2 : (r.kind == 4) = false := by simpa using h2
 have hq := Acn r.kind r.value b.kind b.value
 have hz : Hid (Q8 b r = if r.kind = b.kind ∧ r.value = b.value then 0 else 1) := by show _ = _; unfold Q8; rw [if_neg h1, if_neg h2]
 by_cases h3 : r.kind = b.kind ∧ r.value = b.value
 · rw [if_pos h3] at hz
   have hb : (!(r.kind == b.kind && r.value == b.value)) = false := by simp [h3.1, h3.2]
   rw [hb] at hq
   have Hq := Lh hq
   clear h3 hb hq
   go_wp2_with (first | (refine wpList_load_row rfl 37 _ rfl J rfl 37 r.cells (0, 0) _ Jr Tryz.underlying37 rfl (by kernel_rfl) ?_) | (refine wpList_load_row rfl 37 _ rfl G rfl 37 b.cells (0, 0) _ Gr Tryz.underlying37 rfl (by kernel_rfl) ?_) | (refine Zg rfl _ (XV rfl _ (run_eqGuard_agg _ _ _ _ _ _ _ (by kernel_rfl)) (Hq.out _)) ?_))
   go_ret
   exact ⟨by rw [hz.out]; rfl, b2⟩
 · rw [if_neg h3] at hz
   have hb : (!(r.kind == b.kind && r.value == b.value)) = true := by
    by_cases a : r.kind = b.kind
    · have : ¬ r.value = b.value := fun c => h3 ⟨a, c⟩
      simp [a, this]
    · simp [a]
   rw [hb] at hq
   have Hq := Lh hq
   clear h3 hb hq
   go_wp2_with (first | (refine wpList_load_row rfl 37 _ rfl J rfl 37 r.cells (0, 0) _ Jr Tryz.underlying37 rfl (by kernel_rfl) ?_) | (refine wpList_load_row rfl 37 _ rfl G rfl 37 b.cells (0, 0) _ Gr Tryz.underlying37 rfl (by kernel_rfl) ?_) | (refine Zg rfl _ (XV rfl _ (run_eqGuard_agg _ _ _ _ _ _ _ (by kernel_rfl)) (Hq.out _)) ?_))
   go_ret
   exact ⟨by rw [hz.out]; rfl, b2⟩
structure RunsFn (p : PgV) (A : Option Addr) (n cap : Nat) (fuel : Int) (w w' : World) (e : Ending) : Prop where
 ex : ∃ bt bp bf, e = .returned (.func (.func 136) #[] #[.pointer (some ⟨bt, 0, none⟩), .pointer (some ⟨bp, 0, none⟩), .pointer (some ⟨bf, 0, none⟩)]) ∧ Row w' bt 46 #[.slice A n cap] ∧ Row w' bp 25 p.cells ∧ Row w' bf 3 #[.int .i64 fuel] ∧ w.heap.size ≤ bt ∧ w.heap.size ≤ bp ∧ w.heap.size ≤ bf ∧ Below w.heap.size w w'
theorem Ec (p : PgV) (A : Option Addr) (n cap : Nat) (fuel : Int) (w : World) :
 Calls Tryz.prog 69 #[.agg p.cells, .slice A n cap, .int .i64 fuel] w fun e w' => RunsFn p A n cap fuel w w' e := by
 go_enter Tryz.func69, Tryz.ntmps69
 go_wp2_with (refine Qp _ _ rfl ?_)
 refine Stop.to ?_
 refine Qf rfl 25 _ rfl p.cells rfl ?_
 intro G Gw Gh Gr Gb
 go_wp2_with (refine Qp _ _ rfl ?_)
 refine Stop.to ?_
 refine Qf rfl 46 _ rfl #[.slice A n cap] rfl ?_
 intro J Jw Jh Jr Jb
 go_wp2_with (refine Qp _ _ rfl ?_)
 refine Stop.to ?_
 refine Qf rfl 3 _ rfl #[.int .i64 fuel] rfl ?_
 intro K Kw Kh Kr Kb
 have rG := (Gr.below Jb (Nat.lt_of_lt_of_le Gr.lt Jh)).below Kb (by have := Gr.lt; have := Jb.size; omega)
 have rJ := Jr.below Kb (Nat.lt_of_lt_of_le Jr.lt Kh)
 have b1 := (Below.refl w.heap.size w).trans (Gb.mono Gh)
 have b2 := b1.trans ((Jb.mono Jh).mono b1.size)
 have b3 := b2.trans ((Kb.mono Kh).mono b2.size)
 have hJ : w.heap.size ≤ J := Nat.le_trans b1.size Jh
 have hK : w.heap.size ≤ K := Nat.le_trans b2.size Kh
 clear Gr Jr Gb Jb Kb b1 b2
 go_wp2
 go_ret
 exact ⟨J, G, K, rfl, rJ, rG, Kr, hJ, Gh, hK, b3⟩
structure RnX where
 i : Nat
 r : RunV
def RnX.enc (x : RnX) : Array Value := #[.int .i64 (x.i : Int), x.r.val]
def RnP (p : PgV) (fuel : Int) (ts : List (List Int)) (pre : List RnX) (x : RnX) (W : World) : Prop := x.i = pre.length ∧ (∃ l, ts[pre.length]? = some l ∧ ∃ A c, x.r = (Z2 p l fuel).rv A c) ∧ x.r.ok W ∧ x.r.evs.length ≤ 10000
structure RunsC (p : PgV) (A : Option Addr) (cap : Nat) (ts : List IntsV) (fuel : Int) (X : Nat → Prop) (bt bp bf : Nat) (W : World) : Prop where
 ok : p.ok W
 xv : Qi p.V ≠ [] → ∀ ad, p.va = some ad → ¬ X ad.block
 xb : p.body.flatMap Nd.cells ≠ [] → ∀ ad, p.ba = some ad → ¬ X ad.block
 rt : Rd W A (Z6 ts)
 xt : Z6 ts ≠ [] → ∀ ad, A = some ad → ¬ X ad.block
 ot : ∀ x ∈ ts, x.ok W
 xo : ∀ x ∈ ts, Qi x.l ≠ [] → ∀ ad, x.addr = some ad → ¬ X ad.block
 r1 : Row W bt 46 #[.slice A ts.length cap]
 r2 : Row W bp 25 p.cells
 r3 : Row W bf 3 #[.int .i64 fuel]
 x1 : ¬ X bt
 x2 : ¬ X bp
 x3 : ¬ X bf
theorem IntsV.ok.kx {x : IntsV} {X : Nat → Prop} {W W' : World} (h : x.ok W) (hx : Qi x.l ≠ [] → ∀ ad, x.addr = some ad → ¬ X ad.block) (k : KpX X W W') : x.ok W' := ⟨h.len, h.cap, h.nil, k.rd h.reads hx, h.all⟩
theorem RunsC.kx {p : PgV} {A : Option Addr} {cap : Nat} {ts : List IntsV} {fuel : Int} {X : Nat → Prop} {bt bp bf : Nat} {W W' : World} (h : RunsC p A cap ts fuel X bt bp bf W) (k : KpX X W W') : RunsC p A cap ts fuel X bt bp bf W' :=
 ⟨h.ok.kx h.xv h.xb k, h.xv, h.xb, k.rd h.rt h.xt, h.xt, fun x hx => (h.ot x hx).kx (h.xo x hx) k, h.xo, k.row h.r1 h.x1, k.row h.r2 h.x2, k.row h.r3 h.x3, h.x1, h.x2, h.x3⟩
theorem RunsC.add {p : PgV} {A : Option Addr} {cap : Nat} {ts : List IntsV} {fuel : Int} {X : Nat → Prop} {bt bp bf : Nat} {w W : World} {lb : Nat} (h : RunsC p A cap ts fuel X bt bp bf w) (b : Below w.heap.size w W) (h1 : w.heap.size ≤ lb) : RunsC p A cap ts fuel (fun i => X i ∨ i = lb) bt bp bf W := by
 have hh := h.kx (KpX.of_below b)
 have key : ∀ {xs : List Value} {ad : Option Addr}, Rd w ad xs → (xs ≠ [] → ∀ a, ad = some a → ¬ X a.block) → (xs ≠ [] → ∀ a, ad = some a → ¬ (X a.block ∨ a.block = lb)) := fun hr hx hne a e => by
  have := Xj hr hne e
  rintro (h3 | h3)
  · exact hx hne a e h3
  · omega
 have k2 : ∀ {g : Nat} {t : TypeId} {cs : Array Value}, Row w g t cs → ¬ X g → ¬ (X g ∨ g = lb) := fun hr hx => by
  have := hr.lt
  rintro (h3 | h3)
  · exact hx h3
  · omega
 exact ⟨hh.ok, key h.ok.vrd h.xv, key h.ok.brd h.xb, hh.rt, key h.rt h.xt, hh.ot, fun x hx => key (h.ot x hx).reads (h.xo x hx), hh.r1, hh.r2, hh.r3, k2 h.r1 h.x1, k2 h.r2 h.x2, k2 h.r3 h.x3⟩
theorem RunsC.of {p : PgV} {A : Option Addr} {cap : Nat} {ts : List IntsV} {fuel : Int} {X : Nat → Prop} {bt bp bf lim : Nat} {w0 W : World} (hX : ∀ k, X k → lim ≤ k) (hs : w0.heap.size ≤ lim) (hok : p.ok w0) (hr : Rd w0 A (Z6 ts)) (ho : ∀ x ∈ ts, x.ok w0) (b : Below w0.heap.size w0 W)
 (r1 : Row W bt 46 #[.slice A ts.length cap]) (r2 : Row W bp 25 p.cells) (r3 : Row W bf 3 #[.int .i64 fuel]) (x1 : ¬ X bt) (x2 : ¬ X bp) (x3 : ¬ X bf) : RunsC p A cap ts fuel X bt bp bf W := by
 have key : ∀ {xs : List Value} {ad : Option Addr}, Rd w0 ad xs → (xs ≠ [] → ∀ a, ad = some a → ¬ X a.block) := fun h hne a e hx => by
  have h1 := Xj h hne e
  have h2 := hX _ hx
  omega
 exact ⟨hok.go b, key hok.vrd, key hok.brd, hr.go b, key hr, fun x hx => (ho x hx).go b, fun x hx => key (ho x hx).reads, r1, r2, r3, x1, x2, x3⟩
def RnX.rn (x : RnX) : Rn := ⟨x.r.kind, x.r.value, AbN x.r⟩
theorem RnP.rn {p : PgV} {fuel : Int} {ts : List (List Int)} {pre : List RnX} {x : RnX} {W : World} (h : RnP p fuel ts pre x W) : ∃ l, ts[pre.length]? = some l ∧ x.rn = rnZ p fuel l := by
 obtain ⟨_, ⟨l, hl, A, c, e⟩, _, _⟩ := h
 exact ⟨l, hl, by unfold RnX.rn; rw [e]; rfl⟩
def JK (l : List Rn) : List Value := l.flatMap fun r => r.cells.toList
theorem AdJ (l : List Rn) (r : Rn) : JK (l ++ [r]) = JK l ++ r.cells.toList := by simp [JK]
end Go.Proofs.YtdcmppdhdcjpfaaGreat
namespace Go.Proofs.YtdcmppdhdcjpfaaGreat
open Go.RowKit Go.Deep
def Afc (x : DlV) (v i : Int) (r : RunV) : MtV := ⟨x.A, x.cap, ⟨x.d, v, i, r.kind, r.value, AbN r⟩⟩
structure NoteR (M : Nat) (y : MtV) (w w' : World) (e : Ending) : Prop where
 ex : e = .returned (.tuple #[]) ∧ Row w' M 54 y.cells.toArray ∧ ∃ w1, Below w.heap.size w w1 ∧ Only M w1 w'
theorem Aco (x : DlV) (v i : Int) (r : RunV) (D M : Nat) (cur : Array Value) (w : World) (hD : Row w D 35 x.cells) (hM : Row w M 54 cur) (hsz : cur.size = 8) (hok : r.ok w) (hl : r.evs.length ≤ 10000) :
 Calls Tryz.prog 73 #[.int .i64 v, .int .i64 i, r.val, .pointer (some ⟨D, 0, none⟩), .pointer (some ⟨M, 0, none⟩)] w fun e w' => NoteR M (Afc x v i r) w w' e := by
 rw [show r.val = .agg r.cells from rfl]
 have hbld : ∀ W : World, (Instr.build 54 #[(0, .agg x.cells), (1, .int .i64 v), (2, .int .i64 i), (3, .agg (Ym r.kind r.value).toArray), (4, .string ⟨(AbN r).toArray⟩)]).run Tryz.prog W = .ok (.agg (Afc x v i r).cells.toArray) W := fun W => by kernel_rfl
 go_enter Tryz.func73, Tryz.ntmps73
 go_wp2_with (refine Qp _ _ rfl ?_)
 refine Stop.to ?_
 refine Qf rfl 40 _ rfl r.cells rfl ?_
 intro G Gw Gh Gr Gb
 have b1 := (Below.refl w.heap.size w).trans (Gb.mono Gh)
 have hDl := hD.lt
 have hMl := hM.lt
 have hD1 := hD.below b1 hDl
 have hM1 := hM.below b1 hMl
 obtain ⟨S, hSd⟩ : ∃ S, S = (fun W => (Row W D 35 x.cells ∧ Row W M 54 cur) ∧ (Row W G 40 r.cells ∧ r.ok W) ∧ Below w.heap.size w W) := ⟨_, rfl⟩
 have stS : St S := by rw [hSd]; infer_instance
 have TD : Hid (∀ W, S W → Row W D 35 x.cells) := by show ∀ W, _; rw [hSd]; exact fun W h => h.1.1
 have TM : Hid (∀ W, S W → Row W M 54 cur) := by show ∀ W, _; rw [hSd]; exact fun W h => h.1.2
 have TG : Hid (∀ W, S W → Row W G 40 r.cells) := by show ∀ W, _; rw [hSd]; exact fun W h => h.2.1.1
 have TO : Hid (∀ W, S W → r.ok W) := by show ∀ W, _; rw [hSd]; exact fun W h => h.2.1.2
 have TB : Hid (∀ W, S W → Below w.heap.size w W) := by show ∀ W, _; rw [hSd]; exact fun W h => h.2.2
 have hS : S Gw := by rw [hSd]; exact ⟨⟨hD1, hM1⟩, ⟨Gr, St.go (S := fun W => r.ok W) hok b1⟩, b1⟩
 clear hSd hD hM hok hDl hMl hD1 hM1 Gr Gb Gh b1
 go_wp2_with fail
 refine Zt S 8 (by kernel_rfl) (by kernel_rfl) (St.drew hS) ?_
 clear hS
 simp only [List.take_succ_cons, List.take_zero, List.drop_succ_cons, List.drop_zero]
 (refine QO rfl 35 _ rfl (D) rfl 35 _ _ TD.out Tryz.underlying35 rfl (by kernel_rfl) ?_; simp only [Act.put, Qa, Qb, Qc])
 iterate 3 (refine Qg rfl ?_ (fun W hW => ?_) ?_; rotate_left; (focus (go_simp; exact rfl)); simp only [Act.put, Qa, Qb, Qc])
 (refine Jf rfl 37 _ rfl (⟨G, 0, none⟩) rfl (Ym r.kind r.value) _ (fun W hW => Uh (TG.out W hW)) Tryz.underlying37 rfl (by kernel_rfl) ?_; simp only [Act.put, Qa, Qb, Qc])
 (refine QO rfl 40 _ rfl (G) rfl 40 _ _ TG.out Tryz.underlying40 rfl (by kernel_rfl) ?_; simp only [Act.put, Qa, Qb, Qc])
 (refine QE rfl 33 _ (fun W => by (go_simp; try rfl)) (.string ⟨(AbN r).toArray⟩) (fun W hW => Abe r W (TO.out W hW) hl) ?_; simp only [Act.put, Qa, Qb, Qc])
 (refine Qg rfl (.agg (Afc x v i r).cells.toArray) (fun W hW => XW 54 [_, _, _, _, _] rfl _ (by exact hbld W)) ?_; simp only [Act.put, Qa, Qb, Qc])
 refine QV fun W hW => ?_
 have rM := TM.out W hW
 have bW := TB.out W hW
 clear hW TD TM TG TO TB stS hbld
 go_wp2_with (refine QD 54 _ _ rfl ?_)
 refine Stop.to ?_
 refine Qk rfl 54 _ _ rfl M (Afc x v i r).cells.toArray rfl rfl 54 _ rM (by kernel_rfl) hsz (by simp [Afc, MtV.cells, Value.oneCell']) ?_
 intro W2 r2 o2
 have HF : Hid (NoteR M (Afc x v i r) w W2 (.returned (.tuple #[]))) := ⟨rfl, r2, W, bW, o2⟩
 clear rM bW r2 o2
 go_wp2_with fail
 refine bodyPost_end (results_none rfl _ _ _) rfl ?_
 exact HF.out
end Go.Proofs.YtdcmppdhdcjpfaaGreat
