/- Lemmas for VerdictJustP. -/
import Derived.Test.YtdcmppdhdcjpfaaGreatZy1
import Derived.Test.YtdcmppdhdcjpfaaGreatZy3
import Derived.Test.YtdcmppdhdcjpfaaGreatZy4
import Derived.Shelf.Bits.Mul64
import Derived.Test.YtdcmppdhdcjpfaaGreatRows
import Derived.WalkKit
import Derived.Laws.CopyOwn
import Derived.Deep.RegionLaw
set_option linter.unusedVariables false
set_option linter.unusedSimpArgs false
set_option maxRecDepth 100000
set_option maxHeartbeats 16000000
namespace Go.Proofs.YtdcmppdhdcjpfaaGreat
open Go.RowKit Go.Deep
def JB (k : Int) : Option (Int × List Int) :=
 if k = 1 then some (0, []) else if k = 2 then some (1, []) else if k = 5 then some (0, [0]) else if k = 6 then some (1, [1]) else if k = 18 then some (1, [1, 1]) else if k = 19 then some (1, [1, 1])
 else if k = 23 then some (2, [1, 2, 2]) else if k = 24 then some (2, [1, 2]) else if k = 25 then some (2, [0]) else if k = 26 then some (2, [])
 else if 7 ≤ k ∧ k ≤ 11 then some (0, [0, 0]) else if 12 ≤ k ∧ k ≤ 17 then some (1, [0, 0]) else none
def Aiu (k : Int) : Option (Int × List Int) := if k = 4 then some (0, [0]) else if k = 22 then some (2, [0, 0]) else none
inductive RuleR (W : World) : Int → Value → Prop
 | plain (k is : Int) (A : Option Addr) (n cap : Nat) (want : List Int) (hc : JB k = some (is, want)) (hn : n = want.length) (hr : Rd W A (Qi want)) : RuleR W k (.iface 257 (.agg #[.slice A n cap, .int .i64 is]))
 | scalar (k : Int) (b : Bool) (h : k = 3 ∧ b = false ∨ k = 21 ∧ b = true) : RuleR W k (.iface 259 (.agg #[.bool b]))
 | array (k is : Int) (A : Option Addr) (n cap : Nat) (want : List Int) (hc : Aiu k = some (is, want)) (hn : n = want.length) (hr : Rd W A (Qi want)) : RuleR W k (.iface 261 (.agg #[.slice A n cap, .int .i64 is]))
theorem RuleR.go {W W' : World} {k : Int} {v : Value} (h : RuleR W k v) (b : Below W.heap.size W W') : RuleR W' k v := by
 cases h with
 | plain is A n cap want hc hn hr => exact .plain _ _ _ _ _ _ hc hn (hr.go b)
 | scalar b' h => exact .scalar _ _ h
 | array is A n cap want hc hn hr => exact .array _ _ _ _ _ _ hc hn (hr.go b)
theorem Rd.only_map {W W' : World} {A : Option Addr} {xs : List Value} {M : Nat} {es : List (Int × Value)} (h : Rd W A xs) (hm : MapB W M es) (o : Only M W W') : Rd W' A xs := fun j u hj => by
 obtain ⟨g, e, i⟩ := h j u hj;refine ⟨g, e, ?_⟩
 have d : (g.add j).block ≠ M := fun k => by
  obtain ⟨arr, c, l, _⟩ := hm;simp [World.cell?, k, l] at i
 rw [← i];simp only [World.cell?, o.block _ d]
theorem RuleR.only {W W' : World} {k : Int} {v : Value} {M : Nat} {es : List (Int × Value)} (h : RuleR W k v) (hm : MapB W M es) (o : Only M W W') : RuleR W' k v := by
 cases h with
 | plain is A n cap want hc hn hr => exact .plain _ _ _ _ _ _ hc hn (hr.only_map hm o)
 | scalar b' h => exact .scalar _ _ h
 | array is A n cap want hc hn hr => exact .array _ _ _ _ _ _ hc hn (hr.only_map hm o)
structure RS (w W : World) (M : Nat) (D : List Int) : Prop where
 below : Below w.heap.size w W
 lo : w.heap.size ≤ M
 map : ∃ es, MapB W M es ∧ es.map (·.1) = D ∧ ∀ p ∈ es, RuleR W p.1 p.2
theorem RS.go {w W W' : World} {M : Nat} {D : List Int} (h : RS w W M D) (b : Below W.heap.size W W') : RS w W' M D := by
 obtain ⟨d, c, e, g⟩ := h.map;exact ⟨h.below.trans (b.mono h.below.size), h.lo, d, c.below b c.lt, e, fun p i => (g p i).go b⟩
theorem RS.alloc {w W : World} {M : Nat} {D : List Int} (h : RS w W M D) (o : Obj) : RS w (W.alloc o) M D := h.go ((Below.refl _ _).alloc (Nat.le_refl _) o)
theorem YO {k : Int} : ∀ {es : List (Int × Value)}, k ∉ es.map (·.1) → Jt k es = none
 | [], _ => rfl
 | (k', v) :: es, h => by
  rw [Jt, if_neg (fun e => h (by simp [e]))]
  exact YO (fun hm => h (by simp at hm ⊢; exact .inr hm))
theorem AaB {k : Int} {v : Value} : ∀ {es : List (Int × Value)}, Jt k es = some v → (k, v) ∈ es
 | [], h => by cases h
 | (k', v') :: es, h => by
  rw [Jt] at h
  split at h
  · rename_i e; injection h with h; subst e h; simp
  · exact List.mem_cons_of_mem _ (AaB h)
theorem VP {k : Int} : ∀ {es : List (Int × Value)}, k ∈ es.map (·.1) → ∃ v, Jt k es = some v
 | [], h => by simp at h
 | (k', v') :: es, h => by
  rw [Jt]
  by_cases e : k = k'
  · exact ⟨v', if_pos e⟩
  · rw [if_neg e]
    refine VP ?_
    simp only [LE, Lt] at h
    rcases h with h | h
    · exact absurd h e
    · exact h
theorem Ks {ops : Array Oper} {rest : List Oper} {o : Oper} {a : Act} {w W : World} {Q : Exit → Act → World → Prop} {M : Nat} {D : List Int} (hgd : o.guard = none) (m x y : Operand) (ho : o.op = .insert 191 m x y ∨ o.op = .mapUpdate 191 m x y) (hm : a.eval m = .map (some M)) (k : Int) (v : Value) (hx : a.eval x = .int .i64 k) (hy : a.eval y = v) (hs : RS w W M D) (hn : k ∉ D) (hr : RuleR W k v)
 (h : ∀ W', RS w W' M (D ++ [k]) → wpList Tryz.prog ops Q rest (a.put o.dst undef) W') : wpList Tryz.prog ops Q (o :: rest) a W := by
 obtain ⟨l, d, g, i⟩ := hs.map;subst g;refine Xs hgd m x y ho Tryz.underlying191 Tryz.underlying3 d hm k v hx hy (YO hn) ?_;intro W' j e;refine h W' ⟨Qo hs.below e hs.lo, hs.lo, _, j, by simp, fun p c => ?_⟩;rcases L3.1 c with c | c
 · exact (i p c).only d e
 · rw [Ls.1 c]; exact hr.only d e
theorem Agz (w : World) : Calls Tryz.prog 127 #[] w fun e w' => ∃ M D, e = .returned (.map (some M)) ∧ RS w w' M D ∧ ∀ k, k ∈ D ↔ (1 ≤ k ∧ k ≤ 26 ∧ k ≠ 20) := by
 have r : ∀ w : World, (Instr.makeMap 191 none).run Tryz.prog w = .ok (.map (some w.heap.size)) (w.alloc (.map #[] 0)) := fun _ => by kernel_rfl
 go_enter Tryz.func127, Tryz.ntmps127
 have r0 : RS w (w.alloc (.map #[] 0)) w.heap.size [] := ⟨(Below.refl _ _).alloc (Nat.le_refl _) _, Nat.le_refl _, [], MapB.new w, rfl, fun p hp => by simp at hp⟩;obtain ⟨M, n⟩ : ∃ M, M = w.heap.size := ⟨_, rfl⟩;go_wp2_with (refine Ks rfl _ _ _ (.inl rfl) rfl _ _ rfl rfl (by first | assumption | exact RS.alloc (by assumption) _) (by decide) (by first | exact RuleR.scalar _ _ (by decide) | exact RuleR.plain _ _ _ _ _ [] rfl rfl (Rd.nil _ _) | exact RuleR.plain _ _ _ _ _ [0] rfl rfl (Z7 _ (Qi [0]) _) | exact RuleR.plain _ _ _ _ _ [1] rfl rfl (Z7 _ (Qi [1]) _) | exact RuleR.plain _ _ _ _ _ [1, 1] rfl rfl (Z7 _ (Qi [1, 1]) _) | exact RuleR.plain _ _ _ _ _ [1, 2] rfl rfl (Z7 _ (Qi [1, 2]) _) | exact RuleR.plain _ _ _ _ _ [1, 2, 2] rfl rfl (Z7 _ (Qi [1, 2, 2]) _) | exact RuleR.array _ _ _ _ _ [0] rfl rfl (Z7 _ (Qi [0]) _) | exact RuleR.array _ _ _ _ _ [0, 0] rfl rfl (Z7 _ (Qi [0, 0]) _)) ?_; intro u s)
 have c : RS w u M ([1, 2, 3, 21, 4, 22, 5, 6, 18, 19, 23, 24, 25, 26]) := by rw [n]; exact s
 have HM := Lh n;rw [← n];clear s r0 r n;go_loopw [2] (fun i wr => ∃ (k : Nat) (D : List Int), i = .int .i64 (k : Int) ∧ 7 ≤ k ∧ k ≤ 18 ∧ RS w wr M D ∧ Hid (∀ j : Int, j ∈ D ↔ (j ∈ [1, 2, 3, 21, 4, 22, 5, 6, 18, 19, 23, 24, 25, 26] ∨ (7 ≤ j ∧ j < (k : Int))))) (fun i _ => 18 - (intOf i).toNat)
 case atStart => exact ⟨7, _, rfl, by omega, by omega, c, Lh (fun j => ⟨.inl, fun h => h.elim id (fun h => by omega)⟩)⟩
 case round =>
  clear c;obtain ⟨k, D, rfl, h7, y, c, m⟩ := hrel;by_cases z : k < 18
  · have g : (k : Int) ∉ D := fun h => by
     rcases (m.out (k : Int)).1 h with h | h
     · simp only [Lt, L0, or_false] at h; omega
     · omega
    have d := Lh g;clear g;by_cases x : k < 12
    · have l : JB (k : Int) = some (0, [0, 0]) := by
       unfold JB
       repeat (first | rw [if_neg (show ¬ _ by omega)] | rw [if_pos (show _ by omega)])
      have o := Lh l;clear l;go_wp2_with (refine Ks rfl _ _ _ (.inr rfl) rfl _ _ rfl rfl (RS.alloc c _) d.out (RuleR.plain _ _ _ _ _ [0, 0] o.out rfl (Z7 wr (Qi [0, 0]) _)) ?_; intro v q)
      go_roundw
      case rel =>
       refine ⟨k + 1, _, by go_num, by omega, by omega, q, Lh (fun j => ?_)⟩;rw [L3, m.out j, Ls];constructor
       · rintro ((h | h) | h)
         · exact .inl h
         · exact .inr (by omega)
         · exact .inr (by omega)
       · rintro (h | h)
         · exact .inl (.inl h)
         · by_cases e : j = (k : Int)
           · exact .inr e
           · exact .inl (.inr (by omega))
      case measure => simp [intOf]; omega
    · have t : 12 ≤ k := by omega
      have l : JB (k : Int) = some (1, [0, 0]) := by
       unfold JB
       repeat (first | rw [if_neg (show ¬ _ by omega)] | rw [if_pos (show _ by omega)])
      have o := Lh l;clear l;go_wp2_with (refine Ks rfl _ _ _ (.inr rfl) rfl _ _ rfl rfl (RS.alloc c _) d.out (RuleR.plain _ _ _ _ _ [0, 0] o.out rfl (Z7 wr (Qi [0, 0]) _)) ?_; intro v q)
      go_roundw
      case rel =>
       refine ⟨k + 1, _, by go_num, by omega, by omega, q, Lh (fun j => ?_)⟩;rw [L3, m.out j, Ls];constructor
       · rintro ((h | h) | h)
         · exact .inl h
         · exact .inr (by omega)
         · exact .inr (by omega)
       · rintro (h | h)
         · exact .inl (.inl h)
         · by_cases e : j = (k : Int)
           · exact .inr e
           · exact .inl (.inr (by omega))
      case measure => simp [intOf]; omega
  · obtain rfl : k = 18 := by omega
    go_wp2
    go_ret
    refine ⟨M, D, rfl, c, fun j => ?_⟩;rw [m.out j];simp only [Lt, L0, or_false];omega
theorem Aap (A : Option Addr) (n cap : Nat) (is : Int) (p : PgV) (x : Nd) (w : World) : Calls Tryz.prog 346 #[.agg #[.slice A n cap, .int .i64 is], .agg p.cells, .agg x.cells.toArray] w fun e w' => e = .returned (.int .i64 is) ∧ Below w.heap.size w w' := by
 go_enter Tryz.func346, Tryz.ntmps346
 go_wp2_with (refine Qn _ _ rfl ?_)
 refine Stop.to ?_;refine Qe rfl 257 _ rfl #[.slice A n cap, .int .i64 is] rfl ?_;intro R y o c m;go_wp2_with (refine Qn _ _ rfl ?_)
 refine Stop.to ?_;refine Qe rfl 25 _ rfl p.cells rfl ?_;intro G u g r d;go_wp2_with (refine Qn _ _ rfl ?_)
 refine Stop.to ?_;refine Qe rfl 85 _ rfl x.cells.toArray rfl ?_;intro X z j s h;have q := (c.below d (Lc c.lt g)).below h (Lc (c.below d (Lc c.lt g)).lt j);have k := (Below.refl w.heap.size w).trans (m.mono o);have l := k.trans ((d.mono g).mono k.size);have t := l.trans ((h.mono j).mono l.size);have c1 := q.cellv (i := 1) (v := .int .i64 is) rfl;clear q c r s m d h k l o g j;go_wp2
 go_ret
 exact ⟨rfl, t⟩
def Xq (V : List Int) (n : Int) (b : Bool) : Int := if Kl V n then (if b then 2 else (V[n.toNat]?).getD 0) else -1
theorem E4 (b : Bool) (p : PgV) (t n : Int) (w : World) (hok : p.ok w) (hn : 0 ≤ n) : Calls Tryz.prog 347 #[.agg #[.bool b], .agg p.cells, .agg (Nd.cells ⟨t, n⟩).toArray] w fun e w' => e = .returned (.int .i64 (Xq p.V n b)) ∧ Below w.heap.size w w' := by
 have l := Lh hok;clear hok;obtain ⟨k, rfl⟩ : ∃ k : Nat, n = (k : Int) := ⟨n.toNat, by omega⟩;obtain ⟨c, va, d, V, ba, g, h⟩ := p;dsimp only;rw [show (PgV.mk c va d V ba g h).cells = #[.int .i64 c, .slice va V.length d, .slice ba h.length g] from rfl, show (Nd.cells ⟨t, (k : Int)⟩).toArray = #[.int .i64 t, .int .i64 (k : Int)] from rfl];go_enter Tryz.func347, Tryz.ntmps347
 go_wp2_with (refine Qn _ _ rfl ?_)
 refine Stop.to ?_;refine Qe rfl 259 _ rfl #[.bool b] rfl ?_;intro R Rw Rh o Rb;go_wp2_with (refine Qn _ _ rfl ?_)
 refine Stop.to ?_;refine Qe rfl 25 _ rfl #[.int .i64 c, .slice va V.length d, .slice ba h.length g] rfl ?_;intro G Gw u Gr s;go_wp2_with (refine Qn _ _ rfl ?_)
 refine Stop.to ?_;refine Qe rfl 85 _ rfl #[.int .i64 t, .int .i64 (k : Int)] rfl ?_;intro X Xw y Xr x;have rG := Gr.below x (Lc Gr.lt y);have rR := (o.below s (Lc o.lt u)).below x (Lc (o.below s (Lc o.lt u)).lt y);have b1 := (Below.refl w.heap.size w).trans (Rb.mono Rh);have b2 := b1.trans ((s.mono u).mono b1.size);have z := b2.trans ((x.mono y).mono b2.size);have c0 := rR.cellv (i := 0) (v := .bool b) rfl;have c1 := rG.cellv (i := 1) (v := .slice va V.length d) rfl;have c2 := Xr.cellv (i := 1) (v := .int .i64 (k : Int)) rfl;have m := Lh (l.out.go z).vrd;dsimp only at m;clear rR rG o Gr Xr Rb s x b1 b2 Rh u y l;by_cases hk : k < V.length;rotate_left
 · have r : Hid (Xq V (k : Int) b = -1) := by show _ = _; unfold Xq Kl; rw [Li, Nj (by omega)]; rfl
   have ab : (V.length : Int) ≤ (k : Int) := by omega
   clear hk;go_wp2
   go_ret
   exact ⟨QP r.out, z⟩
 obtain ⟨v, q⟩ : ∃ v, V[k]? = some v := ⟨_, Lb hk⟩;obtain ⟨ad, aa, hc⟩ := Q9 m.out q;have ab : (k : Int) < (V.length : Int) := by omega
 subst aa;by_cases j : v = 0 ∨ v = 1
 · have r : Hid (Xq V (k : Int) b = if b then 2 else v) := by
    show _ = _;unfold Xq Kl;rw [Li, q];simp only;rw [if_pos (by simpa using j)]; rfl
   clear q hk;rcases j with rfl | rfl
   all_goals
    cases b
    all_goals
     go_wp2
     go_ret
     exact ⟨QP r.out, z⟩
 · have r : Hid (Xq V (k : Int) b = -1) := by
    show _ = _;unfold Xq Kl;rw [Li, q];simp only;rw [if_neg (by simpa using j)]
   have e0 : (v != 0) = true := by simp; omega
   have e1 : (v != 1) = true := by simp; omega
   clear q hk j;go_wp2
   go_ret
   exact ⟨QP r.out, z⟩
def Ye (V : List Int) (n is : Int) : Int := if Yd V n then is else -1
theorem Aai (A : Option Addr) (m cap : Nat) (is : Int) (p : PgV) (t n : Int) (w : World) (hok : p.ok w) (hn : 0 ≤ n) : Calls Tryz.prog 348 #[.agg #[.slice A m cap, .int .i64 is], .agg p.cells, .agg (Nd.cells ⟨t, n⟩).toArray] w fun e w' => e = .returned (.int .i64 (Ye p.V n is)) ∧ Below w.heap.size w w' := by
 have l := Lh hok;clear hok;obtain ⟨k, rfl⟩ : ∃ k : Nat, n = (k : Int) := ⟨n.toNat, by omega⟩;obtain ⟨c, va, d, V, ba, h, j⟩ := p;dsimp only;rw [show (PgV.mk c va d V ba h j).cells = #[.int .i64 c, .slice va V.length d, .slice ba j.length h] from rfl, show (Nd.cells ⟨t, (k : Int)⟩).toArray = #[.int .i64 t, .int .i64 (k : Int)] from rfl];go_enter Tryz.func348, Tryz.ntmps348
 go_wp2_with (refine Qn _ _ rfl ?_)
 refine Stop.to ?_;refine Qe rfl 261 _ rfl #[.slice A m cap, .int .i64 is] rfl ?_;intro R Rw Rh s Rb;go_wp2_with (refine Qn _ _ rfl ?_)
 refine Stop.to ?_;refine Qe rfl 25 _ rfl #[.int .i64 c, .slice va V.length d, .slice ba j.length h] rfl ?_;intro G Gw y Gr x;go_wp2_with (refine Qn _ _ rfl ?_)
 refine Stop.to ?_;refine Qe rfl 85 _ rfl #[.int .i64 t, .int .i64 (k : Int)] rfl ?_;intro X Xw Xh Xr z;have rG := Gr.below z (Lc Gr.lt Xh);have rR := (s.below x (Lc s.lt y)).below z (Lc (s.below x (Lc s.lt y)).lt Xh);have b1 := (Below.refl w.heap.size w).trans (Rb.mono Rh);have b2 := b1.trans ((x.mono y).mono b1.size);have b3 := b2.trans ((z.mono Xh).mono b2.size);have c0 := rR.cellv (i := 1) (v := .int .i64 is) rfl;have c1 := rG.cellv (i := 1) (v := .slice va V.length d) rfl;have c2 := Xr.cellv (i := 1) (v := .int .i64 (k : Int)) rfl;have r := Lh (l.out.go b3).vrd;have q := Lh l.out.vin;dsimp only at r q;clear rR rG s Gr Xr Rb x z b1 b2 Rh y Xh l;by_cases hk : k < V.length;rotate_left
 · have u : Hid (Ye V (k : Int) is = -1) := by show _ = _; unfold Ye Yd; rw [Li, Nj (by omega)]; rfl
   have ab : (V.length : Int) ≤ (k : Int) := by omega
   clear hk;go_wp2
   go_ret
   exact ⟨QP u.out, b3⟩
 obtain ⟨v, o⟩ : ∃ v, V[k]? = some v := ⟨_, Lb hk⟩;obtain ⟨ad, aa, hc⟩ := Q9 r.out o;have Hi := Lh (q.out v (Lg o));have ab : (k : Int) < (V.length : Int) := by omega
 subst aa;by_cases g : Qy v = 0
 · have u : Hid (Ye V (k : Int) is = -1) := by
    show _ = _;unfold Ye Yd;rw [Li, o];simp only;rw [if_neg (by simpa using g)]
   have e0 : (Qy v == 0) = true := by simpa using g
   clear o hk g;go_wp2_with (go_at_call 56; refine (JD v _ Hi.out).mono ?_; rintro e w' ⟨rfl, rfl⟩)
   go_ret
   exact ⟨QP u.out, b3⟩
 · have u : Hid (Ye V (k : Int) is = is) := by
    show _ = _;unfold Ye Yd;rw [Li, o];simp only;rw [if_pos (by simpa using g)]
   have e0 : (Qy v == 0) = false := by simpa using g
   clear o hk g;go_wp2_with (go_at_call 56; refine (JD v _ Hi.out).mono ?_; rintro e w' ⟨rfl, rfl⟩)
   go_ret
   exact ⟨QP u.out, b3⟩
end Go.Proofs.YtdcmppdhdcjpfaaGreat
namespace Go.Proofs.YtdcmppdhdcjpfaaGreat
open Go.Shelf
def AcX : Go.Shelf.Ren := ⟨fun | 212 => 271 | 263 => 292 | 264 => 293 | n => n, fun | 46 => 278 | 51 => 92 | 146 => 334 | 53 => 219 | 148 => 336 | n => n, fun | n => n⟩
theorem Ai0 : Go.Proofs.Lays.n212 Tryz.prog AcX := {
 mixed := by kernel_rfl
 f212 := Tryz.func271.trans (congrArg some (by kernel_rfl))
 f263 := Tryz.func292.trans (congrArg some (by kernel_rfl))
 f264 := Tryz.func293.trans (congrArg some (by kernel_rfl))
 t46 := Tryz.underlying278
 a46 := Tryz.isAgg278
 z46 := Tryz.sizeOf278
 v46 := Tryz.zeroValue278
 t51 := Tryz.underlying92
 a51 := Tryz.isAgg92
 z51 := Tryz.sizeOf92
 v51 := Tryz.zeroValue92
 t53 := Tryz.underlying219
 a53 := Tryz.isAgg219
 z53 := Tryz.sizeOf219
 v53 := Tryz.zeroValue219
 t146 := Tryz.underlying334
 a146 := Tryz.isAgg334
 z146 := Tryz.sizeOf334
 v146 := Tryz.zeroValue334
 t148 := Tryz.underlying336
 a148 := Tryz.isAgg336
 z148 := Tryz.sizeOf336
 v148 := Tryz.zeroValue336 }
open Go.RowKit Go.Lib in
theorem bits_Mul (x y : Nat) (hx : x < 18446744073709551616) (hy : y < 18446744073709551616) (w : World) :
 Calls Tryz.prog 271 #[.int .u64 x, .int .u64 y] w fun e w' => e = .returned (.tuple #[.int .u64 ((x * y / 18446744073709551616 : Nat) : Int), .int .u64 ((x * y % 18446744073709551616 : Nat) : Int)]) ∧ w' = w := Any.bits_Mul Ai0 x y hx hy w
end Go.Proofs.YtdcmppdhdcjpfaaGreat
namespace Go.Proofs.YtdcmppdhdcjpfaaGreat
open Go.RowKit Go.Deep
theorem Kv (z : Value) (n : Nat) : madeCells #[z] n = (List.replicate n z).toArray := by
 unfold madeCells;apply Array.ext
 · simp
 · intro i c d; simp [Nat.mod_one]
theorem AkF (a b : Nat) : Nat.min a b ≤ a ∧ Nat.min a b ≤ b ∧ (Nat.min a b = a ∨ Nat.min a b = b) := by
 show min a b ≤ a ∧ min a b ≤ b ∧ (min a b = a ∨ min a b = b);omega
theorem JC {P : Program} {o : Oper} {w w1 : World} {ρ : Operand → Value} {s x : Operand} {t t' : TypeId} (ho : o.op = .call { callee := .builtin .copy, args := #[s, x], argTypes := #[t, t'] }) {v : Value} (hv : (Builtin.copy_ #[t, t'] o.type #[ρ s, ρ x]).run P w = .ok v w1) : (execOp ρ o).run P w = .ok (.value v) w1 := by
 unfold execOp;simp only [ho, resolve, invoke, builtin, Sem.run_bind, Sem.run_pure, Result.andThen_ok, Nv, LE, Nc, hv]
theorem E8 (k n m : Nat) (x : Int) (hk : k + m ≤ n) : splice (Qi (List.replicate k x ++ List.replicate (n - k) 0)) k (Qi (List.replicate m x)) = Qi (List.replicate (k + m) x ++ List.replicate (n - (k + m)) 0) := by
 unfold splice Qi;simp only [Nk, List.map_replicate, No];rw [Nq (by simp), LH (by simp), List.drop_append, N4 (by simp), No, List.drop_replicate, Lo, ← Lz, List.replicate_append_replicate, show n - k - (k + m - k) = n - (k + m) by omega]
theorem AeL (g cap n : Nat) (x : Int) (w : World) (hr : Row w g 3 #[.int .i64 x]) (hn : n ≤ 1000) : Calls Tryz.prog 251 #[.slice (some ⟨g, 0, none⟩) 1 cap, .int .i64 (n : Int)] w fun e w' => IntsR (List.replicate n x) w w' e := by
 have aa : ∀ W, Calls Tryz.prog 271 #[.int .u64 1, .int .u64 (n : Int)] W fun e w' => e = .returned (.tuple #[.int .u64 0, .int .u64 (n : Int)]) ∧ w' = W := fun W => by
  have := bits_Mul 1 n (by omega) (by omega) W;rw [Nat.one_mul, Nat.div_eq_of_lt (by omega), ND (by omega)] at this;exact this
 have t := Lh aa;clear aa
 have am : ∀ W : World, (Instr.makeSlice 22 (.int .i64 (n : Int)) (.int .i64 (n : Int))).run Tryz.prog W = .ok (.slice (some ⟨W.heap.size, 0, none⟩) n n) (W.alloc (.cells (Qi (List.replicate n 0)).toArray 3)) := fun W => by
  have := run_make_row' (P := Tryz.prog) (w := W) 22 3 (.int .i64 0) 8 Tryz.underlying22 Z9 rfl .i64 .i64 n (by omega) (by omega);rw [show madeCells #[Value.int .i64 0] n = (Qi (List.replicate n 0)).toArray from by rw [Kv]; simp [Qi]] at this;exact this
 go_enter Tryz.func251, Tryz.ntmps251
 have ao : decide ((n : Int) < 0) = false := by simp
 have ak : decide (9223372036854775807 < (n : Int)) = false := by simp; omega
 go_wp2_with fail
 refine (t.out w).mono ?_;rintro e w1 ⟨rfl, hw⟩;subst hw;clear t;have d := E8 0 n (Nat.min 1 n) x (by rw [LJ]; exact Nat.min_le_right _ _);rw [LJ, List.replicate_zero, Lo, Nat.sub_zero] at d;have l := Lh d;clear d;have rn := Row.new w1 3 (Qi (List.replicate n 0)).toArray;have aj := hr.alloc (.cells (Qi (List.replicate n 0)).toArray 3)
 have af : ∀ (j : Nat) (v : Value), (Qi (List.replicate (Nat.min 1 n) x))[j]? = some v → (w1.alloc (.cells (Qi (List.replicate n 0)).toArray 3)).cell? ((⟨g, 0, none⟩ : Addr).add j) = some v :=
  aj.from_ 0 (cs := Qi (List.replicate (Nat.min 1 n) x)) (fun j v hj => by
   have c := (La.1 hj).1
   have h1 : (Qi (List.replicate (Nat.min 1 n) x)).length ≤ 1 := by simp [Qi]; exact Nat.min_le_left _ _
   obtain rfl : j = 0 := by omega
   rw [← hj]
   simp only [Qi, List.map_replicate, NJ]
   rw [if_pos (by simpa [Qi] using c)]; rfl)
 have ac := Lh af;have Rn := Lh rn;have p : (Qi (List.replicate (Nat.min 1 n) x)).length = Nat.min 1 n := by simp [Qi]
 have q := Lh p;clear rn aj hr af p;go_wp2_with (refine wpList_copy_splice rfl (.tmp 31) (.tmp 32) 22 22 rfl 3 Tryz.underlying22 rfl (some ⟨w1.heap.size, 0, none⟩) (some ⟨g, 0, none⟩) n n 1 cap rfl rfl w1.heap.size 0 (Qi (List.replicate n 0)) 3 Rn.out (Qi (List.replicate (Nat.min 1 n) x)) q.out (fun _ => ⟨rfl, _, rfl, ac.out⟩) (by rw [q.out]; simp [Qi]; exact Nat.min_le_right _ _) (Jj _) w1.heap.size w1 ((Below.refl _ _).alloc (Nat.le_refl _) _) (Nat.le_refl _) ?_; intro w2 h2 b2)
 have r2 : Row w2 w1.heap.size 3 (Qi (List.replicate (Nat.min 1 n) x ++ List.replicate (n - Nat.min 1 n) 0)).toArray := by rw [← l.out]; exact h2.out
 obtain ⟨G, hG⟩ : ∃ G, G = w1.heap.size := ⟨_, rfl⟩;rw [← hG] at r2 ⊢;obtain ⟨k0, r⟩ : ∃ k0, k0 = Nat.min 1 n := ⟨_, rfl⟩;rw [q.out, ← r];rw [← r] at r2;have o : k0 ≤ n ∧ (k0 = 0 → n = 0) := by have := AkF 1 n; rw [← r] at this; omega
 have HG := Lh hG;clear hG r l ac Rn q h2 am;go_wp2
 go_loopw [8] (fun i wr => ∃ k : Nat, i = .int .i64 (k : Int) ∧ k ≤ n ∧ (k = 0 → n = 0) ∧ Row wr G 3 (Qi (List.replicate k x ++ List.replicate (n - k) 0)).toArray ∧ Below w1.heap.size w1 wr) (fun i _ => n - (intOf i).toNat)
 case atStart => exact ⟨k0, rfl, o.1, o.2, r2, b2⟩
 case round =>
  clear r2 b2 w2;obtain ⟨k, rfl, au, z, hr, hb⟩ := hrel;by_cases c : k < n
  · have ap : (k : Int) < (n : Int) := by omega
    have al : 0 < k := by
     rcases Nat.eq_zero_or_pos k with h | h
     · have := z h; omega
     · exact h
    obtain ⟨m, hm⟩ : ∃ m, m = Nat.min k (n - k) := ⟨_, rfl⟩;have ai := AkF k (n - k);rw [← hm] at ai;obtain ⟨aq, av, an⟩ := ai;have aw : 0 < m := by omega
    clear an;have Hm := Lh hm;clear hm z c o;have ar : (n : Int) - (k : Int) = ((n - k : Nat) : Int) := by omega
    have ag : ∀ (j : Nat) (v : Value), (Qi (List.replicate m x))[j]? = some v → wr.drew.cell? ((⟨G, 0, none⟩ : Addr).add j) = some v :=
     hr.drew.from_ 0 (cs := Qi (List.replicate m x)) (fun j v hj => by
      have c : j < m := by have := (La.1 hj).1; simpa [Qi] using this
      rw [← hj]
      simp only [Qi, List.map_replicate, NJ, Nk, LJ, N7]
      rw [if_pos c, Ly (by simp; omega), NJ, if_pos (by omega)])
    have ab := Lh ag;have Hr := Lh hr.drew;have Hb := Lh (ZT hb 1);have d := E8 k n m x (by omega);have l := Lh d;have ad : Hid ((Qi (List.replicate m x)).length = Nat.min k (n - k)) := by show _ = _; rw [← Hm.out]; simp [Qi]
    have y : k + (Qi (List.replicate m x)).length ≤ (Qi (List.replicate k x ++ List.replicate (n - k) 0)).length := by simp [Qi]; omega
    have s := Lh y;clear ag hr hb d y;go_wp2_with fail
    refine wp_region_held (S := fun _ => True) (by kernel_rfl) ?_;simp only [Lj, Ld, Lp, Nat.reduceAdd, Ll, Lm, Lr, Lo, Lk];show wpAnyH _ _ _ _ _ _ _ _ wr.drew;have hS : (fun _ : World => True) wr.drew := trivial;have Hb : Hid (Below w1.heap.size w1 wr.drew) := Hb.out;generalize wr.drew = wd at ab Hr hS Hb ⊢;(refine tkH 0 (.int .i64 (k : Int)) rfl (Qd rfl (fun W u => by (go_simp))) ?_; simp only [Act.put, Qa, Qb, Qc]);(refine tkH 1 (.slice (some ⟨G, 0, none⟩) n n) rfl (Qd rfl (fun W u => by (go_simp))) ?_; simp only [Act.put, Qa, Qb, Qc]);(refine tkH 2 (.int .i64 (k : Int)) rfl (Qd rfl (fun W u => by (go_simp))) ?_; simp only [Act.put, Qa, Qb, Qc]);(refine tkH 4 (.slice (some ⟨G, 0, none⟩) n n) rfl (Qd rfl (fun W u => by (go_simp))) ?_; simp only [Act.put, Qa, Qb, Qc]);(refine tkH 5 (.int .i64 (k : Int)) rfl (Qd rfl (fun W u => by (go_simp))) ?_; simp only [Act.put, Qa, Qb, Qc]);(refine tkH 3 (.slice (some ⟨G, k, none⟩) (n - k) (n - k)) rfl (Qd rfl (fun W u => by (go_simp; omega))) ?_; simp only [Act.put, Qa, Qb, Qc]);(refine tkH 6 (.slice (some ⟨G, 0, none⟩) k n) rfl (Qd rfl (fun W u => by (go_simp))) ?_; simp only [Act.put, Qa, Qb, Qc]);(refine wpAnyH_all (rs := [7]) (by kernel_rfl) (by simp) (fun i hi => ?_); obtain rfl : i = 7 := by simpa using hi);refine Qf rfl rfl (fun K2 ae => ?_);refine Ql (goInt (Qi (List.replicate m x)).length) (w1 := _) (by exact JC rfl (run_copy_row (P := Tryz.prog) wd 22 22 _ 3 G k (n - k) (n - k) ⟨G, 0, none⟩ k n _ 3 (Qi (List.replicate m x)) Tryz.underlying22 rfl Hr.out ad.out ab.out (by simpa using s.out) (Jj _))) ?_;rw [show goInt (Qi (List.replicate m x)).length = .int .i64 (m : Int) by simp [goInt, Qi]]
    have r3 : Row (wd.setRow G ((Qi (List.replicate k x ++ List.replicate (n - k) 0)).toArray.toList.take k ++ Qi (List.replicate m x) ++ (Qi (List.replicate k x ++ List.replicate (n - k) 0)).toArray.toList.drop (k + (Qi (List.replicate m x)).length)).toArray) G 3 (Qi (List.replicate (k + m) x ++ List.replicate (n - (k + m)) 0)).toArray := by
     rw [← l.out, splice, ← Lz]; exact Hr.out.setRow _
    have b3 := Ku (g := G) Hb.out (LA HG.out.symm) ((Qi (List.replicate k x ++ List.replicate (n - k) 0)).toArray.toList.take k ++ Qi (List.replicate m x) ++ (Qi (List.replicate k x ++ List.replicate (n - k) 0)).toArray.toList.drop (k + (Qi (List.replicate m x)).length)).toArray;refine ae _ _ ?_;clear ae K2;generalize wd.setRow G _ = we at r3 b3 ⊢;simp only [Act.put, Qa, Qb, Qc];refine ⟨trivial, ?_⟩;have ah : IntKind.i64.wrap ((k : Int) + (m : Int)) = ((k + m : Nat) : Int) := by rw [IntWalk.i64_in _ (by omega)]; omega
    (refine tkH 8 (.int .i64 ((k + m : Nat) : Int)) rfl (Qd rfl (fun W u => by (go_simp; try exact ah))) ?_; simp only [Act.put, Qa, Qb, Qc])
    (refine tkH 9 (.int .i64 ((k + m : Nat) : Int)) rfl (Qd rfl (fun W u => by (go_simp))) ?_; simp only [Act.put, Qa, Qb, Qc]);refine wpAnyH_done (by kernel_rfl) ?_ _;have R3 := Lh r3;have B3 := Lh b3;clear r3 b3 ah Hr ab Hb l ad s;go_wp2
    go_roundw
    case rel => exact ⟨k + m, rfl, by omega, by omega, R3.out, B3.out⟩
    case measure => simp [intOf]; omega
  · obtain rfl : n = k := by omega
    have Hr := Lh hr;clear c hr;go_wp2
    go_ret
    refine ⟨_, rfl, ?_, hb⟩;have h1 := Hr.out;rw [Nu, List.replicate_zero, LU] at h1;rw [No];exact ⟨by simp [Qi], .inr ⟨G, n, _, rfl, by have := HG.out; omega, h1, Nat.le_refl _, by unfold maxLen; omega, by simp [Qi], by simp [Qi]⟩⟩
section
variable {A : Option Addr} {n cap : Nat} {is : Int} {b : Bool} {w : World}
theorem AkT : (Instr.typeAssert (.iface 257 (.agg #[.slice A n cap, .int .i64 is])) 263 257 true).run Tryz.prog w = .ok (.tuple #[.agg #[.slice A n cap, .int .i64 is], .bool true]) w := by kernel_rfl
theorem AkP : (Instr.typeAssert (.iface 261 (.agg #[.slice A n cap, .int .i64 is])) 263 257 true).run Tryz.prog w = .ok (.tuple #[.agg #[.slice none 0 0, .int .i64 0], .bool false]) w := by kernel_rfl
theorem AkO : (Instr.typeAssert (.iface 261 (.agg #[.slice A n cap, .int .i64 is])) 263 261 true).run Tryz.prog w = .ok (.tuple #[.agg #[.slice A n cap, .int .i64 is], .bool true]) w := by kernel_rfl
theorem AkV : (Instr.typeAssert (.iface 259 (.agg #[.bool b])) 263 257 true).run Tryz.prog w = .ok (.tuple #[.agg #[.slice none 0 0, .int .i64 0], .bool false]) w := by kernel_rfl
theorem AkU : (Instr.typeAssert (.iface 259 (.agg #[.bool b])) 263 261 true).run Tryz.prog w = .ok (.tuple #[.agg #[.slice none 0 0, .int .i64 0], .bool false]) w := by kernel_rfl
theorem AkW : (Instr.typeAssert (.iface 259 (.agg #[.bool b])) 263 259 true).run Tryz.prog w = .ok (.tuple #[.agg #[.bool b], .bool true]) w := by kernel_rfl
theorem AkR : (Instr.typeAssert .nilIface 263 257 true).run Tryz.prog w = .ok (.tuple #[.agg #[.slice none 0 0, .int .i64 0], .bool false]) w := by kernel_rfl
theorem AkQ : (Instr.typeAssert .nilIface 263 261 true).run Tryz.prog w = .ok (.tuple #[.agg #[.slice none 0 0, .int .i64 0], .bool false]) w := by kernel_rfl
theorem AkS : (Instr.typeAssert .nilIface 263 259 true).run Tryz.prog w = .ok (.tuple #[.agg #[.bool false], .bool false]) w := by kernel_rfl
theorem AeY : (zeroValue 257).run Tryz.prog w = .ok (.agg #[.slice none 0 0, .int .i64 0]) w := by kernel_rfl
theorem AdQ : (zeroValue 261).run Tryz.prog w = .ok (.agg #[.slice none 0 0, .int .i64 0]) w := by kernel_rfl
theorem Ab9 : (zeroValue 259).run Tryz.prog w = .ok (.agg #[.bool false]) w := by kernel_rfl
end
theorem Acf (A : Option Addr) (n cap : Nat) (is : Int) (p : PgV) (x : Nd) (m : Int) (w : World) : Calls Tryz.prog 208 #[.agg p.cells, .agg x.cells.toArray, .iface 257 (.agg #[.slice A n cap, .int .i64 is]), .int .i64 m] w fun e w' => e = .returned (.slice A n cap) ∧ Below w.heap.size w w' := by
 have t1 := fun w => AkT (A := A) (n := n) (cap := cap) (is := is) (w := w)
 go_enter Tryz.func208, Tryz.ntmps208
 go_wp2_with (refine Qn _ _ rfl ?_)
 refine Stop.to ?_;refine Qe rfl 25 _ rfl p.cells rfl ?_;intro G z j t h;go_wp2_with (refine Qn _ _ rfl ?_)
 refine Stop.to ?_;refine Qe rfl 85 _ rfl x.cells.toArray rfl ?_;intro X Xw s u r;have g := (Below.refl w.heap.size w).trans (h.mono j);have c := g.trans ((r.mono s).mono g.size);go_wp2_with (refine QH _ rfl ?_)
 refine Stop.to ?_;refine Qj rfl 257 rfl _ _ AeY rfl ?_;intro R d o q l;go_wp2_with (refine Qs _ _ _ rfl ?_)
 refine Stop.to ?_;refine Qk rfl 257 _ _ rfl R #[.slice A n cap, .int .i64 is] rfl rfl 257 _ q (by kernel_rfl) rfl (by simp [Value.oneCell']) ?_;intro RW RR k;have RB : Below d.heap.size d d := Below.refl _ _;have y := (c.trans ((l.mono o).mono c.size)).trans (k.below (by have := c.size; omega));have c0 := RR.cellv (i := 0) (v := .slice A n cap) rfl;clear RR k q l t h u r g c j s o RB;go_wp2
 go_ret
 exact ⟨rfl, y⟩
theorem Ace (A : Option Addr) (n cap : Nat) (is : Int) (p : PgV) (x : Nd) (m : Int) (w : World) : Calls Tryz.prog 208 #[.agg p.cells, .agg x.cells.toArray, .iface 261 (.agg #[.slice A n cap, .int .i64 is]), .int .i64 m] w fun e w' => e = .returned (.slice A n cap) ∧ Below w.heap.size w w' := by
 have t1 := fun w => AkP (A := A) (n := n) (cap := cap) (is := is) (w := w)
 have t2 := fun w => AkO (A := A) (n := n) (cap := cap) (is := is) (w := w)
 go_enter Tryz.func208, Tryz.ntmps208
 go_wp2_with (refine Qn _ _ rfl ?_)
 refine Stop.to ?_;refine Qe rfl 25 _ rfl p.cells rfl ?_;intro G z j t h;go_wp2_with (refine Qn _ _ rfl ?_)
 refine Stop.to ?_;refine Qe rfl 85 _ rfl x.cells.toArray rfl ?_;intro X Xw s u r;have g := (Below.refl w.heap.size w).trans (h.mono j);have c := g.trans ((r.mono s).mono g.size);go_wp2_with (refine QH _ rfl ?_)
 refine Stop.to ?_;refine Qj rfl 261 rfl _ _ AdQ rfl ?_;intro R d o q l;go_wp2_with (refine Qs _ _ _ rfl ?_)
 refine Stop.to ?_;refine Qk rfl 261 _ _ rfl R #[.slice A n cap, .int .i64 is] rfl rfl 261 _ q (by kernel_rfl) rfl (by simp [Value.oneCell']) ?_;intro RW RR k;have RB : Below d.heap.size d d := Below.refl _ _;have y := (c.trans ((l.mono o).mono c.size)).trans (k.below (by have := c.size; omega));have c0 := RR.cellv (i := 0) (v := .slice A n cap) rfl;clear RR k q l t h u r g c j s o RB;go_wp2
 go_ret
 exact ⟨rfl, y⟩
structure WantR (want : List Int) (w w' : World) (e : Ending) : Prop where
 ex : ∃ A cap, e = .returned (.slice A want.length cap) ∧ Rd w' A (Qi want) ∧ Below w.heap.size w w'
def KC (V : List Int) (n : Int) (b : Bool) : List Int := if b ∧ n.toNat < V.length then [(V[n.toNat]?).getD 0] else []
theorem Abg (b : Bool) (p : PgV) (t n : Int) (hn : 0 ≤ n) (m : Int) (w : World) (hok : p.ok w) : Calls Tryz.prog 208 #[.agg p.cells, .agg (Nd.cells ⟨t, n⟩).toArray, .iface 259 (.agg #[.bool b]), .int .i64 m] w fun e w' => WantR (KC p.V n b) w w' e := by
 have l := Lh hok;clear hok;obtain ⟨k, rfl⟩ : ∃ k : Nat, n = (k : Int) := ⟨n.toNat, by omega⟩;obtain ⟨d, va, c, V, ba, g, h⟩ := p;dsimp only;have q := Lh l.out.vlen;have r := Lh l.out.vmax;dsimp only at q r;rw [show (PgV.mk d va c V ba g h).cells = #[.int .i64 d, .slice va V.length c, .slice ba h.length g] from rfl, show (Nd.cells ⟨t, (k : Int)⟩).toArray = #[.int .i64 t, .int .i64 (k : Int)] from rfl];have t1 := fun w => AkV (b := b) (w := w)
 have t2 := fun w => AkU (b := b) (w := w)
 have t3 := fun w => AkW (b := b) (w := w)
 go_enter Tryz.func208, Tryz.ntmps208
 go_wp2_with (refine Qn _ _ rfl ?_)
 refine Stop.to ?_;refine Qe rfl 25 _ rfl #[.int .i64 d, .slice va V.length c, .slice ba h.length g] rfl ?_;intro G Gw Gh x Gb;go_wp2_with (refine Qn _ _ rfl ?_)
 refine Stop.to ?_;refine Qe rfl 85 _ rfl #[.int .i64 t, .int .i64 (k : Int)] rfl ?_;intro X Xw Xh Xr Xb;have b1 := (Below.refl w.heap.size w).trans (Gb.mono Gh);have b2 := b1.trans ((Xb.mono Xh).mono b1.size);go_wp2_with (refine QH _ rfl ?_)
 refine Stop.to ?_;refine Qj rfl 259 rfl _ _ Ab9 rfl ?_;intro R Rw Rh Rr Rb;go_wp2_with (refine Qs _ _ _ rfl ?_)
 refine Stop.to ?_;refine Qk rfl 259 _ _ rfl R #[.bool b] rfl rfl 259 _ Rr (by kernel_rfl) rfl (by simp [Value.oneCell']) ?_;intro RW RR RO;have RB : Below Rw.heap.size Rw Rw := Below.refl _ _;have o : Below Xw.heap.size Xw RW := (Rb.mono Rh).trans (RO.below Rh);have rG := (x.below Xb (Lc x.lt Xh)).below o (by have := (x.below Xb (Lc x.lt Xh)).lt; omega);have rX := Xr.below o Xr.lt;have b3 := b2.trans (o.mono b2.size);have c0 := RR.cellv (i := 0) (v := .bool b) rfl;have c1 := rG.cellv (i := 1) (v := .slice va V.length c) rfl;have c2 := rX.cellv (i := 1) (v := .int .i64 (k : Int)) rfl;have y := Lh (l.out.go b3).vrd;dsimp only at y;clear RR RO Rr Rb x Gb Xr Xb b1 b2 Gh Xh Rh RB o rG rX l t1 t2 t3;cases b with
 | false =>
  have s : Hid (KC V (k : Int) false = []) := by show _ = _; unfold KC; rw [if_neg (by simp)]
  go_wp2
  go_ret
  exact ⟨none, 0, by rw [s.out]; rfl, by rw [s.out]; exact Rd.nil _ _, b3⟩
 | true =>
  by_cases hk : k < V.length
  · obtain ⟨v, hv⟩ : ∃ v, V[k]? = some v := ⟨_, Lb hk⟩;obtain ⟨ad, aa, hc⟩ := Q9 y.out hv;have s : Hid (KC V (k : Int) true = [v]) := by show _ = _; unfold KC; rw [Li, if_pos ⟨rfl, hk⟩, hv]; rfl
    have ac : (k : Int) < (V.length : Int) := by omega
    have ae := q.out;have z := r.out;unfold maxLen at z;have af : ¬ c = k := by omega
    have Hc := Lh hc;subst aa;clear hv hk hc;go_wp2
    go_ret
    refine ⟨some (ad.add k), c - k, by rw [s.out]; rfl, ?_, b3⟩;rw [s.out];intro j u hj;refine ⟨_, rfl, ?_⟩
    have ab : j = 0 := by
     have := (La.1 hj).1;simp [Qi] at this; exact this
    subst ab;have hu : Value.int .i64 v = u := by simpa [Qi] using hj
    rw [KZ, Nat.add_zero, ← hu]; exact Hc.out
  · have s : Hid (KC V (k : Int) true = []) := by show _ = _; unfold KC; rw [if_neg (by simp; omega)]
    have ac : (V.length : Int) ≤ (k : Int) := by omega
    clear hk;go_wp2
    go_ret
    exact ⟨none, 0, by rw [s.out]; rfl, by rw [s.out]; exact Rd.nil _ _, b3⟩
theorem AfJ (p : PgV) (x : Nd) (m : Nat) (hm : m ≤ 1000) (w : World) : Calls Tryz.prog 208 #[.agg p.cells, .agg x.cells.toArray, .nilIface, .int .i64 (m : Int)] w fun e w' => WantR (List.replicate m 2) w w' e := by
 have y := fun w => AkR (w := w)
 have z := fun w => AkQ (w := w)
 have t3 := fun w => AkS (w := w)
 go_enter Tryz.func208, Tryz.ntmps208
 go_wp2_with (refine Qn _ _ rfl ?_)
 refine Stop.to ?_;refine Qe rfl 25 _ rfl p.cells rfl ?_;intro G t o s n;go_wp2_with (refine Qn _ _ rfl ?_)
 refine Stop.to ?_;refine Qe rfl 85 _ rfl x.cells.toArray rfl ?_;intro X j r u q;have k := (Below.refl w.heap.size w).trans (n.mono o);have l := k.trans ((q.mono r).mono k.size);go_wp2_with fail
 refine (AeL j.heap.size 1 m 2 _ (Row.new j 3 #[.int .i64 2]) hm).mono ?_;rintro e w4 ⟨v, rfl, c, h⟩;have h := l.trans ((((Below.refl _ _).alloc (Nat.le_refl _) _).trans (h.mono (by simp))).mono l.size);obtain ⟨A, i, rfl, d, _, _⟩ := AbI c;have g := Lh d;clear c d;go_wp2
 go_ret
 refine ⟨A, i, ?_, g.out, h⟩;rw [No]; rfl
end Go.Proofs.YtdcmppdhdcjpfaaGreat
