/- Lemmas for RunnerJustP. -/
import Derived.Test.YtkoikjnlpifbjaaGreatZb1
import Derived.Test.YtkoikjnlpifbjaaGreatZb5
import Derived.Shelf.Bits.Mul64
import Derived.Test.YtkoikjnlpifbjaaGreatRows
import Derived.WalkKit
import Derived.Laws.CopyOwn
import Derived.Deep.RegionLaw
set_option linter.unusedVariables false
set_option linter.unusedSimpArgs false
set_option maxRecDepth 100000
set_option maxHeartbeats 16000000
namespace Go.Proofs.YtkoikjnlpifbjaaGreat
open Go.RowKit Go.Deep
def JE (k : Int) : Option (Int × List Int) :=
 if k = 1 then some (0, []) else if k = 2 then some (1, []) else if k = 5 then some (0, [0]) else if k = 6 then some (1, [1]) else if k = 18 then some (1, [1, 1]) else if k = 19 then some (1, [1, 1])
 else if k = 23 then some (2, [1, 2, 2]) else if k = 24 then some (2, [1, 2]) else if k = 25 then some (2, [0]) else if k = 26 then some (2, [])
 else if 7 ≤ k ∧ k ≤ 11 then some (0, [0, 0]) else if 12 ≤ k ∧ k ≤ 17 then some (1, [0, 0]) else none
def AiS (k : Int) : Option (Int × List Int) := if k = 4 then some (0, [0]) else if k = 22 then some (2, [0, 0]) else none
inductive RuleR (W : World) : Int → Value → Prop
 | plain (k is : Int) (A : Option Addr) (n cap : Nat) (want : List Int) (hc : JE k = some (is, want)) (hn : n = want.length) (hr : Rd W A (Qj want)) : RuleR W k (.iface 228 (.agg #[.slice A n cap, .int .i64 is]))
 | scalar (k : Int) (b : Bool) (h : k = 3 ∧ b = false ∨ k = 21 ∧ b = true) : RuleR W k (.iface 230 (.agg #[.bool b]))
 | array (k is : Int) (A : Option Addr) (n cap : Nat) (want : List Int) (hc : AiS k = some (is, want)) (hn : n = want.length) (hr : Rd W A (Qj want)) : RuleR W k (.iface 232 (.agg #[.slice A n cap, .int .i64 is]))
theorem RuleR.go {W W' : World} {k : Int} {v : Value} (h : RuleR W k v) (b : Below W.heap.size W W') : RuleR W' k v := by
 cases h with
 | plain is A n cap want hc hn hr => exact .plain _ _ _ _ _ _ hc hn (hr.go b)
 | scalar b' h => exact .scalar _ _ h
 | array is A n cap want hc hn hr => exact .array _ _ _ _ _ _ hc hn (hr.go b)
theorem Rd.only_map {W W' : World} {A : Option Addr} {xs : List Value} {M : Nat} {es : List (Int × Value)} (h : Rd W A xs) (hm : MapB W M es) (o : Only M W W') : Rd W' A xs := fun j u hj => by
 obtain ⟨d, e, g⟩ := h j u hj;refine ⟨d, e, ?_⟩
 have c : (d.add j).block ≠ M := fun i => by
  obtain ⟨arr, b, k, _⟩ := hm;simp [World.cell?, i, k] at g
 rw [← g];simp only [World.cell?, o.block _ c]
theorem RuleR.only {W W' : World} {k : Int} {v : Value} {M : Nat} {es : List (Int × Value)} (h : RuleR W k v) (hm : MapB W M es) (o : Only M W W') : RuleR W' k v := by
 cases h with
 | plain is A n cap want hc hn hr => exact .plain _ _ _ _ _ _ hc hn (hr.only_map hm o)
 | scalar b' h => exact .scalar _ _ h
 | array is A n cap want hc hn hr => exact .array _ _ _ _ _ _ hc hn (hr.only_map hm o)
structure RS (w W : World) (M : Nat) (D : List Int) : Prop where
 below : Below w.heap.size w W
 lo : w.heap.size ≤ M
 map : ∃ es, MapB W M es ∧ es.map (·.1) = D ∧ ∀ p ∈ es, RuleR W p.1 p.2
theorem RS.go {w W W' : World} {M : Nat} {D : List Int} (h : RS w W M D) (b : Below W.heap.size W W') : RS w W' M D := by
 obtain ⟨d, c, e, g⟩ := h.map;exact ⟨h.below.trans (b.mono h.below.size), h.lo, d, c.below b c.lt, e, fun p i => (g p i).go b⟩
theorem RS.alloc {w W : World} {M : Nat} {D : List Int} (h : RS w W M D) (o : Obj) : RS w (W.alloc o) M D := h.go ((Below.refl _ _).alloc (Nat.le_refl _) o)
theorem YY {k : Int} : ∀ {es : List (Int × Value)}, k ∉ es.map (·.1) → JB k es = none
 | [], _ => rfl
 | (k', v) :: es, h => by
  rw [JB, if_neg (fun e => h (by simp [e]))]
  exact YY (fun hm => h (by simp at hm ⊢; exact .inr hm))
theorem AaQ {k : Int} {v : Value} : ∀ {es : List (Int × Value)}, JB k es = some v → (k, v) ∈ es
 | [], h => by cases h
 | (k', v') :: es, h => by
  rw [JB] at h
  split at h
  · rename_i e; injection h with h; subst e h; simp
  · exact NK _ (AaQ h)
theorem V8 {k : Int} : ∀ {es : List (Int × Value)}, k ∈ es.map (·.1) → ∃ v, JB k es = some v
 | [], h => by simp at h
 | (k', v') :: es, h => by
  rw [JB]
  by_cases e : k = k'
  · exact ⟨v', if_pos e⟩
  · rw [if_neg e]
    refine V8 ?_
    simp only [LQ, L2] at h
    rcases h with h | h
    · exact absurd h e
    · exact h
theorem Kn {ops : Array Oper} {rest : List Oper} {o : Oper} {a : Act} {w W : World} {Q : Exit → Act → World → Prop} {M : Nat} {D : List Int} (hgd : o.guard = none) (m x y : Operand) (ho : o.op = .insert 170 m x y ∨ o.op = .mapUpdate 170 m x y) (hm : a.eval m = .map (some M)) (k : Int) (v : Value) (hx : a.eval x = .int .i64 k) (hy : a.eval y = v) (hs : RS w W M D) (hn : k ∉ D) (hr : RuleR W k v)
 (h : ∀ W', RS w W' M (D ++ [k]) → wpList Tryz.prog ops Q rest (a.put o.dst undef) W') : wpList Tryz.prog ops Q (o :: rest) a W := by
 obtain ⟨j, c, e, g⟩ := hs.map;subst e;refine Xx hgd m x y ho Tryz.underlying170 Tryz.underlying3 c hm k v hx hy (YY hn) ?_;intro W' i d;refine h W' ⟨Ql hs.below d hs.lo, hs.lo, _, i, by simp, fun p b => ?_⟩;rcases L5.1 b with b | b
 · exact (g p b).only c d
 · rw [L3.1 b]; exact hr.only c d
theorem AgN (w : World) : Calls Tryz.prog 104 #[] w fun e w' => ∃ M D, e = .returned (.map (some M)) ∧ RS w w' M D ∧ ∀ k, k ∈ D ↔ (1 ≤ k ∧ k ≤ 26 ∧ k ≠ 20) := by
 have q : ∀ w : World, (Instr.makeMap 170 none).run Tryz.prog w = .ok (.map (some w.heap.size)) (w.alloc (.map #[] 0)) := fun _ => by kernel_rfl
 go_enter Tryz.func104, Tryz.ntmps104
 have r0 : RS w (w.alloc (.map #[] 0)) w.heap.size [] := ⟨(Below.refl _ _).alloc (Nat.le_refl _) _, Nat.le_refl _, [], MapB.new w, rfl, fun p hp => by simp at hp⟩;obtain ⟨M, m⟩ : ∃ M, M = w.heap.size := ⟨_, rfl⟩;go_wp2_with (refine Kn rfl _ _ _ (.inl rfl) rfl _ _ rfl rfl (by first | assumption | exact RS.alloc (by assumption) _) (by decide) (by first | exact RuleR.scalar _ _ (by decide) | exact RuleR.plain _ _ _ _ _ [] rfl rfl (Rd.nil _ _) | exact RuleR.plain _ _ _ _ _ [0] rfl rfl (Jg _ (Qj [0]) _) | exact RuleR.plain _ _ _ _ _ [1] rfl rfl (Jg _ (Qj [1]) _) | exact RuleR.plain _ _ _ _ _ [1, 1] rfl rfl (Jg _ (Qj [1, 1]) _) | exact RuleR.plain _ _ _ _ _ [1, 2] rfl rfl (Jg _ (Qj [1, 2]) _) | exact RuleR.plain _ _ _ _ _ [1, 2, 2] rfl rfl (Jg _ (Qj [1, 2, 2]) _) | exact RuleR.array _ _ _ _ _ [0] rfl rfl (Jg _ (Qj [0]) _) | exact RuleR.array _ _ _ _ _ [0, 0] rfl rfl (Jg _ (Qj [0, 0]) _)) ?_; intro u s)
 have b : RS w u M ([1, 2, 3, 21, 4, 22, 5, 6, 18, 19, 23, 24, 25, 26]) := by rw [m]; exact s
 have HM := Lv m;rw [← m];clear s r0 q m;go_loopw [2] (fun i wr => ∃ (k : Nat) (D : List Int), i = .int .i64 (k : Int) ∧ 7 ≤ k ∧ k ≤ 18 ∧ RS w wr M D ∧ Hid (∀ j : Int, j ∈ D ↔ (j ∈ [1, 2, 3, 21, 4, 22, 5, 6, 18, 19, 23, 24, 25, 26] ∨ (7 ≤ j ∧ j < (k : Int))))) (fun i _ => 18 - (intOf i).toNat)
 case atStart => exact ⟨7, _, rfl, by omega, by omega, b, Lv (fun j => ⟨.inl, fun h => h.elim id (fun h => by omega)⟩)⟩
 case round =>
  clear b;obtain ⟨k, D, rfl, h7, y, b, l⟩ := hrel;by_cases z : k < 18
  · have d : (k : Int) ∉ D := fun h => by
     rcases (l.out (k : Int)).1 h with h | h
     · simp only [L2, L9, or_false] at h; omega
     · omega
    have c := Lv d;clear d;by_cases x : k < 12
    · have g : JE (k : Int) = some (0, [0, 0]) := by
       unfold JE
       repeat (first | rw [if_neg (show ¬ _ by omega)] | rw [if_pos (show _ by omega)])
      have n := Lv g;clear g;go_wp2_with (refine Kn rfl _ _ _ (.inr rfl) rfl _ _ rfl rfl (RS.alloc b _) c.out (RuleR.plain _ _ _ _ _ [0, 0] n.out rfl (Jg wr (Qj [0, 0]) _)) ?_; intro v o)
      go_roundw
      case rel =>
       refine ⟨k + 1, _, by go_num, by omega, by omega, o, Lv (fun j => ?_)⟩;rw [L5, l.out j, L3];constructor
       · rintro ((h | h) | h)
         · exact .inl h
         · exact .inr (by omega)
         · exact .inr (by omega)
       · rintro (h | h)
         · exact .inl (.inl h)
         · by_cases e : j = (k : Int)
           · exact .inr e
           · exact .inl (.inr (by omega))
      case measure => simp [intOf]; omega
    · have t : 12 ≤ k := by omega
      have g : JE (k : Int) = some (1, [0, 0]) := by
       unfold JE
       repeat (first | rw [if_neg (show ¬ _ by omega)] | rw [if_pos (show _ by omega)])
      have n := Lv g;clear g;go_wp2_with (refine Kn rfl _ _ _ (.inr rfl) rfl _ _ rfl rfl (RS.alloc b _) c.out (RuleR.plain _ _ _ _ _ [0, 0] n.out rfl (Jg wr (Qj [0, 0]) _)) ?_; intro v o)
      go_roundw
      case rel =>
       refine ⟨k + 1, _, by go_num, by omega, by omega, o, Lv (fun j => ?_)⟩;rw [L5, l.out j, L3];constructor
       · rintro ((h | h) | h)
         · exact .inl h
         · exact .inr (by omega)
         · exact .inr (by omega)
       · rintro (h | h)
         · exact .inl (.inl h)
         · by_cases e : j = (k : Int)
           · exact .inr e
           · exact .inl (.inr (by omega))
      case measure => simp [intOf]; omega
  · obtain rfl : k = 18 := by omega
    go_wp2
    go_ret
    refine ⟨M, D, rfl, b, fun j => ?_⟩;rw [l.out j];simp only [L2, L9, or_false];omega
theorem AaD (A : Option Addr) (n cap : Nat) (is : Int) (p : PgV) (x : Nd) (w : World) : Calls Tryz.prog 274 #[.agg #[.slice A n cap, .int .i64 is], .agg p.cells, .agg x.cells.toArray] w fun e w' => e = .returned (.int .i64 is) ∧ Below w.heap.size w w' := by
 go_enter Tryz.func274, Tryz.ntmps274
 go_wp2_with (refine Qm _ _ rfl ?_)
 refine Stop.to ?_;refine Qe rfl 228 _ rfl #[.slice A n cap, .int .i64 is] rfl ?_;intro R y m b l;go_wp2_with (refine Qm _ _ rfl ?_)
 refine Stop.to ?_;refine Qe rfl 25 _ rfl p.cells rfl ?_;intro G u d q c;go_wp2_with (refine Qm _ _ rfl ?_)
 refine Stop.to ?_;refine Qe rfl 65 _ rfl x.cells.toArray rfl ?_;intro X z h s g;have o := (b.below c (Lg b.lt d)).below g (Lg (b.below c (Lg b.lt d)).lt h);have j := (Below.refl w.heap.size w).trans (l.mono m);have k := j.trans ((c.mono d).mono j.size);have t := k.trans ((g.mono h).mono k.size);have c1 := o.cellv (i := 1) (v := .int .i64 is) rfl;clear o b q s l c g j k m d h;go_wp2
 go_ret
 exact ⟨rfl, t⟩
def Xv (V : List Int) (n : Int) (b : Bool) : Int := if Ki V n then (if b then 2 else (V[n.toNat]?).getD 0) else -1
theorem Aae (b : Bool) (p : PgV) (t n : Int) (w : World) (hok : p.ok w) (hn : 0 ≤ n) : Calls Tryz.prog 275 #[.agg #[.bool b], .agg p.cells, .agg (Nd.cells ⟨t, n⟩).toArray] w fun e w' => e = .returned (.int .i64 (Xv p.V n b)) ∧ Below w.heap.size w w' := by
 have l := Lv hok;clear hok;obtain ⟨k, rfl⟩ : ∃ k : Nat, n = (k : Int) := ⟨n.toNat, by omega⟩;obtain ⟨c, va, d, V, ba, g, h⟩ := p;dsimp only;rw [show (PgV.mk c va d V ba g h).cells = #[.int .i64 c, .slice va V.length d, .slice ba h.length g] from rfl, show (Nd.cells ⟨t, (k : Int)⟩).toArray = #[.int .i64 t, .int .i64 (k : Int)] from rfl];go_enter Tryz.func275, Tryz.ntmps275
 go_wp2_with (refine Qm _ _ rfl ?_)
 refine Stop.to ?_;refine Qe rfl 230 _ rfl #[.bool b] rfl ?_;intro R Rw Rh o Rb;go_wp2_with (refine Qm _ _ rfl ?_)
 refine Stop.to ?_;refine Qe rfl 25 _ rfl #[.int .i64 c, .slice va V.length d, .slice ba h.length g] rfl ?_;intro G Gw x Gr u;go_wp2_with (refine Qm _ _ rfl ?_)
 refine Stop.to ?_;refine Qe rfl 65 _ rfl #[.int .i64 t, .int .i64 (k : Int)] rfl ?_;intro X Xw z Xr y;have rG := Gr.below y (Lg Gr.lt z);have rR := (o.below u (Lg o.lt x)).below y (Lg (o.below u (Lg o.lt x)).lt z);have b1 := (Below.refl w.heap.size w).trans (Rb.mono Rh);have b2 := b1.trans ((u.mono x).mono b1.size);have b3 := b2.trans ((y.mono z).mono b2.size);have c0 := rR.cellv (i := 0) (v := .bool b) rfl;have c1 := rG.cellv (i := 1) (v := .slice va V.length d) rfl;have c2 := Xr.cellv (i := 1) (v := .int .i64 (k : Int)) rfl;have m := Lv (l.out.go b3).vrd;dsimp only at m;clear rR rG o Gr Xr Rb u y b1 b2 Rh x z l;by_cases hk : k < V.length;rotate_left
 · have s : Hid (Xv V (k : Int) b = -1) := by show _ = _; unfold Xv Ki; rw [L1, Nt (by omega)]; rfl
   have ab : (V.length : Int) ≤ (k : Int) := by omega
   clear hk;go_wp2
   go_ret
   exact ⟨Q1 s.out, b3⟩
 obtain ⟨v, q⟩ : ∃ v, V[k]? = some v := ⟨_, La hk⟩;obtain ⟨ad, aa, hc⟩ := ZP m.out q;have ab : (k : Int) < (V.length : Int) := by omega
 subst aa;by_cases j : v = 0 ∨ v = 1
 · have s : Hid (Xv V (k : Int) b = if b then 2 else v) := by
    show _ = _;unfold Xv Ki;rw [L1, q];simp only;rw [if_pos (by simpa using j)]; rfl
   clear q hk;rcases j with rfl | rfl
   all_goals
    cases b
    all_goals
     go_wp2
     go_ret
     exact ⟨Q1 s.out, b3⟩
 · have s : Hid (Xv V (k : Int) b = -1) := by
    show _ = _;unfold Xv Ki;rw [L1, q];simp only;rw [if_neg (by simpa using j)]
   have e0 : (v != 0) = true := by simp; omega
   have e1 : (v != 1) = true := by simp; omega
   clear q hk j;go_wp2
   go_ret
   exact ⟨Q1 s.out, b3⟩
def Yl (V : List Int) (n is : Int) : Int := if Yk V n then is else -1
theorem Aau (A : Option Addr) (m cap : Nat) (is : Int) (p : PgV) (t n : Int) (w : World) (hok : p.ok w) (hn : 0 ≤ n) : Calls Tryz.prog 276 #[.agg #[.slice A m cap, .int .i64 is], .agg p.cells, .agg (Nd.cells ⟨t, n⟩).toArray] w fun e w' => e = .returned (.int .i64 (Yl p.V n is)) ∧ Below w.heap.size w w' := by
 have j := Lv hok;clear hok;obtain ⟨k, rfl⟩ : ∃ k : Nat, n = (k : Int) := ⟨n.toNat, by omega⟩;obtain ⟨b, va, c, V, ba, g, h⟩ := p;dsimp only;rw [show (PgV.mk b va c V ba g h).cells = #[.int .i64 b, .slice va V.length c, .slice ba h.length g] from rfl, show (Nd.cells ⟨t, (k : Int)⟩).toArray = #[.int .i64 t, .int .i64 (k : Int)] from rfl];go_enter Tryz.func276, Tryz.ntmps276
 go_wp2_with (refine Qm _ _ rfl ?_)
 refine Stop.to ?_;refine Qe rfl 232 _ rfl #[.slice A m cap, .int .i64 is] rfl ?_;intro R Rw Rh s Rb;go_wp2_with (refine Qm _ _ rfl ?_)
 refine Stop.to ?_;refine Qe rfl 25 _ rfl #[.int .i64 b, .slice va V.length c, .slice ba h.length g] rfl ?_;intro G Gw y Gr x;go_wp2_with (refine Qm _ _ rfl ?_)
 refine Stop.to ?_;refine Qe rfl 65 _ rfl #[.int .i64 t, .int .i64 (k : Int)] rfl ?_;intro X Xw Xh Xr z;have rG := Gr.below z (Lg Gr.lt Xh);have rR := (s.below x (Lg s.lt y)).below z (Lg (s.below x (Lg s.lt y)).lt Xh);have b1 := (Below.refl w.heap.size w).trans (Rb.mono Rh);have b2 := b1.trans ((x.mono y).mono b1.size);have b3 := b2.trans ((z.mono Xh).mono b2.size);have c0 := rR.cellv (i := 1) (v := .int .i64 is) rfl;have c1 := rG.cellv (i := 1) (v := .slice va V.length c) rfl;have c2 := Xr.cellv (i := 1) (v := .int .i64 (k : Int)) rfl;have q := Lv (j.out.go b3).vrd;have o := Lv j.out.vin;dsimp only at q o;clear rR rG s Gr Xr Rb x z b1 b2 Rh y Xh j;by_cases hk : k < V.length;rotate_left
 · have u : Hid (Yl V (k : Int) is = -1) := by show _ = _; unfold Yl Yk; rw [L1, Nt (by omega)]; rfl
   have ab : (V.length : Int) ≤ (k : Int) := by omega
   clear hk;go_wp2
   go_ret
   exact ⟨Q1 u.out, b3⟩
 obtain ⟨v, l⟩ : ∃ v, V[k]? = some v := ⟨_, La hk⟩;obtain ⟨ad, aa, hc⟩ := ZP q.out l;have Hi := Lv (o.out v (Lj l));have ab : (k : Int) < (V.length : Int) := by omega
 subst aa;by_cases d : QY v = 0
 · have u : Hid (Yl V (k : Int) is = -1) := by
    show _ = _;unfold Yl Yk;rw [L1, l];simp only;rw [if_neg (by simpa using d)]
   have e0 : (QY v == 0) = true := by simpa using d
   clear l hk d;go_wp2_with (go_at_call 97; refine (XU v _ Hi.out).mono ?_; rintro e w' ⟨rfl, rfl⟩)
   go_ret
   exact ⟨Q1 u.out, b3⟩
 · have u : Hid (Yl V (k : Int) is = is) := by
    show _ = _;unfold Yl Yk;rw [L1, l];simp only;rw [if_pos (by simpa using d)]
   have e0 : (QY v == 0) = false := by simpa using d
   clear l hk d;go_wp2_with (go_at_call 97; refine (XU v _ Hi.out).mono ?_; rintro e w' ⟨rfl, rfl⟩)
   go_ret
   exact ⟨Q1 u.out, b3⟩
end Go.Proofs.YtkoikjnlpifbjaaGreat
namespace Go.Proofs.YtkoikjnlpifbjaaGreat
open Go.Shelf
def Adg : Go.Shelf.Ren := ⟨fun | 212 => 200 | 263 => 220 | 264 => 221 | n => n, fun | 46 => 251 | 51 => 77 | 146 => 304 | 53 => 207 | 148 => 306 | n => n, fun | n => n⟩
theorem Ajq : Go.Proofs.Lays.n212 Tryz.prog Adg := {
 mixed := by kernel_rfl
 f212 := Tryz.func200.trans (congrArg some (by kernel_rfl))
 f263 := Tryz.func220.trans (congrArg some (by kernel_rfl))
 f264 := Tryz.func221.trans (congrArg some (by kernel_rfl))
 t46 := Tryz.underlying251
 a46 := Tryz.isAgg251
 z46 := Tryz.sizeOf251
 v46 := Tryz.zeroValue251
 t51 := Tryz.underlying77
 a51 := Tryz.isAgg77
 z51 := Tryz.sizeOf77
 v51 := Tryz.zeroValue77
 t53 := Tryz.underlying207
 a53 := Tryz.isAgg207
 z53 := Tryz.sizeOf207
 v53 := Tryz.zeroValue207
 t146 := Tryz.underlying304
 a146 := Tryz.isAgg304
 z146 := Tryz.sizeOf304
 v146 := Tryz.zeroValue304
 t148 := Tryz.underlying306
 a148 := Tryz.isAgg306
 z148 := Tryz.sizeOf306
 v148 := Tryz.zeroValue306 }
open Go.RowKit Go.Lib in
theorem bits_Mul (x y : Nat) (hx : x < 18446744073709551616) (hy : y < 18446744073709551616) (w : World) :
 Calls Tryz.prog 200 #[.int .u64 x, .int .u64 y] w fun e w' => e = .returned (.tuple #[.int .u64 ((x * y / 18446744073709551616 : Nat) : Int), .int .u64 ((x * y % 18446744073709551616 : Nat) : Int)]) ∧ w' = w := Any.bits_Mul Ajq x y hx hy w
end Go.Proofs.YtkoikjnlpifbjaaGreat
namespace Go.Proofs.YtkoikjnlpifbjaaGreat
open Go.RowKit Go.Deep
theorem Xz (z : Value) (n : Nat) : madeCells #[z] n = (List.replicate n z).toArray := by
 unfold madeCells;apply Array.ext
 · simp
 · intro i b c; simp [Nat.mod_one]
theorem AkT (a b : Nat) : Nat.min a b ≤ a ∧ Nat.min a b ≤ b ∧ (Nat.min a b = a ∨ Nat.min a b = b) := by
 show min a b ≤ a ∧ min a b ≤ b ∧ (min a b = a ∨ min a b = b);omega
theorem JF {P : Program} {o : Oper} {w w1 : World} {ρ : Operand → Value} {s x : Operand} {t t' : TypeId} (ho : o.op = .call { callee := .builtin .copy, args := #[s, x], argTypes := #[t, t'] }) {v : Value} (hv : (Builtin.copy_ #[t, t'] o.type #[ρ s, ρ x]).run P w = .ok v w1) : (execOp ρ o).run P w = .ok (.value v) w1 := by
 unfold execOp;simp only [ho, resolve, invoke, builtin, Sem.run_bind, Sem.run_pure, Result.andThen_ok, N1, LQ, Np, hv]
theorem Aaj (k n m : Nat) (x : Int) (hk : k + m ≤ n) : splice (Qj (List.replicate k x ++ List.replicate (n - k) 0)) k (Qj (List.replicate m x)) = Qj (List.replicate (k + m) x ++ List.replicate (n - (k + m)) 0) := by
 unfold splice Qj;simp only [LT, List.map_replicate, Nu];rw [Nx (by simp), LA (by simp), List.drop_append, NE (by simp), Nu, List.drop_replicate, Lp, ← L4, List.replicate_append_replicate, show n - k - (k + m - k) = n - (k + m) by omega]
theorem Ae3 (g cap n : Nat) (x : Int) (w : World) (hr : Row w g 3 #[.int .i64 x]) (hn : n ≤ 1000) : Calls Tryz.prog 174 #[.slice (some ⟨g, 0, none⟩) 1 cap, .int .i64 (n : Int)] w fun e w' => IntsR (List.replicate n x) w w' e := by
 have aa : ∀ W, Calls Tryz.prog 200 #[.int .u64 1, .int .u64 (n : Int)] W fun e w' => e = .returned (.tuple #[.int .u64 0, .int .u64 (n : Int)]) ∧ w' = W := fun W => by
  have := bits_Mul 1 n (by omega) (by omega) W;rw [Nat.one_mul, Nat.div_eq_of_lt (by omega), NM (by omega)] at this;exact this
 have t := Lv aa;clear aa
 have am : ∀ W : World, (Instr.makeSlice 22 (.int .i64 (n : Int)) (.int .i64 (n : Int))).run Tryz.prog W = .ok (.slice (some ⟨W.heap.size, 0, none⟩) n n) (W.alloc (.cells (Qj (List.replicate n 0)).toArray 3)) := fun W => by
  have := run_make_row' (P := Tryz.prog) (w := W) 22 3 (.int .i64 0) 8 Tryz.underlying22 Jk rfl .i64 .i64 n (by omega) (by omega);rw [show madeCells #[Value.int .i64 0] n = (Qj (List.replicate n 0)).toArray from by rw [Xz]; simp [Qj]] at this;exact this
 go_enter Tryz.func174, Tryz.ntmps174
 have ao : decide ((n : Int) < 0) = false := by simp
 have ak : decide (9223372036854775807 < (n : Int)) = false := by simp; omega
 go_wp2_with fail
 refine (t.out w).mono ?_;rintro e w1 ⟨rfl, hw⟩;subst hw;clear t;have c := Aaj 0 n (Nat.min 1 n) x (by rw [LN]; exact Nat.min_le_right _ _);rw [LN, List.replicate_zero, Lp, Nat.sub_zero] at c;have d := Lv c;clear c;have rn := Row.new w1 3 (Qj (List.replicate n 0)).toArray;have aj := hr.alloc (.cells (Qj (List.replicate n 0)).toArray 3)
 have af : ∀ (j : Nat) (v : Value), (Qj (List.replicate (Nat.min 1 n) x))[j]? = some v → (w1.alloc (.cells (Qj (List.replicate n 0)).toArray 3)).cell? ((⟨g, 0, none⟩ : Addr).add j) = some v :=
  aj.from_ 0 (cs := Qj (List.replicate (Nat.min 1 n) x)) (fun j v hj => by
   have b := (Ld.1 hj).1
   have h1 : (Qj (List.replicate (Nat.min 1 n) x)).length ≤ 1 := by simp [Qj]; exact Nat.min_le_left _ _
   obtain rfl : j = 0 := by omega
   rw [← hj]
   simp only [Qj, List.map_replicate, NU]
   rw [if_pos (by simpa [Qj] using b)]; rfl)
 have ac := Lv af;have Rn := Lv rn;have o : (Qj (List.replicate (Nat.min 1 n) x)).length = Nat.min 1 n := by simp [Qj]
 have p := Lv o;clear rn aj hr af o;go_wp2_with (refine wpList_copy_splice rfl (.tmp 31) (.tmp 32) 22 22 rfl 3 Tryz.underlying22 rfl (some ⟨w1.heap.size, 0, none⟩) (some ⟨g, 0, none⟩) n n 1 cap rfl rfl w1.heap.size 0 (Qj (List.replicate n 0)) 3 Rn.out (Qj (List.replicate (Nat.min 1 n) x)) p.out (fun _ => ⟨rfl, _, rfl, ac.out⟩) (by rw [p.out]; simp [Qj]; exact Nat.min_le_right _ _) (Jl _) w1.heap.size w1 ((Below.refl _ _).alloc (Nat.le_refl _) _) (Nat.le_refl _) ?_; intro w2 h2 b2)
 have r2 : Row w2 w1.heap.size 3 (Qj (List.replicate (Nat.min 1 n) x ++ List.replicate (n - Nat.min 1 n) 0)).toArray := by rw [← d.out]; exact h2.out
 obtain ⟨G, hG⟩ : ∃ G, G = w1.heap.size := ⟨_, rfl⟩;rw [← hG] at r2 ⊢;obtain ⟨k0, q⟩ : ∃ k0, k0 = Nat.min 1 n := ⟨_, rfl⟩;rw [p.out, ← q];rw [← q] at r2;have l : k0 ≤ n ∧ (k0 = 0 → n = 0) := by have := AkT 1 n; rw [← q] at this; omega
 have HG := Lv hG;clear hG q d ac Rn p h2 am;go_wp2
 go_loopw [8] (fun i wr => ∃ k : Nat, i = .int .i64 (k : Int) ∧ k ≤ n ∧ (k = 0 → n = 0) ∧ Row wr G 3 (Qj (List.replicate k x ++ List.replicate (n - k) 0)).toArray ∧ Below w1.heap.size w1 wr) (fun i _ => n - (intOf i).toNat)
 case atStart => exact ⟨k0, rfl, l.1, l.2, r2, b2⟩
 case round =>
  clear r2 b2 w2;obtain ⟨k, rfl, au, z, hr, hb⟩ := hrel;by_cases b : k < n
  · have ap : (k : Int) < (n : Int) := by omega
    have al : 0 < k := by
     rcases Nat.eq_zero_or_pos k with h | h
     · have := z h; omega
     · exact h
    obtain ⟨m, hm⟩ : ∃ m, m = Nat.min k (n - k) := ⟨_, rfl⟩;have ai := AkT k (n - k);rw [← hm] at ai;obtain ⟨aq, av, an⟩ := ai;have aw : 0 < m := by omega
    clear an;have Hm := Lv hm;clear hm z b l;have ar : (n : Int) - (k : Int) = ((n - k : Nat) : Int) := by omega
    have ag : ∀ (j : Nat) (v : Value), (Qj (List.replicate m x))[j]? = some v → wr.drew.cell? ((⟨G, 0, none⟩ : Addr).add j) = some v :=
     hr.drew.from_ 0 (cs := Qj (List.replicate m x)) (fun j v hj => by
      have b : j < m := by have := (Ld.1 hj).1; simpa [Qj] using this
      rw [← hj]
      simp only [Qj, List.map_replicate, NU, LT, LN, NI]
      rw [if_pos b, LC (by simp; omega), NU, if_pos (by omega)])
    have ab := Lv ag;have Hr := Lv hr.drew;have Hb := Lv (ZZ hb 1);have c := Aaj k n m x (by omega);have d := Lv c;have ad : Hid ((Qj (List.replicate m x)).length = Nat.min k (n - k)) := by show _ = _; rw [← Hm.out]; simp [Qj]
    have y : k + (Qj (List.replicate m x)).length ≤ (Qj (List.replicate k x ++ List.replicate (n - k) 0)).length := by simp [Qj]; omega
    have s := Lv y;clear ag hr hb c y;go_wp2_with fail
    refine wp_region_held (S := fun _ => True) (by kernel_rfl) ?_;simp only [Lm, Le, Lu, Nat.reduceAdd, Lk, Ll, Ly, Lp, Ln];show wpAnyH _ _ _ _ _ _ _ _ wr.drew;have hS : (fun _ : World => True) wr.drew := trivial;have Hb : Hid (Below w1.heap.size w1 wr.drew) := Hb.out;generalize wr.drew = wd at ab Hr hS Hb ⊢;(refine tkH 0 (.int .i64 (k : Int)) rfl (Qd rfl (fun W u => by (go_simp))) ?_; simp only [Act.put, Qa, Qb, Qc]);(refine tkH 1 (.slice (some ⟨G, 0, none⟩) n n) rfl (Qd rfl (fun W u => by (go_simp))) ?_; simp only [Act.put, Qa, Qb, Qc]);(refine tkH 2 (.int .i64 (k : Int)) rfl (Qd rfl (fun W u => by (go_simp))) ?_; simp only [Act.put, Qa, Qb, Qc]);(refine tkH 4 (.slice (some ⟨G, 0, none⟩) n n) rfl (Qd rfl (fun W u => by (go_simp))) ?_; simp only [Act.put, Qa, Qb, Qc]);(refine tkH 5 (.int .i64 (k : Int)) rfl (Qd rfl (fun W u => by (go_simp))) ?_; simp only [Act.put, Qa, Qb, Qc]);(refine tkH 3 (.slice (some ⟨G, k, none⟩) (n - k) (n - k)) rfl (Qd rfl (fun W u => by (go_simp; omega))) ?_; simp only [Act.put, Qa, Qb, Qc]);(refine tkH 6 (.slice (some ⟨G, 0, none⟩) k n) rfl (Qd rfl (fun W u => by (go_simp))) ?_; simp only [Act.put, Qa, Qb, Qc]);(refine wpAnyH_all (rs := [7]) (by kernel_rfl) (by simp) (fun i hi => ?_); obtain rfl : i = 7 := by simpa using hi);refine Qf rfl rfl (fun K2 ae => ?_);refine Qs (goInt (Qj (List.replicate m x)).length) (w1 := _) (by exact JF rfl (run_copy_row (P := Tryz.prog) wd 22 22 _ 3 G k (n - k) (n - k) ⟨G, 0, none⟩ k n _ 3 (Qj (List.replicate m x)) Tryz.underlying22 rfl Hr.out ad.out ab.out (by simpa using s.out) (Jl _))) ?_;rw [show goInt (Qj (List.replicate m x)).length = .int .i64 (m : Int) by simp [goInt, Qj]]
    have r3 : Row (wd.setRow G ((Qj (List.replicate k x ++ List.replicate (n - k) 0)).toArray.toList.take k ++ Qj (List.replicate m x) ++ (Qj (List.replicate k x ++ List.replicate (n - k) 0)).toArray.toList.drop (k + (Qj (List.replicate m x)).length)).toArray) G 3 (Qj (List.replicate (k + m) x ++ List.replicate (n - (k + m)) 0)).toArray := by
     rw [← d.out, splice, ← L4]; exact Hr.out.setRow _
    have b3 := Ks (g := G) Hb.out (LM HG.out.symm) ((Qj (List.replicate k x ++ List.replicate (n - k) 0)).toArray.toList.take k ++ Qj (List.replicate m x) ++ (Qj (List.replicate k x ++ List.replicate (n - k) 0)).toArray.toList.drop (k + (Qj (List.replicate m x)).length)).toArray;refine ae _ _ ?_;clear ae K2;generalize wd.setRow G _ = we at r3 b3 ⊢;simp only [Act.put, Qa, Qb, Qc];refine ⟨trivial, ?_⟩;have ah : IntKind.i64.wrap ((k : Int) + (m : Int)) = ((k + m : Nat) : Int) := by rw [IntWalk.i64_in _ (by omega)]; omega
    (refine tkH 8 (.int .i64 ((k + m : Nat) : Int)) rfl (Qd rfl (fun W u => by (go_simp; try exact ah))) ?_; simp only [Act.put, Qa, Qb, Qc])
    (refine tkH 9 (.int .i64 ((k + m : Nat) : Int)) rfl (Qd rfl (fun W u => by (go_simp))) ?_; simp only [Act.put, Qa, Qb, Qc]);refine wpAnyH_done (by kernel_rfl) ?_ _;have R3 := Lv r3;have B3 := Lv b3;clear r3 b3 ah Hr ab Hb d ad s;go_wp2
    go_roundw
    case rel => exact ⟨k + m, rfl, by omega, by omega, R3.out, B3.out⟩
    case measure => simp [intOf]; omega
  · obtain rfl : n = k := by omega
    have Hr := Lv hr;clear b hr;go_wp2
    go_ret
    refine ⟨_, rfl, ?_, hb⟩;have h1 := Hr.out;rw [NN, List.replicate_zero, Na] at h1;rw [Nu];exact ⟨by simp [Qj], .inr ⟨G, n, _, rfl, by have := HG.out; omega, h1, Nat.le_refl _, by unfold maxLen; omega, by simp [Qj], by simp [Qj]⟩⟩
section
variable {A : Option Addr} {n cap : Nat} {is : Int} {b : Bool} {w : World}
theorem Ak3 : (Instr.typeAssert (.iface 228 (.agg #[.slice A n cap, .int .i64 is])) 234 228 true).run Tryz.prog w = .ok (.tuple #[.agg #[.slice A n cap, .int .i64 is], .bool true]) w := by kernel_rfl
theorem AkZ : (Instr.typeAssert (.iface 232 (.agg #[.slice A n cap, .int .i64 is])) 234 228 true).run Tryz.prog w = .ok (.tuple #[.agg #[.slice none 0 0, .int .i64 0], .bool false]) w := by kernel_rfl
theorem AkY : (Instr.typeAssert (.iface 232 (.agg #[.slice A n cap, .int .i64 is])) 234 232 true).run Tryz.prog w = .ok (.tuple #[.agg #[.slice A n cap, .int .i64 is], .bool true]) w := by kernel_rfl
theorem Ak5 : (Instr.typeAssert (.iface 230 (.agg #[.bool b])) 234 228 true).run Tryz.prog w = .ok (.tuple #[.agg #[.slice none 0 0, .int .i64 0], .bool false]) w := by kernel_rfl
theorem Ak4 : (Instr.typeAssert (.iface 230 (.agg #[.bool b])) 234 232 true).run Tryz.prog w = .ok (.tuple #[.agg #[.slice none 0 0, .int .i64 0], .bool false]) w := by kernel_rfl
theorem Ak6 : (Instr.typeAssert (.iface 230 (.agg #[.bool b])) 234 230 true).run Tryz.prog w = .ok (.tuple #[.agg #[.bool b], .bool true]) w := by kernel_rfl
theorem Ak1 : (Instr.typeAssert .nilIface 234 228 true).run Tryz.prog w = .ok (.tuple #[.agg #[.slice none 0 0, .int .i64 0], .bool false]) w := by kernel_rfl
theorem Ak0 : (Instr.typeAssert .nilIface 234 232 true).run Tryz.prog w = .ok (.tuple #[.agg #[.slice none 0 0, .int .i64 0], .bool false]) w := by kernel_rfl
theorem Ak2 : (Instr.typeAssert .nilIface 234 230 true).run Tryz.prog w = .ok (.tuple #[.agg #[.bool false], .bool false]) w := by kernel_rfl
theorem Afk : (zeroValue 228).run Tryz.prog w = .ok (.agg #[.slice none 0 0, .int .i64 0]) w := by kernel_rfl
theorem Aea : (zeroValue 232).run Tryz.prog w = .ok (.agg #[.slice none 0 0, .int .i64 0]) w := by kernel_rfl
theorem Acp : (zeroValue 230).run Tryz.prog w = .ok (.agg #[.bool false]) w := by kernel_rfl
end
theorem Acw (A : Option Addr) (n cap : Nat) (is : Int) (p : PgV) (x : Nd) (m : Int) (w : World) : Calls Tryz.prog 139 #[.agg p.cells, .agg x.cells.toArray, .iface 228 (.agg #[.slice A n cap, .int .i64 is]), .int .i64 m] w fun e w' => e = .returned (.slice A n cap) ∧ Below w.heap.size w w' := by
 have t1 := fun w => Ak3 (A := A) (n := n) (cap := cap) (is := is) (w := w)
 go_enter Tryz.func139, Tryz.ntmps139
 go_wp2_with (refine Qm _ _ rfl ?_)
 refine Stop.to ?_;refine Qe rfl 25 _ rfl p.cells rfl ?_;intro G Gw h u g;go_wp2_with (refine Qm _ _ rfl ?_)
 refine Stop.to ?_;refine Qe rfl 65 _ rfl x.cells.toArray rfl ?_;intro X Xw t y s;have d := (Below.refl w.heap.size w).trans (g.mono h);have b := d.trans ((s.mono t).mono d.size);go_wp2_with (refine QE _ rfl ?_)
 refine Stop.to ?_;refine Qi rfl 228 rfl _ _ Afk rfl ?_;intro R c o q l;go_wp2_with (refine Qp _ _ _ rfl ?_)
 refine Stop.to ?_;refine Qk rfl 228 _ _ rfl R #[.slice A n cap, .int .i64 is] rfl rfl 228 _ q (by kernel_rfl) rfl (by simp [Value.oneCell']) ?_;intro RW k j;have RB : Below c.heap.size c c := Below.refl _ _;have z := (b.trans ((l.mono o).mono b.size)).trans (j.below (by have := b.size; omega));have c0 := k.cellv (i := 0) (v := .slice A n cap) rfl;clear k j q l u g y s d b h t o RB;go_wp2
 go_ret
 exact ⟨rfl, z⟩
theorem Acv (A : Option Addr) (n cap : Nat) (is : Int) (p : PgV) (x : Nd) (m : Int) (w : World) : Calls Tryz.prog 139 #[.agg p.cells, .agg x.cells.toArray, .iface 232 (.agg #[.slice A n cap, .int .i64 is]), .int .i64 m] w fun e w' => e = .returned (.slice A n cap) ∧ Below w.heap.size w w' := by
 have t1 := fun w => AkZ (A := A) (n := n) (cap := cap) (is := is) (w := w)
 have t2 := fun w => AkY (A := A) (n := n) (cap := cap) (is := is) (w := w)
 go_enter Tryz.func139, Tryz.ntmps139
 go_wp2_with (refine Qm _ _ rfl ?_)
 refine Stop.to ?_;refine Qe rfl 25 _ rfl p.cells rfl ?_;intro G Gw h u g;go_wp2_with (refine Qm _ _ rfl ?_)
 refine Stop.to ?_;refine Qe rfl 65 _ rfl x.cells.toArray rfl ?_;intro X Xw t y s;have d := (Below.refl w.heap.size w).trans (g.mono h);have b := d.trans ((s.mono t).mono d.size);go_wp2_with (refine QE _ rfl ?_)
 refine Stop.to ?_;refine Qi rfl 232 rfl _ _ Aea rfl ?_;intro R c o q l;go_wp2_with (refine Qp _ _ _ rfl ?_)
 refine Stop.to ?_;refine Qk rfl 232 _ _ rfl R #[.slice A n cap, .int .i64 is] rfl rfl 232 _ q (by kernel_rfl) rfl (by simp [Value.oneCell']) ?_;intro RW k j;have RB : Below c.heap.size c c := Below.refl _ _;have z := (b.trans ((l.mono o).mono b.size)).trans (j.below (by have := b.size; omega));have c0 := k.cellv (i := 0) (v := .slice A n cap) rfl;clear k j q l u g y s d b h t o RB;go_wp2
 go_ret
 exact ⟨rfl, z⟩
structure WantR (want : List Int) (w w' : World) (e : Ending) : Prop where
 ex : ∃ A cap, e = .returned (.slice A want.length cap) ∧ Rd w' A (Qj want) ∧ Below w.heap.size w w'
def Ky (V : List Int) (n : Int) (b : Bool) : List Int := if b ∧ n.toNat < V.length then [(V[n.toNat]?).getD 0] else []
theorem AbA (b : Bool) (p : PgV) (t n : Int) (hn : 0 ≤ n) (m : Int) (w : World) (hok : p.ok w) : Calls Tryz.prog 139 #[.agg p.cells, .agg (Nd.cells ⟨t, n⟩).toArray, .iface 230 (.agg #[.bool b]), .int .i64 m] w fun e w' => WantR (Ky p.V n b) w w' e := by
 have l := Lv hok;clear hok;obtain ⟨k, rfl⟩ : ∃ k : Nat, n = (k : Int) := ⟨n.toNat, by omega⟩;obtain ⟨d, va, c, V, ba, g, h⟩ := p;dsimp only;have q := Lv l.out.vlen;have s := Lv l.out.vmax;dsimp only at q s;rw [show (PgV.mk d va c V ba g h).cells = #[.int .i64 d, .slice va V.length c, .slice ba h.length g] from rfl, show (Nd.cells ⟨t, (k : Int)⟩).toArray = #[.int .i64 t, .int .i64 (k : Int)] from rfl];have t1 := fun w => Ak5 (b := b) (w := w)
 have t2 := fun w => Ak4 (b := b) (w := w)
 have t3 := fun w => Ak6 (b := b) (w := w)
 go_enter Tryz.func139, Tryz.ntmps139
 go_wp2_with (refine Qm _ _ rfl ?_)
 refine Stop.to ?_;refine Qe rfl 25 _ rfl #[.int .i64 d, .slice va V.length c, .slice ba h.length g] rfl ?_;intro G Gw Gh y Gb;go_wp2_with (refine Qm _ _ rfl ?_)
 refine Stop.to ?_;refine Qe rfl 65 _ rfl #[.int .i64 t, .int .i64 (k : Int)] rfl ?_;intro X Xw Xh Xr Xb;have b1 := (Below.refl w.heap.size w).trans (Gb.mono Gh);have b2 := b1.trans ((Xb.mono Xh).mono b1.size);go_wp2_with (refine QE _ rfl ?_)
 refine Stop.to ?_;refine Qi rfl 230 rfl _ _ Acp rfl ?_;intro R Rw Rh Rr Rb;go_wp2_with (refine Qp _ _ _ rfl ?_)
 refine Stop.to ?_;refine Qk rfl 230 _ _ rfl R #[.bool b] rfl rfl 230 _ Rr (by kernel_rfl) rfl (by simp [Value.oneCell']) ?_;intro RW RR RO;have RB : Below Rw.heap.size Rw Rw := Below.refl _ _;have o : Below Xw.heap.size Xw RW := (Rb.mono Rh).trans (RO.below Rh);have rG := (y.below Xb (Lg y.lt Xh)).below o (by have := (y.below Xb (Lg y.lt Xh)).lt; omega);have rX := Xr.below o Xr.lt;have b3 := b2.trans (o.mono b2.size);have c0 := RR.cellv (i := 0) (v := .bool b) rfl;have c1 := rG.cellv (i := 1) (v := .slice va V.length c) rfl;have c2 := rX.cellv (i := 1) (v := .int .i64 (k : Int)) rfl;have z := Lv (l.out.go b3).vrd;dsimp only at z;clear RR RO Rr Rb y Gb Xr Xb b1 b2 Gh Xh Rh RB o rG rX l t1 t2 t3;cases b with
 | false =>
  have x : Hid (Ky V (k : Int) false = []) := by show _ = _; unfold Ky; rw [if_neg (by simp)]
  go_wp2
  go_ret
  exact ⟨none, 0, by rw [x.out]; rfl, by rw [x.out]; exact Rd.nil _ _, b3⟩
 | true =>
  by_cases hk : k < V.length
  · obtain ⟨v, hv⟩ : ∃ v, V[k]? = some v := ⟨_, La hk⟩;obtain ⟨ad, ab, hc⟩ := ZP z.out hv;have x : Hid (Ky V (k : Int) true = [v]) := by show _ = _; unfold Ky; rw [L1, if_pos ⟨rfl, hk⟩, hv]; rfl
    have ae : (k : Int) < (V.length : Int) := by omega
    have af := q.out;have aa := s.out;unfold maxLen at aa;have ag : ¬ c = k := by omega
    have Hc := Lv hc;subst ab;clear hv hk hc;go_wp2
    go_ret
    refine ⟨some (ad.add k), c - k, by rw [x.out]; rfl, ?_, b3⟩;rw [x.out];intro j u hj;refine ⟨_, rfl, ?_⟩
    have ac : j = 0 := by
     have := (Ld.1 hj).1;simp [Qj] at this; exact this
    subst ac;have hu : Value.int .i64 v = u := by simpa [Qj] using hj
    rw [KY, Nat.add_zero, ← hu]; exact Hc.out
  · have x : Hid (Ky V (k : Int) true = []) := by show _ = _; unfold Ky; rw [if_neg (by simp; omega)]
    have ae : (V.length : Int) ≤ (k : Int) := by omega
    clear hk;go_wp2
    go_ret
    exact ⟨none, 0, by rw [x.out]; rfl, by rw [x.out]; exact Rd.nil _ _, b3⟩
theorem Af0 (p : PgV) (x : Nd) (m : Nat) (hm : m ≤ 1000) (w : World) : Calls Tryz.prog 139 #[.agg p.cells, .agg x.cells.toArray, .nilIface, .int .i64 (m : Int)] w fun e w' => WantR (List.replicate m 2) w w' e := by
 have y := fun w => Ak1 (w := w)
 have z := fun w => Ak0 (w := w)
 have t3 := fun w => Ak2 (w := w)
 go_enter Tryz.func139, Tryz.ntmps139
 go_wp2_with (refine Qm _ _ rfl ?_)
 refine Stop.to ?_;refine Qe rfl 25 _ rfl p.cells rfl ?_;intro G t n s l;go_wp2_with (refine Qm _ _ rfl ?_)
 refine Stop.to ?_;refine Qe rfl 65 _ rfl x.cells.toArray rfl ?_;intro X i q u o;have j := (Below.refl w.heap.size w).trans (l.mono n);have k := j.trans ((o.mono q).mono j.size);go_wp2_with fail
 refine (Ae3 i.heap.size 1 m 2 _ (Row.new i 3 #[.int .i64 2]) hm).mono ?_;rintro e w4 ⟨v, rfl, b, g⟩;have g := k.trans ((((Below.refl _ _).alloc (Nat.le_refl _) _).trans (g.mono (by simp))).mono k.size);obtain ⟨A, h, rfl, c, _, _⟩ := AeX b;have d := Lv c;clear b c;go_wp2
 go_ret
 refine ⟨A, h, ?_, d.out, g⟩;rw [Nu]; rfl
end Go.Proofs.YtkoikjnlpifbjaaGreat
