/- Lemmas for VerdictMoreP. -/
import Derived.Test.YtdcmppdhdcjpfaaGreatZr1
import Derived.Test.YtdcmppdhdcjpfaaGreatZr3
import Derived.Test.YtdcmppdhdcjpfaaGreatZr4
import Derived.Shelf.Bits.Mul64
import Derived.Test.YtdcmppdhdcjpfaaGreatRows
import Derived.WalkKit
import Derived.Laws.CopyOwn
import Derived.Deep.RegionLaw
set_option linter.unusedVariables false
set_option linter.unusedSimpArgs false
set_option maxRecDepth 100000
set_option maxHeartbeats 16000000
namespace Go.Proofs.YtdcmppdhdcjpfaaGreat
open Go.RowKit Go.Deep
def Js (k : Int) : Option (Int × List Int) :=
 if k = 1 then some (0, []) else if k = 2 then some (1, []) else if k = 5 then some (0, [0]) else if k = 6 then some (1, [1]) else if k = 18 then some (1, [1, 1]) else if k = 19 then some (1, [1, 1])
 else if k = 23 then some (2, [1, 2, 2]) else if k = 24 then some (2, [1, 2]) else if k = 25 then some (2, [0]) else if k = 26 then some (2, [])
 else if 7 ≤ k ∧ k ≤ 11 then some (0, [0, 0]) else if 12 ≤ k ∧ k ≤ 17 then some (1, [0, 0]) else none
def Ag6 (k : Int) : Option (Int × List Int) := if k = 4 then some (0, [0]) else if k = 22 then some (2, [0, 0]) else none
inductive RuleR (W : World) : Int → Value → Prop
 | plain (k is : Int) (A : Option Addr) (n cap : Nat) (want : List Int) (hc : Js k = some (is, want)) (hn : n = want.length) (hr : Rd W A (Qi want)) : RuleR W k (.iface 257 (.agg #[.slice A n cap, .int .i64 is]))
 | scalar (k : Int) (b : Bool) (h : k = 3 ∧ b = false ∨ k = 21 ∧ b = true) : RuleR W k (.iface 259 (.agg #[.bool b]))
 | array (k is : Int) (A : Option Addr) (n cap : Nat) (want : List Int) (hc : Ag6 k = some (is, want)) (hn : n = want.length) (hr : Rd W A (Qi want)) : RuleR W k (.iface 261 (.agg #[.slice A n cap, .int .i64 is]))
theorem RuleR.go {W W' : World} {k : Int} {v : Value} (h : RuleR W k v) (b : Below W.heap.size W W') : RuleR W' k v := by
 cases h with
 | plain is A n cap want hc hn hr => exact .plain _ _ _ _ _ _ hc hn (hr.go b)
 | scalar b' h => exact .scalar _ _ h
 | array is A n cap want hc hn hr => exact .array _ _ _ _ _ _ hc hn (hr.go b)
theorem Rd.only_map {W W' : World} {A : Option Addr} {xs : List Value} {M : Nat} {es : List (Int × Value)} (h : Rd W A xs) (hm : MapB W M es) (o : Only M W W') : Rd W' A xs := fun j u hj => by
 obtain ⟨ad, e, hc⟩ := h j u hj
 refine ⟨ad, e, ?_⟩
 have hne : (ad.add j).block ≠ M := fun e2 => by
  obtain ⟨arr, clock, he, _⟩ := hm
  simp [World.cell?, e2, he] at hc
 rw [← hc]
 simp only [World.cell?, o.block _ hne]
theorem RuleR.only {W W' : World} {k : Int} {v : Value} {M : Nat} {es : List (Int × Value)} (h : RuleR W k v) (hm : MapB W M es) (o : Only M W W') : RuleR W' k v := by
 cases h with
 | plain is A n cap want hc hn hr => exact .plain _ _ _ _ _ _ hc hn (hr.only_map hm o)
 | scalar b' h => exact .scalar _ _ h
 | array is A n cap want hc hn hr => exact .array _ _ _ _ _ _ hc hn (hr.only_map hm o)
structure RS (w W : World) (M : Nat) (D : List Int) : Prop where
 below : Below w.heap.size w W
 lo : w.heap.size ≤ M
 map : ∃ es, MapB W M es ∧ es.map (·.1) = D ∧ ∀ p ∈ es, RuleR W p.1 p.2
theorem RS.go {w W W' : World} {M : Nat} {D : List Int} (h : RS w W M D) (b : Below W.heap.size W W') : RS w W' M D := by
 obtain ⟨es, h1, h2, h3⟩ := h.map
 exact ⟨h.below.trans (b.mono h.below.size), h.lo, es, h1.below b h1.lt, h2, fun p hp => (h3 p hp).go b⟩
theorem RS.alloc {w W : World} {M : Nat} {D : List Int} (h : RS w W M D) (o : Obj) : RS w (W.alloc o) M D := h.go ((Below.refl _ _).alloc (Nat.le_refl _) o)
theorem Yc {k : Int} : ∀ {es : List (Int × Value)}, k ∉ es.map (·.1) → Ji k es = none
 | [], _ => rfl
 | (k', v) :: es, h => by
  rw [Ji, if_neg (fun e => h (by simp [e]))]
  exact Yc (fun hm => h (by simp at hm ⊢; exact .inr hm))
theorem EM {k : Int} {v : Value} : ∀ {es : List (Int × Value)}, Ji k es = some v → (k, v) ∈ es
 | [], h => by cases h
 | (k', v') :: es, h => by
  rw [Ji] at h
  split at h
  · rename_i e; injection h with h; subst e h; simp
  · exact List.mem_cons_of_mem _ (EM h)
theorem U4 {k : Int} : ∀ {es : List (Int × Value)}, k ∈ es.map (·.1) → ∃ v, Ji k es = some v
 | [], h => by simp at h
 | (k', v') :: es, h => by
  rw [Ji]
  by_cases e : k = k'
  · exact ⟨v', if_pos e⟩
  · rw [if_neg e]
    refine U4 ?_
    simp only [List.map_cons, List.mem_cons] at h
    rcases h with h | h
    · exact absurd h e
    · exact h
theorem J8 {ops : Array Oper} {rest : List Oper} {o : Oper} {a : Act} {w W : World} {Q : Exit → Act → World → Prop} {M : Nat} {D : List Int} (hgd : o.guard = none) (m x y : Operand) (ho : o.op = .insert 191 m x y ∨ o.op = .mapUpdate 191 m x y) (hm : a.eval m = .map (some M)) (k : Int) (v : Value) (hx : a.eval x = .int .i64 k) (hy : a.eval y = v) (hs : RS w W M D) (hn : k ∉ D) (hr : RuleR W k v)
 (h : ∀ W', RS w W' M (D ++ [k]) → wpList Tryz.prog ops Q rest (a.put o.dst undef) W') : wpList Tryz.prog ops Q (o :: rest) a W := by
 obtain ⟨es, h1, h2, h3⟩ := hs.map
 subst h2
 refine KW hgd m x y ho Tryz.underlying191 Tryz.underlying3 h1 hm k v hx hy (Yc hn) ?_
 intro W' h4 o4
 refine h W' ⟨Qo hs.below o4 hs.lo, hs.lo, _, h4, by simp, fun p hp => ?_⟩
 rcases List.mem_append.1 hp with hp | hp
 · exact (h3 p hp).only h1 o4
 · rw [List.mem_singleton.1 hp]; exact hr.only h1 o4
theorem Afr (w : World) : Calls Tryz.prog 127 #[] w fun e w' => ∃ M D, e = .returned (.map (some M)) ∧ RS w w' M D ∧ ∀ k, k ∈ D ↔ (1 ≤ k ∧ k ≤ 26 ∧ k ≠ 20) := by
 have hmm : ∀ w : World, (Instr.makeMap 191 none).run Tryz.prog w = .ok (.map (some w.heap.size)) (w.alloc (.map #[] 0)) := fun _ => by kernel_rfl
 go_enter Tryz.func127, Tryz.ntmps127
 have r0 : RS w (w.alloc (.map #[] 0)) w.heap.size [] := ⟨(Below.refl _ _).alloc (Nat.le_refl _) _, Nat.le_refl _, [], MapB.new w, rfl, fun p hp => by simp at hp⟩
 obtain ⟨M, hM⟩ : ∃ M, M = w.heap.size := ⟨_, rfl⟩
 go_wp2_with (refine J8 rfl _ _ _ (.inl rfl) rfl _ _ rfl rfl (by first | assumption | exact RS.alloc (by assumption) _) (by decide) (by first | exact RuleR.scalar _ _ (by decide) | exact RuleR.plain _ _ _ _ _ [] rfl rfl (Rd.nil _ _) | exact RuleR.plain _ _ _ _ _ [0] rfl rfl (ZZ _ (Qi [0]) _) | exact RuleR.plain _ _ _ _ _ [1] rfl rfl (ZZ _ (Qi [1]) _) | exact RuleR.plain _ _ _ _ _ [1, 1] rfl rfl (ZZ _ (Qi [1, 1]) _) | exact RuleR.plain _ _ _ _ _ [1, 2] rfl rfl (ZZ _ (Qi [1, 2]) _) | exact RuleR.plain _ _ _ _ _ [1, 2, 2] rfl rfl (ZZ _ (Qi [1, 2, 2]) _) | exact RuleR.array _ _ _ _ _ [0] rfl rfl (ZZ _ (Qi [0]) _) | exact RuleR.array _ _ _ _ _ [0, 0] rfl rfl (ZZ _ (Qi [0, 0]) _)) ?_; intro W' h')
 have hrs : RS w W' M ([1, 2, 3, 21, 4, 22, 5, 6, 18, 19, 23, 24, 25, 26]) := by rw [hM]; exact h'
 have HM := Lh hM
 rw [← hM]
 clear h' r0 hmm hM
 go_loopw [2] (fun i wr => ∃ (k : Nat) (D : List Int), i = .int .i64 (k : Int) ∧ 7 ≤ k ∧ k ≤ 18 ∧ RS w wr M D ∧ Hid (∀ j : Int, j ∈ D ↔ (j ∈ [1, 2, 3, 21, 4, 22, 5, 6, 18, 19, 23, 24, 25, 26] ∨ (7 ≤ j ∧ j < (k : Int))))) (fun i _ => 18 - (intOf i).toNat)
 case atStart => exact ⟨7, _, rfl, by omega, by omega, hrs, Lh (fun j => ⟨.inl, fun h => h.elim id (fun h => by omega)⟩)⟩
 case round =>
  clear hrs
  obtain ⟨k, D, rfl, h7, h18, hrs, hD⟩ := hrel
  by_cases hlt : k < 18
  · have hnot : (k : Int) ∉ D := fun h => by
     rcases (hD.out (k : Int)).1 h with h | h
     · simp only [List.mem_cons, List.not_mem_nil, or_false] at h; omega
     · omega
    have Hnot := Lh hnot
    clear hnot
    by_cases h12 : k < 12
    · have hc : Js (k : Int) = some (0, [0, 0]) := by
       unfold Js
       repeat (first | rw [if_neg (show ¬ _ by omega)] | rw [if_pos (show _ by omega)])
      have Hc := Lh hc
      clear hc
      go_wp2_with (refine J8 rfl _ _ _ (.inr rfl) rfl _ _ rfl rfl (RS.alloc hrs _) Hnot.out (RuleR.plain _ _ _ _ _ [0, 0] Hc.out rfl (ZZ wr (Qi [0, 0]) _)) ?_; intro W2 h2)
      go_roundw
      case rel =>
       refine ⟨k + 1, _, by go_num, by omega, by omega, h2, Lh (fun j => ?_)⟩
       rw [List.mem_append, hD.out j, List.mem_singleton]
       constructor
       · rintro ((h | h) | h)
         · exact .inl h
         · exact .inr (by omega)
         · exact .inr (by omega)
       · rintro (h | h)
         · exact .inl (.inl h)
         · by_cases e : j = (k : Int)
           · exact .inr e
           · exact .inl (.inr (by omega))
      case measure => simp [intOf]; omega
    · have h12' : 12 ≤ k := by omega
      have hc : Js (k : Int) = some (1, [0, 0]) := by
       unfold Js
       repeat (first | rw [if_neg (show ¬ _ by omega)] | rw [if_pos (show _ by omega)])
      have Hc := Lh hc
      clear hc
      go_wp2_with (refine J8 rfl _ _ _ (.inr rfl) rfl _ _ rfl rfl (RS.alloc hrs _) Hnot.out (RuleR.plain _ _ _ _ _ [0, 0] Hc.out rfl (ZZ wr (Qi [0, 0]) _)) ?_; intro W2 h2)
      go_roundw
      case rel =>
       refine ⟨k + 1, _, by go_num, by omega, by omega, h2, Lh (fun j => ?_)⟩
       rw [List.mem_append, hD.out j, List.mem_singleton]
       constructor
       · rintro ((h | h) | h)
         · exact .inl h
         · exact .inr (by omega)
         · exact .inr (by omega)
       · rintro (h | h)
         · exact .inl (.inl h)
         · by_cases e : j = (k : Int)
           · exact .inr e
           · exact .inl (.inr (by omega))
      case measure => simp [intOf]; omega
  · obtain rfl : k = 18 := by omega
    go_wp2
    go_ret
    refine ⟨M, D, rfl, hrs, fun j => ?_⟩
    rw [hD.out j]
    simp only [List.mem_cons, List.not_mem_nil, or_false]
    omega
theorem EA (A : Option Addr) (n cap : Nat) (is : Int) (p : PgV) (x : Nd) (w : World) : Calls Tryz.prog 346 #[.agg #[.slice A n cap, .int .i64 is], .agg p.cells, .agg x.cells.toArray] w fun e w' => e = .returned (.int .i64 is) ∧ Below w.heap.size w w' := by
 go_enter Tryz.func346, Tryz.ntmps346
 go_wp2_with (refine Qp _ _ rfl ?_)
 refine Stop.to ?_
 refine Qf rfl 257 _ rfl #[.slice A n cap, .int .i64 is] rfl ?_
 intro R Rw Rh Rr Rb
 go_wp2_with (refine Qp _ _ rfl ?_)
 refine Stop.to ?_
 refine Qf rfl 25 _ rfl p.cells rfl ?_
 intro G Gw Gh Gr Gb
 go_wp2_with (refine Qp _ _ rfl ?_)
 refine Stop.to ?_
 refine Qf rfl 85 _ rfl x.cells.toArray rfl ?_
 intro X Xw Xh Xr Xb
 have rR := (Rr.below Gb (Nat.lt_of_lt_of_le Rr.lt Gh)).below Xb (Nat.lt_of_lt_of_le (Rr.below Gb (Nat.lt_of_lt_of_le Rr.lt Gh)).lt Xh)
 have b1 := (Below.refl w.heap.size w).trans (Rb.mono Rh)
 have b2 := b1.trans ((Gb.mono Gh).mono b1.size)
 have b3 := b2.trans ((Xb.mono Xh).mono b2.size)
 have c1 := rR.cellv (i := 1) (v := .int .i64 is) rfl
 clear rR Rr Gr Xr Rb Gb Xb b1 b2 Rh Gh Xh
 go_wp2
 go_ret
 exact ⟨rfl, b3⟩
def Kt (V : List Int) (n : Int) (b : Bool) : Int := if JZ V n then (if b then 2 else (V[n.toNat]?).getD 0) else -1
theorem Ed (b : Bool) (p : PgV) (t n : Int) (w : World) (hok : p.ok w) (hn : 0 ≤ n) : Calls Tryz.prog 347 #[.agg #[.bool b], .agg p.cells, .agg (Nd.cells ⟨t, n⟩).toArray] w fun e w' => e = .returned (.int .i64 (Kt p.V n b)) ∧ Below w.heap.size w w' := by
 have Hok := Lh hok
 clear hok
 obtain ⟨k, rfl⟩ : ∃ k : Nat, n = (k : Int) := ⟨n.toNat, by omega⟩
 obtain ⟨params, va, vcap, V, ba, bcap, body⟩ := p
 dsimp only
 rw [show (PgV.mk params va vcap V ba bcap body).cells = #[.int .i64 params, .slice va V.length vcap, .slice ba body.length bcap] from rfl, show (Nd.cells ⟨t, (k : Int)⟩).toArray = #[.int .i64 t, .int .i64 (k : Int)] from rfl]
 go_enter Tryz.func347, Tryz.ntmps347
 go_wp2_with (refine Qp _ _ rfl ?_)
 refine Stop.to ?_
 refine Qf rfl 259 _ rfl #[.bool b] rfl ?_
 intro R Rw Rh Rr Rb
 go_wp2_with (refine Qp _ _ rfl ?_)
 refine Stop.to ?_
 refine Qf rfl 25 _ rfl #[.int .i64 params, .slice va V.length vcap, .slice ba body.length bcap] rfl ?_
 intro G Gw Gh Gr Gb
 go_wp2_with (refine Qp _ _ rfl ?_)
 refine Stop.to ?_
 refine Qf rfl 85 _ rfl #[.int .i64 t, .int .i64 (k : Int)] rfl ?_
 intro X Xw Xh Xr Xb
 have rG := Gr.below Xb (Nat.lt_of_lt_of_le Gr.lt Xh)
 have rR := (Rr.below Gb (Nat.lt_of_lt_of_le Rr.lt Gh)).below Xb (Nat.lt_of_lt_of_le (Rr.below Gb (Nat.lt_of_lt_of_le Rr.lt Gh)).lt Xh)
 have b1 := (Below.refl w.heap.size w).trans (Rb.mono Rh)
 have b2 := b1.trans ((Gb.mono Gh).mono b1.size)
 have b3 := b2.trans ((Xb.mono Xh).mono b2.size)
 have c0 := rR.cellv (i := 0) (v := .bool b) rfl
 have c1 := rG.cellv (i := 1) (v := .slice va V.length vcap) rfl
 have c2 := Xr.cellv (i := 1) (v := .int .i64 (k : Int)) rfl
 have Hvr := Lh (Hok.out.go b3).vrd
 dsimp only at Hvr
 clear rR rG Rr Gr Xr Rb Gb Xb b1 b2 Rh Gh Xh Hok
 by_cases hk : k < V.length
 rotate_left
 · have hz : Hid (Kt V (k : Int) b = -1) := by show _ = _; unfold Kt JZ; rw [Int.toNat_natCast, List.getElem?_eq_none (by omega)]; rfl
   have hk' : (V.length : Int) ≤ (k : Int) := by omega
   clear hk
   go_wp2
   go_ret
   exact ⟨QK hz.out, b3⟩
 obtain ⟨v, hv⟩ : ∃ v, V[k]? = some v := ⟨_, List.getElem?_eq_getElem hk⟩
 obtain ⟨ad, had, hc⟩ := Zf Hvr.out hv
 have hk' : (k : Int) < (V.length : Int) := by omega
 subst had
 by_cases h01 : v = 0 ∨ v = 1
 · have hz : Hid (Kt V (k : Int) b = if b then 2 else v) := by
    show _ = _
    unfold Kt JZ
    rw [Int.toNat_natCast, hv]
    simp only
    rw [if_pos (by simpa using h01)]; rfl
   clear hv hk
   rcases h01 with rfl | rfl
   all_goals
    cases b
    all_goals
     go_wp2
     go_ret
     exact ⟨QK hz.out, b3⟩
 · have hz : Hid (Kt V (k : Int) b = -1) := by
    show _ = _
    unfold Kt JZ
    rw [Int.toNat_natCast, hv]
    simp only
    rw [if_neg (by simpa using h01)]
   have e0 : (v != 0) = true := by simp; omega
   have e1 : (v != 1) = true := by simp; omega
   clear hv hk h01
   go_wp2
   go_ret
   exact ⟨QK hz.out, b3⟩
def Xp (V : List Int) (n is : Int) : Int := if XG V n then is else -1
theorem Es (A : Option Addr) (m cap : Nat) (is : Int) (p : PgV) (t n : Int) (w : World) (hok : p.ok w) (hn : 0 ≤ n) : Calls Tryz.prog 348 #[.agg #[.slice A m cap, .int .i64 is], .agg p.cells, .agg (Nd.cells ⟨t, n⟩).toArray] w fun e w' => e = .returned (.int .i64 (Xp p.V n is)) ∧ Below w.heap.size w w' := by
 have Hok := Lh hok
 clear hok
 obtain ⟨k, rfl⟩ : ∃ k : Nat, n = (k : Int) := ⟨n.toNat, by omega⟩
 obtain ⟨params, va, vcap, V, ba, bcap, body⟩ := p
 dsimp only
 rw [show (PgV.mk params va vcap V ba bcap body).cells = #[.int .i64 params, .slice va V.length vcap, .slice ba body.length bcap] from rfl, show (Nd.cells ⟨t, (k : Int)⟩).toArray = #[.int .i64 t, .int .i64 (k : Int)] from rfl]
 go_enter Tryz.func348, Tryz.ntmps348
 go_wp2_with (refine Qp _ _ rfl ?_)
 refine Stop.to ?_
 refine Qf rfl 261 _ rfl #[.slice A m cap, .int .i64 is] rfl ?_
 intro R Rw Rh Rr Rb
 go_wp2_with (refine Qp _ _ rfl ?_)
 refine Stop.to ?_
 refine Qf rfl 25 _ rfl #[.int .i64 params, .slice va V.length vcap, .slice ba body.length bcap] rfl ?_
 intro G Gw Gh Gr Gb
 go_wp2_with (refine Qp _ _ rfl ?_)
 refine Stop.to ?_
 refine Qf rfl 85 _ rfl #[.int .i64 t, .int .i64 (k : Int)] rfl ?_
 intro X Xw Xh Xr Xb
 have rG := Gr.below Xb (Nat.lt_of_lt_of_le Gr.lt Xh)
 have rR := (Rr.below Gb (Nat.lt_of_lt_of_le Rr.lt Gh)).below Xb (Nat.lt_of_lt_of_le (Rr.below Gb (Nat.lt_of_lt_of_le Rr.lt Gh)).lt Xh)
 have b1 := (Below.refl w.heap.size w).trans (Rb.mono Rh)
 have b2 := b1.trans ((Gb.mono Gh).mono b1.size)
 have b3 := b2.trans ((Xb.mono Xh).mono b2.size)
 have c0 := rR.cellv (i := 1) (v := .int .i64 is) rfl
 have c1 := rG.cellv (i := 1) (v := .slice va V.length vcap) rfl
 have c2 := Xr.cellv (i := 1) (v := .int .i64 (k : Int)) rfl
 have Hvr := Lh (Hok.out.go b3).vrd
 have Hin := Lh Hok.out.vin
 dsimp only at Hvr Hin
 clear rR rG Rr Gr Xr Rb Gb Xb b1 b2 Rh Gh Xh Hok
 by_cases hk : k < V.length
 rotate_left
 · have hz : Hid (Xp V (k : Int) is = -1) := by show _ = _; unfold Xp XG; rw [Int.toNat_natCast, List.getElem?_eq_none (by omega)]; rfl
   have hk' : (V.length : Int) ≤ (k : Int) := by omega
   clear hk
   go_wp2
   go_ret
   exact ⟨QK hz.out, b3⟩
 obtain ⟨v, hv⟩ : ∃ v, V[k]? = some v := ⟨_, List.getElem?_eq_getElem hk⟩
 obtain ⟨ad, had, hc⟩ := Zf Hvr.out hv
 have Hi := Lh (Hin.out v (List.mem_of_getElem? hv))
 have hk' : (k : Int) < (V.length : Int) := by omega
 subst had
 by_cases h01 : QU v = 0
 · have hz : Hid (Xp V (k : Int) is = -1) := by
    show _ = _
    unfold Xp XG
    rw [Int.toNat_natCast, hv]
    simp only
    rw [if_neg (by simpa using h01)]
   have e0 : (QU v == 0) = true := by simpa using h01
   clear hv hk h01
   go_wp2_with (go_at_call 56; refine (Km v _ Hi.out).mono ?_; rintro e w' ⟨rfl, rfl⟩)
   go_ret
   exact ⟨QK hz.out, b3⟩
 · have hz : Hid (Xp V (k : Int) is = is) := by
    show _ = _
    unfold Xp XG
    rw [Int.toNat_natCast, hv]
    simp only
    rw [if_pos (by simpa using h01)]
   have e0 : (QU v == 0) = false := by simpa using h01
   clear hv hk h01
   go_wp2_with (go_at_call 56; refine (Km v _ Hi.out).mono ?_; rintro e w' ⟨rfl, rfl⟩)
   go_ret
   exact ⟨QK hz.out, b3⟩
end Go.Proofs.YtdcmppdhdcjpfaaGreat
namespace Go.Proofs.YtdcmppdhdcjpfaaGreat
open Go.Shelf
def Aca : Go.Shelf.Ren := ⟨fun | 212 => 271 | 263 => 292 | 264 => 293 | n => n, fun | 46 => 278 | 51 => 92 | 146 => 334 | 53 => 219 | 148 => 336 | n => n, fun | n => n⟩
theorem Ahx : Go.Proofs.Lays.n212 Tryz.prog Aca := {
 mixed := by kernel_rfl
 f212 := Tryz.func271.trans (congrArg some (by kernel_rfl))
 f263 := Tryz.func292.trans (congrArg some (by kernel_rfl))
 f264 := Tryz.func293.trans (congrArg some (by kernel_rfl))
 t46 := Tryz.underlying278
 a46 := Tryz.isAgg278
 z46 := Tryz.sizeOf278
 v46 := Tryz.zeroValue278
 t51 := Tryz.underlying92
 a51 := Tryz.isAgg92
 z51 := Tryz.sizeOf92
 v51 := Tryz.zeroValue92
 t53 := Tryz.underlying219
 a53 := Tryz.isAgg219
 z53 := Tryz.sizeOf219
 v53 := Tryz.zeroValue219
 t146 := Tryz.underlying334
 a146 := Tryz.isAgg334
 z146 := Tryz.sizeOf334
 v146 := Tryz.zeroValue334
 t148 := Tryz.underlying336
 a148 := Tryz.isAgg336
 z148 := Tryz.sizeOf336
 v148 := Tryz.zeroValue336 }
open Go.RowKit Go.Lib in
theorem bits_Mul (x y : Nat) (hx : x < 18446744073709551616) (hy : y < 18446744073709551616) (w : World) :
 Calls Tryz.prog 271 #[.int .u64 x, .int .u64 y] w fun e w' => e = .returned (.tuple #[.int .u64 ((x * y / 18446744073709551616 : Nat) : Int), .int .u64 ((x * y % 18446744073709551616 : Nat) : Int)]) ∧ w' = w := Any.bits_Mul Ahx x y hx hy w
end Go.Proofs.YtdcmppdhdcjpfaaGreat
namespace Go.Proofs.YtdcmppdhdcjpfaaGreat
open Go.RowKit Go.Deep
theorem KZ (z : Value) (n : Nat) : madeCells #[z] n = (List.replicate n z).toArray := by
 unfold madeCells
 apply Array.ext
 · simp
 · intro i h1 h2; simp [Nat.mod_one]
theorem Ai0 (a b : Nat) : Nat.min a b ≤ a ∧ Nat.min a b ≤ b ∧ (Nat.min a b = a ∨ Nat.min a b = b) := by
 show min a b ≤ a ∧ min a b ≤ b ∧ (min a b = a ∨ min a b = b)
 omega
theorem Jt {P : Program} {o : Oper} {w w1 : World} {ρ : Operand → Value} {s x : Operand} {t t' : TypeId} (ho : o.op = .call { callee := .builtin .copy, args := #[s, x], argTypes := #[t, t'] }) {v : Value} (hv : (Builtin.copy_ #[t, t'] o.type #[ρ s, ρ x]).run P w = .ok v w1) : (execOp ρ o).run P w = .ok (.value v) w1 := by
 unfold execOp
 simp only [ho, resolve, invoke, builtin, Sem.run_bind, Sem.run_pure, Result.andThen_ok, List.map_toArray, List.map_cons, List.map_nil, hv]
theorem Eh (k n m : Nat) (x : Int) (hk : k + m ≤ n) : splice (Qi (List.replicate k x ++ List.replicate (n - k) 0)) k (Qi (List.replicate m x)) = Qi (List.replicate (k + m) x ++ List.replicate (n - (k + m)) 0) := by
 unfold splice Qi
 simp only [List.map_append, List.map_replicate, List.length_replicate]
 rw [List.take_append_of_le_length (by simp), List.take_of_length_le (by simp), List.drop_append, List.drop_eq_nil_of_le (by simp), List.length_replicate, List.drop_replicate, List.nil_append, ← List.append_assoc, List.replicate_append_replicate, show n - k - (k + m - k) = n - (k + m) by omega]
theorem AdQ (g cap n : Nat) (x : Int) (w : World) (hr : Row w g 3 #[.int .i64 x]) (hn : n ≤ 1000) : Calls Tryz.prog 251 #[.slice (some ⟨g, 0, none⟩) 1 cap, .int .i64 (n : Int)] w fun e w' => IntsR (List.replicate n x) w w' e := by
 have hmul : ∀ W, Calls Tryz.prog 271 #[.int .u64 1, .int .u64 (n : Int)] W fun e w' => e = .returned (.tuple #[.int .u64 0, .int .u64 (n : Int)]) ∧ w' = W := fun W => by
  have := bits_Mul 1 n (by omega) (by omega) W
  rw [Nat.one_mul, Nat.div_eq_of_lt (by omega), Nat.mod_eq_of_lt (by omega)] at this
  exact this
 have Hmul := Lh hmul
 clear hmul
 have hmk : ∀ W : World, (Instr.makeSlice 22 (.int .i64 (n : Int)) (.int .i64 (n : Int))).run Tryz.prog W = .ok (.slice (some ⟨W.heap.size, 0, none⟩) n n) (W.alloc (.cells (Qi (List.replicate n 0)).toArray 3)) := fun W => by
  have := run_make_row' (P := Tryz.prog) (w := W) 22 3 (.int .i64 0) 8 Tryz.underlying22 Jn rfl .i64 .i64 n (by omega) (by omega)
  rw [show madeCells #[Value.int .i64 0] n = (Qi (List.replicate n 0)).toArray from by rw [KZ]; simp [Qi]] at this
  exact this
 go_enter Tryz.func251, Tryz.ntmps251
 have hdec : decide ((n : Int) < 0) = false := by simp
 have hdec2 : decide (9223372036854775807 < (n : Int)) = false := by simp; omega
 go_wp2_with fail
 refine (Hmul.out w).mono ?_
 rintro e w1 ⟨rfl, hw⟩
 subst hw
 clear Hmul
 have hsp := Eh 0 n (Nat.min 1 n) x (by rw [Nat.zero_add]; exact Nat.min_le_right _ _)
 rw [Nat.zero_add, List.replicate_zero, List.nil_append, Nat.sub_zero] at hsp
 have Hsp := Lh hsp
 clear hsp
 have rn := Row.new w1 3 (Qi (List.replicate n 0)).toArray
 have hr1 := hr.alloc (.cells (Qi (List.replicate n 0)).toArray 3)
 have hc1 : ∀ (j : Nat) (v : Value), (Qi (List.replicate (Nat.min 1 n) x))[j]? = some v → (w1.alloc (.cells (Qi (List.replicate n 0)).toArray 3)).cell? ((⟨g, 0, none⟩ : Addr).add j) = some v :=
  hr1.from_ 0 (cs := Qi (List.replicate (Nat.min 1 n) x)) (fun j v hj => by
   have hlt := (List.getElem?_eq_some_iff.1 hj).1
   have h1 : (Qi (List.replicate (Nat.min 1 n) x)).length ≤ 1 := by simp [Qi]; exact Nat.min_le_left _ _
   obtain rfl : j = 0 := by omega
   rw [← hj]
   simp only [Qi, List.map_replicate, List.getElem?_replicate]
   rw [if_pos (by simpa [Qi] using hlt)]; rfl)
 have Hc1 := Lh hc1
 have Rn := Lh rn
 have hlen1 : (Qi (List.replicate (Nat.min 1 n) x)).length = Nat.min 1 n := by simp [Qi]
 have Hl1 := Lh hlen1
 clear rn hr1 hr hc1 hlen1
 go_wp2_with (refine wpList_copy_splice rfl (.tmp 31) (.tmp 32) 22 22 rfl 3 Tryz.underlying22 rfl (some ⟨w1.heap.size, 0, none⟩) (some ⟨g, 0, none⟩) n n 1 cap rfl rfl w1.heap.size 0 (Qi (List.replicate n 0)) 3 Rn.out (Qi (List.replicate (Nat.min 1 n) x)) Hl1.out (fun _ => ⟨rfl, _, rfl, Hc1.out⟩) (by rw [Hl1.out]; simp [Qi]; exact Nat.min_le_right _ _) (Jo _) w1.heap.size w1 ((Below.refl _ _).alloc (Nat.le_refl _) _) (Nat.le_refl _) ?_; intro w2 h2 b2)
 have r2 : Row w2 w1.heap.size 3 (Qi (List.replicate (Nat.min 1 n) x ++ List.replicate (n - Nat.min 1 n) 0)).toArray := by rw [← Hsp.out]; exact h2.out
 obtain ⟨G, hG⟩ : ∃ G, G = w1.heap.size := ⟨_, rfl⟩
 rw [← hG] at r2 ⊢
 obtain ⟨k0, hk0⟩ : ∃ k0, k0 = Nat.min 1 n := ⟨_, rfl⟩
 rw [Hl1.out, ← hk0]
 rw [← hk0] at r2
 have hk0n : k0 ≤ n ∧ (k0 = 0 → n = 0) := by have := Ai0 1 n; rw [← hk0] at this; omega
 have HG := Lh hG
 clear hG hk0 Hsp Hc1 Rn Hl1 h2 hmk
 go_wp2
 go_loopw [8] (fun i wr => ∃ k : Nat, i = .int .i64 (k : Int) ∧ k ≤ n ∧ (k = 0 → n = 0) ∧ Row wr G 3 (Qi (List.replicate k x ++ List.replicate (n - k) 0)).toArray ∧ Below w1.heap.size w1 wr) (fun i _ => n - (intOf i).toNat)
 case atStart => exact ⟨k0, rfl, hk0n.1, hk0n.2, r2, b2⟩
 case round =>
  clear r2 b2 w2
  obtain ⟨k, rfl, hkn, hk0', hr, hb⟩ := hrel
  by_cases hlt : k < n
  · have hltI : (k : Int) < (n : Int) := by omega
    have hkpos : 0 < k := by rcases Nat.eq_zero_or_pos k with h | h
                             · have := hk0' h; omega
                             · exact h
    obtain ⟨m, hm⟩ : ∃ m, m = Nat.min k (n - k) := ⟨_, rfl⟩
    have hmm := Ai0 k (n - k)
    rw [← hm] at hmm
    obtain ⟨hmk', hmn, hmo⟩ := hmm
    have hmp : 0 < m := by omega
    clear hmo
    have Hm := Lh hm
    clear hm hk0' hlt hk0n
    have hkc : (n : Int) - (k : Int) = ((n - k : Nat) : Int) := by omega
    have hcs : ∀ (j : Nat) (v : Value), (Qi (List.replicate m x))[j]? = some v → wr.drew.cell? ((⟨G, 0, none⟩ : Addr).add j) = some v :=
     hr.drew.from_ 0 (cs := Qi (List.replicate m x)) (fun j v hj => by
      have hlt : j < m := by have := (List.getElem?_eq_some_iff.1 hj).1; simpa [Qi] using this
      rw [← hj]
      simp only [Qi, List.map_replicate, List.getElem?_replicate, List.map_append, Nat.zero_add, List.getElem?_toArray]
      rw [if_pos hlt, List.getElem?_append_left (by simp; omega), List.getElem?_replicate, if_pos (by omega)])
    have Hcs := Lh hcs
    have Hr := Lh hr.drew
    have Hb := Lh (ZK hb 1)
    have hsp := Eh k n m x (by omega)
    have Hsp := Lh hsp
    have Hml : Hid ((Qi (List.replicate m x)).length = Nat.min k (n - k)) := by show _ = _; rw [← Hm.out]; simp [Qi]
    have hfit : k + (Qi (List.replicate m x)).length ≤ (Qi (List.replicate k x ++ List.replicate (n - k) 0)).length := by simp [Qi]; omega
    have Hfit := Lh hfit
    clear hcs hr hb hsp hfit
    go_wp2_with fail
    refine wp_region_held (S := fun _ => True) (by kernel_rfl) ?_
    simp only [List.size_toArray, List.length_cons, List.length_nil, Nat.reduceAdd, Array.replicate_succ, Array.replicate_zero, List.push_toArray, List.nil_append, List.cons_append]
    show wpAnyH _ _ _ _ _ _ _ _ wr.drew
    have hS : (fun _ : World => True) wr.drew := trivial
    have Hb : Hid (Below w1.heap.size w1 wr.drew) := Hb.out
    generalize wr.drew = wd at Hcs Hr hS Hb ⊢
    (refine tkH 0 (.int .i64 (k : Int)) rfl (Qd rfl (fun W hW => by (go_simp))) ?_; simp only [Act.put, Qa, Qb, Qc])
    (refine tkH 1 (.slice (some ⟨G, 0, none⟩) n n) rfl (Qd rfl (fun W hW => by (go_simp))) ?_; simp only [Act.put, Qa, Qb, Qc])
    (refine tkH 2 (.int .i64 (k : Int)) rfl (Qd rfl (fun W hW => by (go_simp))) ?_; simp only [Act.put, Qa, Qb, Qc])
    (refine tkH 4 (.slice (some ⟨G, 0, none⟩) n n) rfl (Qd rfl (fun W hW => by (go_simp))) ?_; simp only [Act.put, Qa, Qb, Qc])
    (refine tkH 5 (.int .i64 (k : Int)) rfl (Qd rfl (fun W hW => by (go_simp))) ?_; simp only [Act.put, Qa, Qb, Qc])
    (refine tkH 3 (.slice (some ⟨G, k, none⟩) (n - k) (n - k)) rfl (Qd rfl (fun W hW => by (go_simp; omega))) ?_; simp only [Act.put, Qa, Qb, Qc])
    (refine tkH 6 (.slice (some ⟨G, 0, none⟩) k n) rfl (Qd rfl (fun W hW => by (go_simp))) ?_; simp only [Act.put, Qa, Qb, Qc])
    (refine wpAnyH_all (rs := [7]) (by kernel_rfl) (by simp) (fun i hi => ?_); obtain rfl : i = 7 := by simpa using hi)
    refine Qe rfl rfl (fun K2 hK2 => ?_)
    refine Qj (goInt (Qi (List.replicate m x)).length) (w1 := _) (by exact Jt rfl (run_copy_row (P := Tryz.prog) wd 22 22 _ 3 G k (n - k) (n - k) ⟨G, 0, none⟩ k n _ 3 (Qi (List.replicate m x)) Tryz.underlying22 rfl Hr.out Hml.out Hcs.out (by simpa using Hfit.out) (Jo _))) ?_
    rw [show goInt (Qi (List.replicate m x)).length = .int .i64 (m : Int) by simp [goInt, Qi]]
    have r3 : Row (wd.setRow G ((Qi (List.replicate k x ++ List.replicate (n - k) 0)).toArray.toList.take k ++ Qi (List.replicate m x) ++ (Qi (List.replicate k x ++ List.replicate (n - k) 0)).toArray.toList.drop (k + (Qi (List.replicate m x)).length)).toArray) G 3 (Qi (List.replicate (k + m) x ++ List.replicate (n - (k + m)) 0)).toArray := by
     rw [← Hsp.out, splice, ← List.append_assoc]; exact Hr.out.setRow _
    have b3 := Ka (g := G) Hb.out (Nat.le_of_eq HG.out.symm) ((Qi (List.replicate k x ++ List.replicate (n - k) 0)).toArray.toList.take k ++ Qi (List.replicate m x) ++ (Qi (List.replicate k x ++ List.replicate (n - k) 0)).toArray.toList.drop (k + (Qi (List.replicate m x)).length)).toArray
    refine hK2 _ _ ?_
    clear hK2 K2
    generalize wd.setRow G _ = we at r3 b3 ⊢
    simp only [Act.put, Qa, Qb, Qc]
    refine ⟨trivial, ?_⟩
    have hkm : IntKind.i64.wrap ((k : Int) + (m : Int)) = ((k + m : Nat) : Int) := by rw [IntWalk.i64_in _ (by omega)]; omega
    (refine tkH 8 (.int .i64 ((k + m : Nat) : Int)) rfl (Qd rfl (fun W hW => by (go_simp; try exact hkm))) ?_; simp only [Act.put, Qa, Qb, Qc])
    (refine tkH 9 (.int .i64 ((k + m : Nat) : Int)) rfl (Qd rfl (fun W hW => by (go_simp))) ?_; simp only [Act.put, Qa, Qb, Qc])
    refine wpAnyH_done (by kernel_rfl) ?_ _
    have R3 := Lh r3
    have B3 := Lh b3
    clear r3 b3 hkm Hr Hcs Hb Hsp Hml Hfit
    go_wp2
    go_roundw
    case rel => exact ⟨k + m, rfl, by omega, by omega, R3.out, B3.out⟩
    case measure => simp [intOf]; omega
  · obtain rfl : n = k := by omega
    have Hr := Lh hr
    clear hlt hr
    go_wp2
    go_ret
    refine ⟨_, rfl, ?_, hb⟩
    have h1 := Hr.out
    rw [Nat.sub_self, List.replicate_zero, List.append_nil] at h1
    rw [List.length_replicate]
    exact ⟨by simp [Qi], .inr ⟨G, n, _, rfl, by have := HG.out; omega, h1, Nat.le_refl _, by unfold maxLen; omega, by simp [Qi], by simp [Qi]⟩⟩
section
variable {A : Option Addr} {n cap : Nat} {is : Int} {b : Bool} {w : World}
theorem Ajc : (Instr.typeAssert (.iface 257 (.agg #[.slice A n cap, .int .i64 is])) 263 257 true).run Tryz.prog w = .ok (.tuple #[.agg #[.slice A n cap, .int .i64 is], .bool true]) w := by kernel_rfl
theorem Ai8 : (Instr.typeAssert (.iface 261 (.agg #[.slice A n cap, .int .i64 is])) 263 257 true).run Tryz.prog w = .ok (.tuple #[.agg #[.slice none 0 0, .int .i64 0], .bool false]) w := by kernel_rfl
theorem Ai7 : (Instr.typeAssert (.iface 261 (.agg #[.slice A n cap, .int .i64 is])) 263 261 true).run Tryz.prog w = .ok (.tuple #[.agg #[.slice A n cap, .int .i64 is], .bool true]) w := by kernel_rfl
theorem Aje : (Instr.typeAssert (.iface 259 (.agg #[.bool b])) 263 257 true).run Tryz.prog w = .ok (.tuple #[.agg #[.slice none 0 0, .int .i64 0], .bool false]) w := by kernel_rfl
theorem Ajd : (Instr.typeAssert (.iface 259 (.agg #[.bool b])) 263 261 true).run Tryz.prog w = .ok (.tuple #[.agg #[.slice none 0 0, .int .i64 0], .bool false]) w := by kernel_rfl
theorem Ajf : (Instr.typeAssert (.iface 259 (.agg #[.bool b])) 263 259 true).run Tryz.prog w = .ok (.tuple #[.agg #[.bool b], .bool true]) w := by kernel_rfl
theorem Aja : (Instr.typeAssert .nilIface 263 257 true).run Tryz.prog w = .ok (.tuple #[.agg #[.slice none 0 0, .int .i64 0], .bool false]) w := by kernel_rfl
theorem Ai9 : (Instr.typeAssert .nilIface 263 261 true).run Tryz.prog w = .ok (.tuple #[.agg #[.slice none 0 0, .int .i64 0], .bool false]) w := by kernel_rfl
theorem Ajb : (Instr.typeAssert .nilIface 263 259 true).run Tryz.prog w = .ok (.tuple #[.agg #[.bool false], .bool false]) w := by kernel_rfl
theorem Ad4 : (zeroValue 257).run Tryz.prog w = .ok (.agg #[.slice none 0 0, .int .i64 0]) w := by kernel_rfl
theorem AcY : (zeroValue 261).run Tryz.prog w = .ok (.agg #[.slice none 0 0, .int .i64 0]) w := by kernel_rfl
theorem Abo : (zeroValue 259).run Tryz.prog w = .ok (.agg #[.bool false]) w := by kernel_rfl
end
theorem Abu (A : Option Addr) (n cap : Nat) (is : Int) (p : PgV) (x : Nd) (m : Int) (w : World) : Calls Tryz.prog 208 #[.agg p.cells, .agg x.cells.toArray, .iface 257 (.agg #[.slice A n cap, .int .i64 is]), .int .i64 m] w fun e w' => e = .returned (.slice A n cap) ∧ Below w.heap.size w w' := by
 have t1 := fun w => Ajc (A := A) (n := n) (cap := cap) (is := is) (w := w)
 go_enter Tryz.func208, Tryz.ntmps208
 go_wp2_with (refine Qp _ _ rfl ?_)
 refine Stop.to ?_
 refine Qf rfl 25 _ rfl p.cells rfl ?_
 intro G Gw Gh Gr Gb
 go_wp2_with (refine Qp _ _ rfl ?_)
 refine Stop.to ?_
 refine Qf rfl 85 _ rfl x.cells.toArray rfl ?_
 intro X Xw Xh Xr Xb
 have b1 := (Below.refl w.heap.size w).trans (Gb.mono Gh)
 have b2 := b1.trans ((Xb.mono Xh).mono b1.size)
 go_wp2_with (refine QY _ rfl ?_)
 refine Stop.to ?_
 refine Ql rfl 257 rfl _ _ Ad4 rfl ?_
 intro R Rw Rh Rr Rb
 go_wp2_with (refine QD _ _ _ rfl ?_)
 refine Stop.to ?_
 refine Qk rfl 257 _ _ rfl R #[.slice A n cap, .int .i64 is] rfl rfl 257 _ Rr (by kernel_rfl) rfl (by simp [Value.oneCell']) ?_
 intro RW RR RO
 have RB : Below Rw.heap.size Rw Rw := Below.refl _ _
 have b3 := (b2.trans ((Rb.mono Rh).mono b2.size)).trans (RO.below (by have := b2.size; omega))
 have c0 := RR.cellv (i := 0) (v := .slice A n cap) rfl
 clear RR RO Rr Rb Gr Gb Xr Xb b1 b2 Gh Xh Rh RB
 go_wp2
 go_ret
 exact ⟨rfl, b3⟩
theorem Abt (A : Option Addr) (n cap : Nat) (is : Int) (p : PgV) (x : Nd) (m : Int) (w : World) : Calls Tryz.prog 208 #[.agg p.cells, .agg x.cells.toArray, .iface 261 (.agg #[.slice A n cap, .int .i64 is]), .int .i64 m] w fun e w' => e = .returned (.slice A n cap) ∧ Below w.heap.size w w' := by
 have t1 := fun w => Ai8 (A := A) (n := n) (cap := cap) (is := is) (w := w)
 have t2 := fun w => Ai7 (A := A) (n := n) (cap := cap) (is := is) (w := w)
 go_enter Tryz.func208, Tryz.ntmps208
 go_wp2_with (refine Qp _ _ rfl ?_)
 refine Stop.to ?_
 refine Qf rfl 25 _ rfl p.cells rfl ?_
 intro G Gw Gh Gr Gb
 go_wp2_with (refine Qp _ _ rfl ?_)
 refine Stop.to ?_
 refine Qf rfl 85 _ rfl x.cells.toArray rfl ?_
 intro X Xw Xh Xr Xb
 have b1 := (Below.refl w.heap.size w).trans (Gb.mono Gh)
 have b2 := b1.trans ((Xb.mono Xh).mono b1.size)
 go_wp2_with (refine QY _ rfl ?_)
 refine Stop.to ?_
 refine Ql rfl 261 rfl _ _ AcY rfl ?_
 intro R Rw Rh Rr Rb
 go_wp2_with (refine QD _ _ _ rfl ?_)
 refine Stop.to ?_
 refine Qk rfl 261 _ _ rfl R #[.slice A n cap, .int .i64 is] rfl rfl 261 _ Rr (by kernel_rfl) rfl (by simp [Value.oneCell']) ?_
 intro RW RR RO
 have RB : Below Rw.heap.size Rw Rw := Below.refl _ _
 have b3 := (b2.trans ((Rb.mono Rh).mono b2.size)).trans (RO.below (by have := b2.size; omega))
 have c0 := RR.cellv (i := 0) (v := .slice A n cap) rfl
 clear RR RO Rr Rb Gr Gb Xr Xb b1 b2 Gh Xh Rh RB
 go_wp2
 go_ret
 exact ⟨rfl, b3⟩
structure WantR (want : List Int) (w w' : World) (e : Ending) : Prop where
 ex : ∃ A cap, e = .returned (.slice A want.length cap) ∧ Rd w' A (Qi want) ∧ Below w.heap.size w w'
def JP (V : List Int) (n : Int) (b : Bool) : List Int := if b ∧ n.toNat < V.length then [(V[n.toNat]?).getD 0] else []
theorem Aaw (b : Bool) (p : PgV) (t n : Int) (hn : 0 ≤ n) (m : Int) (w : World) (hok : p.ok w) : Calls Tryz.prog 208 #[.agg p.cells, .agg (Nd.cells ⟨t, n⟩).toArray, .iface 259 (.agg #[.bool b]), .int .i64 m] w fun e w' => WantR (JP p.V n b) w w' e := by
 have Hok := Lh hok
 clear hok
 obtain ⟨k, rfl⟩ : ∃ k : Nat, n = (k : Int) := ⟨n.toNat, by omega⟩
 obtain ⟨params, va, vcap, V, ba, bcap, body⟩ := p
 dsimp only
 have Hcap := Lh Hok.out.vlen
 have Hmax := Lh Hok.out.vmax
 dsimp only at Hcap Hmax
 rw [show (PgV.mk params va vcap V ba bcap body).cells = #[.int .i64 params, .slice va V.length vcap, .slice ba body.length bcap] from rfl, show (Nd.cells ⟨t, (k : Int)⟩).toArray = #[.int .i64 t, .int .i64 (k : Int)] from rfl]
 have t1 := fun w => Aje (b := b) (w := w)
 have t2 := fun w => Ajd (b := b) (w := w)
 have t3 := fun w => Ajf (b := b) (w := w)
 go_enter Tryz.func208, Tryz.ntmps208
 go_wp2_with (refine Qp _ _ rfl ?_)
 refine Stop.to ?_
 refine Qf rfl 25 _ rfl #[.int .i64 params, .slice va V.length vcap, .slice ba body.length bcap] rfl ?_
 intro G Gw Gh Gr Gb
 go_wp2_with (refine Qp _ _ rfl ?_)
 refine Stop.to ?_
 refine Qf rfl 85 _ rfl #[.int .i64 t, .int .i64 (k : Int)] rfl ?_
 intro X Xw Xh Xr Xb
 have b1 := (Below.refl w.heap.size w).trans (Gb.mono Gh)
 have b2 := b1.trans ((Xb.mono Xh).mono b1.size)
 go_wp2_with (refine QY _ rfl ?_)
 refine Stop.to ?_
 refine Ql rfl 259 rfl _ _ Abo rfl ?_
 intro R Rw Rh Rr Rb
 go_wp2_with (refine QD _ _ _ rfl ?_)
 refine Stop.to ?_
 refine Qk rfl 259 _ _ rfl R #[.bool b] rfl rfl 259 _ Rr (by kernel_rfl) rfl (by simp [Value.oneCell']) ?_
 intro RW RR RO
 have RB : Below Rw.heap.size Rw Rw := Below.refl _ _
 have b23 : Below Xw.heap.size Xw RW := (Rb.mono Rh).trans (RO.below Rh)
 have rG := (Gr.below Xb (Nat.lt_of_lt_of_le Gr.lt Xh)).below b23 (by have := (Gr.below Xb (Nat.lt_of_lt_of_le Gr.lt Xh)).lt; omega)
 have rX := Xr.below b23 Xr.lt
 have b3 := b2.trans (b23.mono b2.size)
 have c0 := RR.cellv (i := 0) (v := .bool b) rfl
 have c1 := rG.cellv (i := 1) (v := .slice va V.length vcap) rfl
 have c2 := rX.cellv (i := 1) (v := .int .i64 (k : Int)) rfl
 have Hvr := Lh (Hok.out.go b3).vrd
 dsimp only at Hvr
 clear RR RO Rr Rb Gr Gb Xr Xb b1 b2 Gh Xh Rh RB b23 rG rX Hok t1 t2 t3
 cases b with
 | false =>
  have hz : Hid (JP V (k : Int) false = []) := by show _ = _; unfold JP; rw [if_neg (by simp)]
  go_wp2
  go_ret
  exact ⟨none, 0, by rw [hz.out]; rfl, by rw [hz.out]; exact Rd.nil _ _, b3⟩
 | true =>
  by_cases hk : k < V.length
  · obtain ⟨v, hv⟩ : ∃ v, V[k]? = some v := ⟨_, List.getElem?_eq_getElem hk⟩
    obtain ⟨ad, had, hc⟩ := Zf Hvr.out hv
    have hz : Hid (JP V (k : Int) true = [v]) := by show _ = _; unfold JP; rw [Int.toNat_natCast, if_pos ⟨rfl, hk⟩, hv]; rfl
    have hk' : (k : Int) < (V.length : Int) := by omega
    have hcap := Hcap.out
    have hmax := Hmax.out
    unfold maxLen at hmax
    have hcne : ¬ vcap = k := by omega
    have Hc := Lh hc
    subst had
    clear hv hk hc
    go_wp2
    go_ret
    refine ⟨some (ad.add k), vcap - k, by rw [hz.out]; rfl, ?_, b3⟩
    rw [hz.out]
    intro j u hj
    refine ⟨_, rfl, ?_⟩
    have hj0 : j = 0 := by
     have := (List.getElem?_eq_some_iff.1 hj).1
     simp [Qi] at this; exact this
    subst hj0
    have hu : Value.int .i64 v = u := by simpa [Qi] using hj
    rw [JG, Nat.add_zero, ← hu]; exact Hc.out
  · have hz : Hid (JP V (k : Int) true = []) := by show _ = _; unfold JP; rw [if_neg (by simp; omega)]
    have hk' : (V.length : Int) ≤ (k : Int) := by omega
    clear hk
    go_wp2
    go_ret
    exact ⟨none, 0, by rw [hz.out]; rfl, by rw [hz.out]; exact Rd.nil _ _, b3⟩
theorem AeK (p : PgV) (x : Nd) (m : Nat) (hm : m ≤ 1000) (w : World) : Calls Tryz.prog 208 #[.agg p.cells, .agg x.cells.toArray, .nilIface, .int .i64 (m : Int)] w fun e w' => WantR (List.replicate m 2) w w' e := by
 have t1 := fun w => Aja (w := w)
 have t2 := fun w => Ai9 (w := w)
 have t3 := fun w => Ajb (w := w)
 go_enter Tryz.func208, Tryz.ntmps208
 go_wp2_with (refine Qp _ _ rfl ?_)
 refine Stop.to ?_
 refine Qf rfl 25 _ rfl p.cells rfl ?_
 intro G Gw Gh Gr Gb
 go_wp2_with (refine Qp _ _ rfl ?_)
 refine Stop.to ?_
 refine Qf rfl 85 _ rfl x.cells.toArray rfl ?_
 intro X Xw Xh Xr Xb
 have b1 := (Below.refl w.heap.size w).trans (Gb.mono Gh)
 have b2 := b1.trans ((Xb.mono Xh).mono b1.size)
 go_wp2_with fail
 refine (AdQ Xw.heap.size 1 m 2 _ (Row.new Xw 3 #[.int .i64 2]) hm).mono ?_
 rintro e w4 ⟨v, rfl, hown, b4⟩
 have b4 := b2.trans ((((Below.refl _ _).alloc (Nat.le_refl _) _).trans (b4.mono (by simp))).mono b2.size)
 obtain ⟨A, cap, rfl, hrd, _, _⟩ := AdK hown
 have Hrd := Lh hrd
 clear hown hrd
 go_wp2
 go_ret
 refine ⟨A, cap, ?_, Hrd.out, b4⟩
 rw [List.length_replicate]; rfl
end Go.Proofs.YtdcmppdhdcjpfaaGreat
