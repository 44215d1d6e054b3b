/- Lemmas for CoAll. -/
import Derived.Test.YtcgglolckkeeiaaGreatZo2
import Derived.Test.YtcgglolckkeeiaaGreatZo3
import Derived.Shelf.Bits.Mul64
import Derived.Test.YtcgglolckkeeiaaGreatRows
import Derived.WalkKit
import Derived.Laws.CopyOwn
import Derived.Deep.RegionLaw
set_option linter.unusedVariables false
set_option linter.unusedSimpArgs false
namespace Go.Proofs.YtcgglolckkeeiaaGreat
open Go.RowKit Go.Deep
def ruleC (k : Int) : Option (Int × List Int) :=
 if k = 1 then some (0, []) else if k = 2 then some (1, []) else if k = 5 then some (0, [0]) else if k = 6 then some (1, [1]) else if k = 18 then some (1, [1, 1]) else if k = 19 then some (1, [1, 1])
 else if k = 23 then some (2, [1, 2, 2]) else if k = 24 then some (2, [1, 2]) else if k = 25 then some (2, [0]) else if k = 26 then some (2, [])
 else if 7 ≤ k ∧ k ≤ 11 then some (0, [0, 0]) else if 12 ≤ k ∧ k ≤ 17 then some (1, [0, 0]) else none
def arrC (k : Int) : Option (Int × List Int) := if k = 4 then some (0, [0]) else if k = 22 then some (2, [0, 0]) else none
inductive RuleR (W : World) : Int → Value → Prop
 | plain (k is : Int) (A : Option Addr) (n cap : Nat) (want : List Int) (hc : ruleC k = some (is, want)) (hn : n = want.length) (hr : Rd W A (ints want)) : RuleR W k (.iface 237 (.agg #[.slice A n cap, .int .i64 is]))
 | scalar (k : Int) (b : Bool) (h : k = 3 ∧ b = false ∨ k = 21 ∧ b = true) : RuleR W k (.iface 239 (.agg #[.bool b]))
 | array (k is : Int) (A : Option Addr) (n cap : Nat) (want : List Int) (hc : arrC k = some (is, want)) (hn : n = want.length) (hr : Rd W A (ints want)) : RuleR W k (.iface 241 (.agg #[.slice A n cap, .int .i64 is]))
theorem RuleR.go {W W' : World} {k : Int} {v : Value} (h : RuleR W k v) (b : Below W.heap.size W W') : RuleR W' k v := by
 cases h with
 | plain is A n cap want hc hn hr => exact .plain _ _ _ _ _ _ hc hn (hr.go b)
 | scalar b' h => exact .scalar _ _ h
 | array is A n cap want hc hn hr => exact .array _ _ _ _ _ _ hc hn (hr.go b)
theorem Rd.only_map {W W' : World} {A : Option Addr} {xs : List Value} {M : Nat} {es : List (Int × Value)} (h : Rd W A xs) (hm : MapB W M es) (o : Only M W W') : Rd W' A xs := fun j u hj => by
 obtain ⟨ad, e, hc⟩ := h j u hj
 refine ⟨ad, e, ?_⟩
 have hne : (ad.add j).block ≠ M := fun e2 => by
  obtain ⟨arr, clock, he, _⟩ := hm
  simp [World.cell?, e2, he] at hc
 rw [← hc]
 simp only [World.cell?, o.block _ hne]
theorem RuleR.only {W W' : World} {k : Int} {v : Value} {M : Nat} {es : List (Int × Value)} (h : RuleR W k v) (hm : MapB W M es) (o : Only M W W') : RuleR W' k v := by
 cases h with
 | plain is A n cap want hc hn hr => exact .plain _ _ _ _ _ _ hc hn (hr.only_map hm o)
 | scalar b' h => exact .scalar _ _ h
 | array is A n cap want hc hn hr => exact .array _ _ _ _ _ _ hc hn (hr.only_map hm o)
structure RS (w W : World) (M : Nat) (D : List Int) : Prop where
 below : Below w.heap.size w W
 lo : w.heap.size ≤ M
 map : ∃ es, MapB W M es ∧ es.map (·.1) = D ∧ ∀ p ∈ es, RuleR W p.1 p.2
theorem RS.go {w W W' : World} {M : Nat} {D : List Int} (h : RS w W M D) (b : Below W.heap.size W W') : RS w W' M D := by
 obtain ⟨es, h1, h2, h3⟩ := h.map
 exact ⟨h.below.trans (b.mono h.below.size), h.lo, es, h1.below b h1.lt, h2, fun p hp => (h3 p hp).go b⟩
theorem RS.alloc {w W : World} {M : Nat} {D : List Int} (h : RS w W M D) (o : Obj) : RS w (W.alloc o) M D := h.go ((Below.refl _ _).alloc (Nat.le_refl _) o)
theorem assoc_none {k : Int} : ∀ {es : List (Int × Value)}, k ∉ es.map (·.1) → assoc k es = none
 | [], _ => rfl
 | (k', v) :: es, h => by
  rw [assoc, if_neg (fun e => h (by simp [e]))]
  exact assoc_none (fun hm => h (by simp at hm ⊢; exact .inr hm))
theorem assoc_mem {k : Int} {v : Value} : ∀ {es : List (Int × Value)}, assoc k es = some v → (k, v) ∈ es
 | [], h => by cases h
 | (k', v') :: es, h => by
  rw [assoc] at h
  split at h
  · rename_i e; injection h with h; subst e h; simp
  · exact List.mem_cons_of_mem _ (assoc_mem h)
theorem assoc_some {k : Int} : ∀ {es : List (Int × Value)}, k ∈ es.map (·.1) → ∃ v, assoc k es = some v
 | [], h => by simp at h
 | (k', v') :: es, h => by
  rw [assoc]
  by_cases e : k = k'
  · exact ⟨v', if_pos e⟩
  · rw [if_neg e]
    refine assoc_some ?_
    simp only [List.map_cons, List.mem_cons] at h
    rcases h with h | h
    · exact absurd h e
    · exact h
theorem wpList_insert_rs {ops : Array Oper} {rest : List Oper} {o : Oper} {a : Act} {w W : World} {Q : Exit → Act → World → Prop} {M : Nat} {D : List Int} (hgd : o.guard = none) (m x y : Operand) (ho : o.op = .insert 200 m x y ∨ o.op = .mapUpdate 200 m x y) (hm : a.eval m = .map (some M)) (k : Int) (v : Value) (hx : a.eval x = .int .i64 k) (hy : a.eval y = v) (hs : RS w W M D) (hn : k ∉ D) (hr : RuleR W k v)
 (h : ∀ W', RS w W' M (D ++ [k]) → wpList Tryz.prog ops Q rest (a.put o.dst undef) W') : wpList Tryz.prog ops Q (o :: rest) a W := by
 obtain ⟨es, h1, h2, h3⟩ := hs.map
 subst h2
 refine wpList_insert_map hgd m x y ho Tryz.underlying200 Tryz.underlying3 h1 hm k v hx hy (assoc_none hn) ?_
 intro W' h4 o4
 refine h W' ⟨below_only hs.below o4 hs.lo, hs.lo, _, h4, by simp, fun p hp => ?_⟩
 rcases List.mem_append.1 hp with hp | hp
 · exact (h3 p hp).only h1 o4
 · rw [List.mem_singleton.1 hp]; exact hr.only h1 o4
set_option maxRecDepth 100000 in
set_option maxHeartbeats 8000000 in
theorem rules_any (w : World) : Calls Tryz.prog 156 #[] w fun e w' => ∃ M D, e = .returned (.map (some M)) ∧ RS w w' M D ∧ ∀ k, k ∈ D ↔ (1 ≤ k ∧ k ≤ 26 ∧ k ≠ 20) := by
 have hmm : ∀ w : World, (Instr.makeMap 200 none).run Tryz.prog w = .ok (.map (some w.heap.size)) (w.alloc (.map #[] 0)) := fun _ => by kernel_rfl
 go_enter Tryz.func156, Tryz.ntmps156
 have r0 : RS w (w.alloc (.map #[] 0)) w.heap.size [] := ⟨(Below.refl _ _).alloc (Nat.le_refl _) _, Nat.le_refl _, [], MapB.new w, rfl, fun p hp => by simp at hp⟩
 obtain ⟨M, hM⟩ : ∃ M, M = w.heap.size := ⟨_, rfl⟩
 go_wp2_with (refine wpList_insert_rs rfl _ _ _ (.inl rfl) rfl _ _ rfl rfl (by first | assumption | exact RS.alloc (by assumption) _) (by decide) (by first | exact RuleR.scalar _ _ (by decide) | exact RuleR.plain _ _ _ _ _ [] rfl rfl (Rd.nil _ _) | exact RuleR.plain _ _ _ _ _ [0] rfl rfl (rd_new _ (ints [0]) _) | exact RuleR.plain _ _ _ _ _ [1] rfl rfl (rd_new _ (ints [1]) _) | exact RuleR.plain _ _ _ _ _ [1, 1] rfl rfl (rd_new _ (ints [1, 1]) _) | exact RuleR.plain _ _ _ _ _ [1, 2] rfl rfl (rd_new _ (ints [1, 2]) _) | exact RuleR.plain _ _ _ _ _ [1, 2, 2] rfl rfl (rd_new _ (ints [1, 2, 2]) _) | exact RuleR.array _ _ _ _ _ [0] rfl rfl (rd_new _ (ints [0]) _) | exact RuleR.array _ _ _ _ _ [0, 0] rfl rfl (rd_new _ (ints [0, 0]) _)) ?_; intro W' h')
 have hrs : RS w W' M ([1, 2, 3, 21, 4, 22, 5, 6, 18, 19, 23, 24, 25, 26]) := by rw [hM]; exact h'
 have HM := Lib.hid hM
 rw [← hM]
 clear h' r0 hmm hM
 go_loopw [2] (fun i wr => ∃ (k : Nat) (D : List Int), i = .int .i64 (k : Int) ∧ 7 ≤ k ∧ k ≤ 18 ∧ RS w wr M D ∧ Hid (∀ j : Int, j ∈ D ↔ (j ∈ [1, 2, 3, 21, 4, 22, 5, 6, 18, 19, 23, 24, 25, 26] ∨ (7 ≤ j ∧ j < (k : Int))))) (fun i _ => 18 - (intOf i).toNat)
 case atStart => exact ⟨7, _, rfl, by omega, by omega, hrs, Lib.hid (fun j => ⟨.inl, fun h => h.elim id (fun h => by omega)⟩)⟩
 case round =>
  clear hrs
  obtain ⟨k, D, rfl, h7, h18, hrs, hD⟩ := hrel
  by_cases hlt : k < 18
  · have hnot : (k : Int) ∉ D := fun h => by
     rcases (hD.out (k : Int)).1 h with h | h
     · simp only [List.mem_cons, List.not_mem_nil, or_false] at h; omega
     · omega
    have Hnot := Lib.hid hnot
    clear hnot
    by_cases h12 : k < 12
    · have hc : ruleC (k : Int) = some (0, [0, 0]) := by
       unfold ruleC
       repeat (first | rw [if_neg (show ¬ _ by omega)] | rw [if_pos (show _ by omega)])
      have Hc := Lib.hid hc
      clear hc
      go_wp2_with (refine wpList_insert_rs rfl _ _ _ (.inr rfl) rfl _ _ rfl rfl (RS.alloc hrs _) Hnot.out (RuleR.plain _ _ _ _ _ [0, 0] Hc.out rfl (rd_new wr (ints [0, 0]) _)) ?_; intro W2 h2)
      go_roundw
      case rel =>
       refine ⟨k + 1, _, by go_num, by omega, by omega, h2, Lib.hid (fun j => ?_)⟩
       rw [List.mem_append, hD.out j, List.mem_singleton]
       constructor
       · rintro ((h | h) | h)
         · exact .inl h
         · exact .inr (by omega)
         · exact .inr (by omega)
       · rintro (h | h)
         · exact .inl (.inl h)
         · by_cases e : j = (k : Int)
           · exact .inr e
           · exact .inl (.inr (by omega))
      case measure => simp [intOf]; omega
    · have h12' : 12 ≤ k := by omega
      have hc : ruleC (k : Int) = some (1, [0, 0]) := by
       unfold ruleC
       repeat (first | rw [if_neg (show ¬ _ by omega)] | rw [if_pos (show _ by omega)])
      have Hc := Lib.hid hc
      clear hc
      go_wp2_with (refine wpList_insert_rs rfl _ _ _ (.inr rfl) rfl _ _ rfl rfl (RS.alloc hrs _) Hnot.out (RuleR.plain _ _ _ _ _ [0, 0] Hc.out rfl (rd_new wr (ints [0, 0]) _)) ?_; intro W2 h2)
      go_roundw
      case rel =>
       refine ⟨k + 1, _, by go_num, by omega, by omega, h2, Lib.hid (fun j => ?_)⟩
       rw [List.mem_append, hD.out j, List.mem_singleton]
       constructor
       · rintro ((h | h) | h)
         · exact .inl h
         · exact .inr (by omega)
         · exact .inr (by omega)
       · rintro (h | h)
         · exact .inl (.inl h)
         · by_cases e : j = (k : Int)
           · exact .inr e
           · exact .inl (.inr (by omega))
      case measure => simp [intOf]; omega
  · obtain rfl : k = 18 := by omega
    go_wp2
    go_ret
    refine ⟨M, D, rfl, hrs, fun j => ?_⟩
    rw [hD.out j]
    simp only [List.mem_cons, List.not_mem_nil, or_false]
    omega
end Go.Proofs.YtcgglolckkeeiaaGreat
namespace Go.Proofs.YtcgglolckkeeiaaGreat
open Go.RowKit Go.Deep
set_option maxHeartbeats 1000000 in
theorem plainKind_any (A : Option Addr) (n cap : Nat) (is : Int) (p : PgV) (x : Nd) (w : World) : Calls Tryz.prog 282 #[.agg #[.slice A n cap, .int .i64 is], .agg p.cells, .agg x.cells.toArray] w fun e w' => e = .returned (.int .i64 is) ∧ Below w.heap.size w w' := by
 go_enter Tryz.func282, Tryz.ntmps282
 go_wp2_with (refine at_box _ _ rfl ?_)
 refine Stop.to ?_
 refine wpList_box_gen rfl 237 _ rfl #[.slice A n cap, .int .i64 is] rfl ?_
 intro R Rw Rh Rr Rb
 go_wp2_with (refine at_box _ _ rfl ?_)
 refine Stop.to ?_
 refine wpList_box_gen rfl 25 _ rfl p.cells rfl ?_
 intro G Gw Gh Gr Gb
 go_wp2_with (refine at_box _ _ rfl ?_)
 refine Stop.to ?_
 refine wpList_box_gen rfl 74 _ rfl x.cells.toArray rfl ?_
 intro X Xw Xh Xr Xb
 have rR := (Rr.below Gb (Nat.lt_of_lt_of_le Rr.lt Gh)).below Xb (Nat.lt_of_lt_of_le (Rr.below Gb (Nat.lt_of_lt_of_le Rr.lt Gh)).lt Xh)
 have b1 := (Below.refl w.heap.size w).trans (Rb.mono Rh)
 have b2 := b1.trans ((Gb.mono Gh).mono b1.size)
 have b3 := b2.trans ((Xb.mono Xh).mono b2.size)
 have c1 := rR.cellv (i := 1) (v := .int .i64 is) rfl
 clear rR Rr Gr Xr Rb Gb Xb b1 b2 Rh Gh Xh
 go_wp2
 go_ret
 exact ⟨rfl, b3⟩
def scalarZ (V : List Int) (n : Int) (b : Bool) : Int := if plainV V n then (if b then 2 else (V[n.toNat]?).getD 0) else -1
set_option maxHeartbeats 2000000 in
theorem scalarKind_any (b : Bool) (p : PgV) (t n : Int) (w : World) (hok : p.ok w) (hn : 0 ≤ n) : Calls Tryz.prog 283 #[.agg #[.bool b], .agg p.cells, .agg (Nd.cells ⟨t, n⟩).toArray] w fun e w' => e = .returned (.int .i64 (scalarZ p.V n b)) ∧ Below w.heap.size w w' := by
 have Hok := Lib.hid hok
 clear hok
 obtain ⟨k, rfl⟩ : ∃ k : Nat, n = (k : Int) := ⟨n.toNat, by omega⟩
 obtain ⟨params, va, vcap, V, ba, bcap, body⟩ := p
 dsimp only
 rw [show (PgV.mk params va vcap V ba bcap body).cells = #[.int .i64 params, .slice va V.length vcap, .slice ba body.length bcap] from rfl, show (Nd.cells ⟨t, (k : Int)⟩).toArray = #[.int .i64 t, .int .i64 (k : Int)] from rfl]
 go_enter Tryz.func283, Tryz.ntmps283
 go_wp2_with (refine at_box _ _ rfl ?_)
 refine Stop.to ?_
 refine wpList_box_gen rfl 239 _ rfl #[.bool b] rfl ?_
 intro R Rw Rh Rr Rb
 go_wp2_with (refine at_box _ _ rfl ?_)
 refine Stop.to ?_
 refine wpList_box_gen rfl 25 _ rfl #[.int .i64 params, .slice va V.length vcap, .slice ba body.length bcap] rfl ?_
 intro G Gw Gh Gr Gb
 go_wp2_with (refine at_box _ _ rfl ?_)
 refine Stop.to ?_
 refine wpList_box_gen rfl 74 _ rfl #[.int .i64 t, .int .i64 (k : Int)] rfl ?_
 intro X Xw Xh Xr Xb
 have rG := Gr.below Xb (Nat.lt_of_lt_of_le Gr.lt Xh)
 have rR := (Rr.below Gb (Nat.lt_of_lt_of_le Rr.lt Gh)).below Xb (Nat.lt_of_lt_of_le (Rr.below Gb (Nat.lt_of_lt_of_le Rr.lt Gh)).lt Xh)
 have b1 := (Below.refl w.heap.size w).trans (Rb.mono Rh)
 have b2 := b1.trans ((Gb.mono Gh).mono b1.size)
 have b3 := b2.trans ((Xb.mono Xh).mono b2.size)
 have c0 := rR.cellv (i := 0) (v := .bool b) rfl
 have c1 := rG.cellv (i := 1) (v := .slice va V.length vcap) rfl
 have c2 := Xr.cellv (i := 1) (v := .int .i64 (k : Int)) rfl
 have Hvr := Lib.hid (Hok.out.go b3).vrd
 dsimp only at Hvr
 clear rR rG Rr Gr Xr Rb Gb Xb b1 b2 Rh Gh Xh Hok
 by_cases hk : k < V.length
 rotate_left
 · have hz : Hid (scalarZ V (k : Int) b = -1) := by show _ = _; unfold scalarZ plainV; rw [Int.toNat_natCast, List.getElem?_eq_none (by omega)]; rfl
   have hk' : (V.length : Int) ≤ (k : Int) := by omega
   clear hk
   go_wp2
   go_ret
   exact ⟨ret_i hz.out, b3⟩
 obtain ⟨v, hv⟩ : ∃ v, V[k]? = some v := ⟨_, List.getElem?_eq_getElem hk⟩
 obtain ⟨ad, had, hc⟩ := int_at Hvr.out hv
 have hk' : (k : Int) < (V.length : Int) := by omega
 subst had
 by_cases h01 : v = 0 ∨ v = 1
 · have hz : Hid (scalarZ V (k : Int) b = if b then 2 else v) := by
    show _ = _
    unfold scalarZ plainV
    rw [Int.toNat_natCast, hv]
    simp only
    rw [if_pos (by simpa using h01)]; rfl
   clear hv hk
   rcases h01 with rfl | rfl
   all_goals
    cases b
    all_goals
     go_wp2
     go_ret
     exact ⟨ret_i hz.out, b3⟩
 · have hz : Hid (scalarZ V (k : Int) b = -1) := by
    show _ = _
    unfold scalarZ plainV
    rw [Int.toNat_natCast, hv]
    simp only
    rw [if_neg (by simpa using h01)]
   have e0 : (v != 0) = true := by simp; omega
   have e1 : (v != 1) = true := by simp; omega
   clear hv hk h01
   go_wp2
   go_ret
   exact ⟨ret_i hz.out, b3⟩
def arrayZ (V : List Int) (n is : Int) : Int := if arrayV V n then is else -1
set_option maxHeartbeats 2000000 in
theorem arrayKind_any (A : Option Addr) (m cap : Nat) (is : Int) (p : PgV) (t n : Int) (w : World) (hok : p.ok w) (hn : 0 ≤ n) : Calls Tryz.prog 284 #[.agg #[.slice A m cap, .int .i64 is], .agg p.cells, .agg (Nd.cells ⟨t, n⟩).toArray] w fun e w' => e = .returned (.int .i64 (arrayZ p.V n is)) ∧ Below w.heap.size w w' := by
 have Hok := Lib.hid hok
 clear hok
 obtain ⟨k, rfl⟩ : ∃ k : Nat, n = (k : Int) := ⟨n.toNat, by omega⟩
 obtain ⟨params, va, vcap, V, ba, bcap, body⟩ := p
 dsimp only
 rw [show (PgV.mk params va vcap V ba bcap body).cells = #[.int .i64 params, .slice va V.length vcap, .slice ba body.length bcap] from rfl, show (Nd.cells ⟨t, (k : Int)⟩).toArray = #[.int .i64 t, .int .i64 (k : Int)] from rfl]
 go_enter Tryz.func284, Tryz.ntmps284
 go_wp2_with (refine at_box _ _ rfl ?_)
 refine Stop.to ?_
 refine wpList_box_gen rfl 241 _ rfl #[.slice A m cap, .int .i64 is] rfl ?_
 intro R Rw Rh Rr Rb
 go_wp2_with (refine at_box _ _ rfl ?_)
 refine Stop.to ?_
 refine wpList_box_gen rfl 25 _ rfl #[.int .i64 params, .slice va V.length vcap, .slice ba body.length bcap] rfl ?_
 intro G Gw Gh Gr Gb
 go_wp2_with (refine at_box _ _ rfl ?_)
 refine Stop.to ?_
 refine wpList_box_gen rfl 74 _ rfl #[.int .i64 t, .int .i64 (k : Int)] rfl ?_
 intro X Xw Xh Xr Xb
 have rG := Gr.below Xb (Nat.lt_of_lt_of_le Gr.lt Xh)
 have rR := (Rr.below Gb (Nat.lt_of_lt_of_le Rr.lt Gh)).below Xb (Nat.lt_of_lt_of_le (Rr.below Gb (Nat.lt_of_lt_of_le Rr.lt Gh)).lt Xh)
 have b1 := (Below.refl w.heap.size w).trans (Rb.mono Rh)
 have b2 := b1.trans ((Gb.mono Gh).mono b1.size)
 have b3 := b2.trans ((Xb.mono Xh).mono b2.size)
 have c0 := rR.cellv (i := 1) (v := .int .i64 is) rfl
 have c1 := rG.cellv (i := 1) (v := .slice va V.length vcap) rfl
 have c2 := Xr.cellv (i := 1) (v := .int .i64 (k : Int)) rfl
 have Hvr := Lib.hid (Hok.out.go b3).vrd
 have Hin := Lib.hid Hok.out.vin
 dsimp only at Hvr Hin
 clear rR rG Rr Gr Xr Rb Gb Xb b1 b2 Rh Gh Xh Hok
 by_cases hk : k < V.length
 rotate_left
 · have hz : Hid (arrayZ V (k : Int) is = -1) := by show _ = _; unfold arrayZ arrayV; rw [Int.toNat_natCast, List.getElem?_eq_none (by omega)]; rfl
   have hk' : (V.length : Int) ≤ (k : Int) := by omega
   clear hk
   go_wp2
   go_ret
   exact ⟨ret_i hz.out, b3⟩
 obtain ⟨v, hv⟩ : ∃ v, V[k]? = some v := ⟨_, List.getElem?_eq_getElem hk⟩
 obtain ⟨ad, had, hc⟩ := int_at Hvr.out hv
 have Hi := Lib.hid (Hin.out v (List.mem_of_getElem? hv))
 have hk' : (k : Int) < (V.length : Int) := by omega
 subst had
 by_cases h01 : sizeZ v = 0
 · have hz : Hid (arrayZ V (k : Int) is = -1) := by
    show _ = _
    unfold arrayZ arrayV
    rw [Int.toNat_natCast, hv]
    simp only
    rw [if_neg (by simpa using h01)]
   have e0 : (sizeZ v == 0) = true := by simpa using h01
   clear hv hk h01
   go_wp2_with (go_at_call 155; refine (size_any v _ Hi.out).mono ?_; rintro e w' ⟨rfl, rfl⟩)
   go_ret
   exact ⟨ret_i hz.out, b3⟩
 · have hz : Hid (arrayZ V (k : Int) is = is) := by
    show _ = _
    unfold arrayZ arrayV
    rw [Int.toNat_natCast, hv]
    simp only
    rw [if_pos (by simpa using h01)]
   have e0 : (sizeZ v == 0) = false := by simpa using h01
   clear hv hk h01
   go_wp2_with (go_at_call 155; refine (size_any v _ Hi.out).mono ?_; rintro e w' ⟨rfl, rfl⟩)
   go_ret
   exact ⟨ret_i hz.out, b3⟩
end Go.Proofs.YtcgglolckkeeiaaGreat
namespace Go.Proofs.YtcgglolckkeeiaaGreat
open Go.Shelf
def lays212_ren : Go.Shelf.Ren := ⟨fun | 212 => 214 | 263 => 231 | 264 => 232 | n => n, fun | 46 => 247 | 51 => 150 | 146 => 285 | 53 => 55 | 148 => 287 | n => n, fun | n => n⟩
theorem lays212 : Go.Proofs.Lays.n212 Tryz.prog lays212_ren := {
 mixed := by kernel_rfl
 f212 := Tryz.func214.trans (congrArg some (by kernel_rfl))
 f263 := Tryz.func231.trans (congrArg some (by kernel_rfl))
 f264 := Tryz.func232.trans (congrArg some (by kernel_rfl))
 t46 := Tryz.underlying247
 a46 := Tryz.isAgg247
 z46 := Tryz.sizeOf247
 v46 := Tryz.zeroValue247
 t51 := Tryz.underlying150
 a51 := Tryz.isAgg150
 z51 := Tryz.sizeOf150
 v51 := Tryz.zeroValue150
 t53 := Tryz.underlying55
 a53 := Tryz.isAgg55
 z53 := Tryz.sizeOf55
 v53 := Tryz.zeroValue55
 t146 := Tryz.underlying285
 a146 := Tryz.isAgg285
 z146 := Tryz.sizeOf285
 v146 := Tryz.zeroValue285
 t148 := Tryz.underlying287
 a148 := Tryz.isAgg287
 z148 := Tryz.sizeOf287
 v148 := Tryz.zeroValue287 }
open Go.RowKit Go.Lib in
theorem bits_Mul (x y : Nat) (hx : x < 18446744073709551616) (hy : y < 18446744073709551616) (w : World) :
 Calls Tryz.prog 214 #[.int .u64 x, .int .u64 y] w fun e w' => e = .returned (.tuple #[.int .u64 ((x * y / 18446744073709551616 : Nat) : Int), .int .u64 ((x * y % 18446744073709551616 : Nat) : Int)]) ∧ w' = w := Any.bits_Mul lays212 x y hx hy w
end Go.Proofs.YtcgglolckkeeiaaGreat
namespace Go.Proofs.YtcgglolckkeeiaaGreat
open Go.RowKit Go.Deep
theorem madeCells_one (z : Value) (n : Nat) : madeCells #[z] n = (List.replicate n z).toArray := by
 unfold madeCells
 apply Array.ext
 · simp
 · intro i h1 h2; simp [Nat.mod_one]
theorem nmin (a b : Nat) : Nat.min a b ≤ a ∧ Nat.min a b ≤ b ∧ (Nat.min a b = a ∨ Nat.min a b = b) := by
 show min a b ≤ a ∧ min a b ≤ b ∧ (min a b = a ∨ min a b = b)
 omega
theorem run_exec_copy {P : Program} {o : Oper} {w w1 : World} {ρ : Operand → Value} {s x : Operand} {t t' : TypeId} (ho : o.op = .call { callee := .builtin .copy, args := #[s, x], argTypes := #[t, t'] }) {v : Value} (hv : (Builtin.copy_ #[t, t'] o.type #[ρ s, ρ x]).run P w = .ok v w1) : (execOp ρ o).run P w = .ok (.value v) w1 := by
 unfold execOp
 simp only [ho, resolve, invoke, builtin, Sem.run_bind, Sem.run_pure, Result.andThen_ok, List.map_toArray, List.map_cons, List.map_nil, hv]
theorem splice_rep (k n m : Nat) (x : Int) (hk : k + m ≤ n) : splice (ints (List.replicate k x ++ List.replicate (n - k) 0)) k (ints (List.replicate m x)) = ints (List.replicate (k + m) x ++ List.replicate (n - (k + m)) 0) := by
 unfold splice ints
 simp only [List.map_append, List.map_replicate, List.length_replicate]
 rw [List.take_append_of_le_length (by simp), List.take_of_length_le (by simp), List.drop_append, List.drop_eq_nil_of_le (by simp), List.length_replicate, List.drop_replicate, List.nil_append, ← List.append_assoc, List.replicate_append_replicate, show n - k - (k + m - k) = n - (k + m) by omega]
set_option maxRecDepth 100000 in
set_option maxHeartbeats 4000000 in
theorem repeat_any (g cap n : Nat) (x : Int) (w : World) (hr : Row w g 3 #[.int .i64 x]) (hn : n ≤ 1000) : Calls Tryz.prog 204 #[.slice (some ⟨g, 0, none⟩) 1 cap, .int .i64 (n : Int)] w fun e w' => IntsR (List.replicate n x) w w' e := by
 have hmul : ∀ W, Calls Tryz.prog 214 #[.int .u64 1, .int .u64 (n : Int)] W fun e w' => e = .returned (.tuple #[.int .u64 0, .int .u64 (n : Int)]) ∧ w' = W := fun W => by
  have := bits_Mul 1 n (by omega) (by omega) W
  rw [Nat.one_mul, Nat.div_eq_of_lt (by omega), Nat.mod_eq_of_lt (by omega)] at this
  exact this
 have Hmul := Lib.hid hmul
 clear hmul
 have hmk : ∀ W : World, (Instr.makeSlice 22 (.int .i64 (n : Int)) (.int .i64 (n : Int))).run Tryz.prog W = .ok (.slice (some ⟨W.heap.size, 0, none⟩) n n) (W.alloc (.cells (ints (List.replicate n 0)).toArray 3)) := fun W => by
  have := run_make_row' (P := Tryz.prog) (w := W) 22 3 (.int .i64 0) 8 Tryz.underlying22 info_int rfl .i64 .i64 n (by omega) (by omega)
  rw [show madeCells #[Value.int .i64 0] n = (ints (List.replicate n 0)).toArray from by rw [madeCells_one]; simp [ints]] at this
  exact this
 go_enter Tryz.func204, Tryz.ntmps204
 have hdec : decide ((n : Int) < 0) = false := by simp
 have hdec2 : decide (9223372036854775807 < (n : Int)) = false := by simp; omega
 go_wp2_with fail
 refine (Hmul.out w).mono ?_
 rintro e w1 ⟨rfl, hw⟩
 subst hw
 clear Hmul
 have hsp := splice_rep 0 n (Nat.min 1 n) x (by rw [Nat.zero_add]; exact Nat.min_le_right _ _)
 rw [Nat.zero_add, List.replicate_zero, List.nil_append, Nat.sub_zero] at hsp
 have Hsp := Lib.hid hsp
 clear hsp
 have rn := Row.new w1 3 (ints (List.replicate n 0)).toArray
 have hr1 := hr.alloc (.cells (ints (List.replicate n 0)).toArray 3)
 have hc1 : ∀ (j : Nat) (v : Value), (ints (List.replicate (Nat.min 1 n) x))[j]? = some v → (w1.alloc (.cells (ints (List.replicate n 0)).toArray 3)).cell? ((⟨g, 0, none⟩ : Addr).add j) = some v :=
  hr1.from_ 0 (cs := ints (List.replicate (Nat.min 1 n) x)) (fun j v hj => by
   have hlt := (List.getElem?_eq_some_iff.1 hj).1
   have h1 : (ints (List.replicate (Nat.min 1 n) x)).length ≤ 1 := by simp [ints]; exact Nat.min_le_left _ _
   obtain rfl : j = 0 := by omega
   rw [← hj]
   simp only [ints, List.map_replicate, List.getElem?_replicate]
   rw [if_pos (by simpa [ints] using hlt)]; rfl)
 have Hc1 := Lib.hid hc1
 have Rn := Lib.hid rn
 have hlen1 : (ints (List.replicate (Nat.min 1 n) x)).length = Nat.min 1 n := by simp [ints]
 have Hl1 := Lib.hid hlen1
 clear rn hr1 hr hc1 hlen1
 go_wp2_with (refine wpList_copy_splice rfl (.tmp 31) (.tmp 32) 22 22 rfl 3 Tryz.underlying22 rfl (some ⟨w1.heap.size, 0, none⟩) (some ⟨g, 0, none⟩) n n 1 cap rfl rfl w1.heap.size 0 (ints (List.replicate n 0)) 3 Rn.out (ints (List.replicate (Nat.min 1 n) x)) Hl1.out (fun _ => ⟨rfl, _, rfl, Hc1.out⟩) (by rw [Hl1.out]; simp [ints]; exact Nat.min_le_right _ _) (ints_one _) w1.heap.size w1 ((Below.refl _ _).alloc (Nat.le_refl _) _) (Nat.le_refl _) ?_; intro w2 h2 b2)
 have r2 : Row w2 w1.heap.size 3 (ints (List.replicate (Nat.min 1 n) x ++ List.replicate (n - Nat.min 1 n) 0)).toArray := by rw [← Hsp.out]; exact h2.out
 obtain ⟨G, hG⟩ : ∃ G, G = w1.heap.size := ⟨_, rfl⟩
 rw [← hG] at r2 ⊢
 obtain ⟨k0, hk0⟩ : ∃ k0, k0 = Nat.min 1 n := ⟨_, rfl⟩
 rw [Hl1.out, ← hk0]
 rw [← hk0] at r2
 have hk0n : k0 ≤ n ∧ (k0 = 0 → n = 0) := by have := nmin 1 n; rw [← hk0] at this; omega
 have HG := Lib.hid hG
 clear hG hk0 Hsp Hc1 Rn Hl1 h2 hmk
 go_wp2
 go_loopw [8] (fun i wr => ∃ k : Nat, i = .int .i64 (k : Int) ∧ k ≤ n ∧ (k = 0 → n = 0) ∧ Row wr G 3 (ints (List.replicate k x ++ List.replicate (n - k) 0)).toArray ∧ Below w1.heap.size w1 wr) (fun i _ => n - (intOf i).toNat)
 case atStart => exact ⟨k0, rfl, hk0n.1, hk0n.2, r2, b2⟩
 case round =>
  clear r2 b2 w2
  obtain ⟨k, rfl, hkn, hk0', hr, hb⟩ := hrel
  by_cases hlt : k < n
  · have hltI : (k : Int) < (n : Int) := by omega
    have hkpos : 0 < k := by rcases Nat.eq_zero_or_pos k with h | h
                             · have := hk0' h; omega
                             · exact h
    obtain ⟨m, hm⟩ : ∃ m, m = Nat.min k (n - k) := ⟨_, rfl⟩
    have hmm := nmin k (n - k)
    rw [← hm] at hmm
    obtain ⟨hmk', hmn, hmo⟩ := hmm
    have hmp : 0 < m := by omega
    clear hmo
    have Hm := Lib.hid hm
    clear hm hk0' hlt hk0n
    have hkc : (n : Int) - (k : Int) = ((n - k : Nat) : Int) := by omega
    have hcs : ∀ (j : Nat) (v : Value), (ints (List.replicate m x))[j]? = some v → wr.drew.cell? ((⟨G, 0, none⟩ : Addr).add j) = some v :=
     hr.drew.from_ 0 (cs := ints (List.replicate m x)) (fun j v hj => by
      have hlt : j < m := by have := (List.getElem?_eq_some_iff.1 hj).1; simpa [ints] using this
      rw [← hj]
      simp only [ints, List.map_replicate, List.getElem?_replicate, List.map_append, Nat.zero_add, List.getElem?_toArray]
      rw [if_pos hlt, List.getElem?_append_left (by simp; omega), List.getElem?_replicate, if_pos (by omega)])
    have Hcs := Lib.hid hcs
    have Hr := Lib.hid hr.drew
    have Hb := Lib.hid (below_drewN hb 1)
    have hsp := splice_rep k n m x (by omega)
    have Hsp := Lib.hid hsp
    have Hml : Hid ((ints (List.replicate m x)).length = Nat.min k (n - k)) := by show _ = _; rw [← Hm.out]; simp [ints]
    have hfit : k + (ints (List.replicate m x)).length ≤ (ints (List.replicate k x ++ List.replicate (n - k) 0)).length := by simp [ints]; omega
    have Hfit := Lib.hid hfit
    clear hcs hr hb hsp hfit
    go_wp2_with fail
    refine wp_region_held (S := fun _ => True) (by kernel_rfl) ?_
    simp only [List.size_toArray, List.length_cons, List.length_nil, Nat.reduceAdd, Array.replicate_succ, Array.replicate_zero, List.push_toArray, List.nil_append, List.cons_append]
    show wpAnyH _ _ _ _ _ _ _ _ wr.drew
    have hS : (fun _ : World => True) wr.drew := trivial
    have Hb : Hid (Below w1.heap.size w1 wr.drew) := Hb.out
    generalize wr.drew = wd at Hcs Hr hS Hb ⊢
    (refine takeH (i := 0) (v := .int .i64 (k : Int)) rfl (by kernel_rfl) (by kernel_rfl) (by kernel_rfl) (fun _ _ _ h => h) (yields_val rfl (fun W hW => by (go_simp))) (by assumption) ?_; simp only [Act.put, List.setIfInBounds_toArray, List.set_cons_zero, List.set_cons_succ])
    (refine takeH (i := 1) (v := .slice (some ⟨G, 0, none⟩) n n) rfl (by kernel_rfl) (by kernel_rfl) (by kernel_rfl) (fun _ _ _ h => h) (yields_val rfl (fun W hW => by (go_simp))) (by assumption) ?_; simp only [Act.put, List.setIfInBounds_toArray, List.set_cons_zero, List.set_cons_succ])
    (refine takeH (i := 2) (v := .int .i64 (k : Int)) rfl (by kernel_rfl) (by kernel_rfl) (by kernel_rfl) (fun _ _ _ h => h) (yields_val rfl (fun W hW => by (go_simp))) (by assumption) ?_; simp only [Act.put, List.setIfInBounds_toArray, List.set_cons_zero, List.set_cons_succ])
    (refine takeH (i := 4) (v := .slice (some ⟨G, 0, none⟩) n n) rfl (by kernel_rfl) (by kernel_rfl) (by kernel_rfl) (fun _ _ _ h => h) (yields_val rfl (fun W hW => by (go_simp))) (by assumption) ?_; simp only [Act.put, List.setIfInBounds_toArray, List.set_cons_zero, List.set_cons_succ])
    (refine takeH (i := 5) (v := .int .i64 (k : Int)) rfl (by kernel_rfl) (by kernel_rfl) (by kernel_rfl) (fun _ _ _ h => h) (yields_val rfl (fun W hW => by (go_simp))) (by assumption) ?_; simp only [Act.put, List.setIfInBounds_toArray, List.set_cons_zero, List.set_cons_succ])
    (refine takeH (i := 3) (v := .slice (some ⟨G, k, none⟩) (n - k) (n - k)) rfl (by kernel_rfl) (by kernel_rfl) (by kernel_rfl) (fun _ _ _ h => h) (yields_val rfl (fun W hW => by (go_simp; omega))) (by assumption) ?_; simp only [Act.put, List.setIfInBounds_toArray, List.set_cons_zero, List.set_cons_succ])
    (refine takeH (i := 6) (v := .slice (some ⟨G, 0, none⟩) k n) rfl (by kernel_rfl) (by kernel_rfl) (by kernel_rfl) (fun _ _ _ h => h) (yields_val rfl (fun W hW => by (go_simp))) (by assumption) ?_; simp only [Act.put, List.setIfInBounds_toArray, List.set_cons_zero, List.set_cons_succ])
    (refine wpAnyH_all (rs := [7]) (by kernel_rfl) (by simp) (fun i hi => ?_); obtain rfl : i = 7 := by simpa using hi)
    refine wpOp_plain rfl rfl (fun K2 hK2 => ?_)
    refine wp_res_gen (goInt (ints (List.replicate m x)).length) (w1 := _) (by exact run_exec_copy rfl (run_copy_row (P := Tryz.prog) wd 22 22 _ 3 G k (n - k) (n - k) ⟨G, 0, none⟩ k n _ 3 (ints (List.replicate m x)) Tryz.underlying22 rfl Hr.out Hml.out Hcs.out (by simpa using Hfit.out) (ints_one _))) ?_
    rw [show goInt (ints (List.replicate m x)).length = .int .i64 (m : Int) by simp [goInt, ints]]
    have r3 : Row (wd.setRow G ((ints (List.replicate k x ++ List.replicate (n - k) 0)).toArray.toList.take k ++ ints (List.replicate m x) ++ (ints (List.replicate k x ++ List.replicate (n - k) 0)).toArray.toList.drop (k + (ints (List.replicate m x)).length)).toArray) G 3 (ints (List.replicate (k + m) x ++ List.replicate (n - (k + m)) 0)).toArray := by
     rw [← Hsp.out, splice, ← List.append_assoc]; exact Hr.out.setRow _
    have b3 := below_setRow_ (g := G) Hb.out (Nat.le_of_eq HG.out.symm) ((ints (List.replicate k x ++ List.replicate (n - k) 0)).toArray.toList.take k ++ ints (List.replicate m x) ++ (ints (List.replicate k x ++ List.replicate (n - k) 0)).toArray.toList.drop (k + (ints (List.replicate m x)).length)).toArray
    refine hK2 _ _ ?_
    clear hK2 K2
    generalize wd.setRow G _ = we at r3 b3 ⊢
    simp only [Act.put, List.setIfInBounds_toArray, List.set_cons_zero, List.set_cons_succ]
    refine ⟨trivial, ?_⟩
    have hkm : IntKind.i64.wrap ((k : Int) + (m : Int)) = ((k + m : Nat) : Int) := by rw [IntWalk.i64_in _ (by omega)]; omega
    (refine takeH (i := 8) (v := .int .i64 ((k + m : Nat) : Int)) rfl (by kernel_rfl) (by kernel_rfl) (by kernel_rfl) (fun _ _ _ h => h) (yields_val rfl (fun W hW => by (go_simp; try exact hkm))) (by assumption) ?_; simp only [Act.put, List.setIfInBounds_toArray, List.set_cons_zero, List.set_cons_succ])
    (refine takeH (i := 9) (v := .int .i64 ((k + m : Nat) : Int)) rfl (by kernel_rfl) (by kernel_rfl) (by kernel_rfl) (fun _ _ _ h => h) (yields_val rfl (fun W hW => by (go_simp))) (by assumption) ?_; simp only [Act.put, List.setIfInBounds_toArray, List.set_cons_zero, List.set_cons_succ])
    refine wpAnyH_done (by kernel_rfl) ?_ _
    have R3 := Lib.hid r3
    have B3 := Lib.hid b3
    clear r3 b3 hkm Hr Hcs Hb Hsp Hml Hfit
    go_wp2
    go_roundw
    case rel => exact ⟨k + m, rfl, by omega, by omega, R3.out, B3.out⟩
    case measure => simp [intOf]; omega
  · obtain rfl : n = k := by omega
    have Hr := Lib.hid hr
    clear hlt hr
    go_wp2
    go_ret
    refine ⟨_, rfl, ?_, hb⟩
    have h1 := Hr.out
    rw [Nat.sub_self, List.replicate_zero, List.append_nil] at h1
    rw [List.length_replicate]
    exact ⟨by simp [ints], .inr ⟨G, n, _, rfl, by have := HG.out; omega, h1, Nat.le_refl _, by unfold maxLen; omega, by simp [ints], by simp [ints]⟩⟩
end Go.Proofs.YtcgglolckkeeiaaGreat
namespace Go.Proofs.YtcgglolckkeeiaaGreat
open Go.RowKit Go.Deep
section
variable {A : Option Addr} {n cap : Nat} {is : Int} {b : Bool} {w : World}
theorem ta_pp : (Instr.typeAssert (.iface 237 (.agg #[.slice A n cap, .int .i64 is])) 243 237 true).run Tryz.prog w = .ok (.tuple #[.agg #[.slice A n cap, .int .i64 is], .bool true]) w := by kernel_rfl
theorem ta_ap : (Instr.typeAssert (.iface 241 (.agg #[.slice A n cap, .int .i64 is])) 243 237 true).run Tryz.prog w = .ok (.tuple #[.agg #[.slice none 0 0, .int .i64 0], .bool false]) w := by kernel_rfl
theorem ta_aa : (Instr.typeAssert (.iface 241 (.agg #[.slice A n cap, .int .i64 is])) 243 241 true).run Tryz.prog w = .ok (.tuple #[.agg #[.slice A n cap, .int .i64 is], .bool true]) w := by kernel_rfl
theorem ta_sp : (Instr.typeAssert (.iface 239 (.agg #[.bool b])) 243 237 true).run Tryz.prog w = .ok (.tuple #[.agg #[.slice none 0 0, .int .i64 0], .bool false]) w := by kernel_rfl
theorem ta_sa : (Instr.typeAssert (.iface 239 (.agg #[.bool b])) 243 241 true).run Tryz.prog w = .ok (.tuple #[.agg #[.slice none 0 0, .int .i64 0], .bool false]) w := by kernel_rfl
theorem ta_ss : (Instr.typeAssert (.iface 239 (.agg #[.bool b])) 243 239 true).run Tryz.prog w = .ok (.tuple #[.agg #[.bool b], .bool true]) w := by kernel_rfl
theorem ta_np : (Instr.typeAssert .nilIface 243 237 true).run Tryz.prog w = .ok (.tuple #[.agg #[.slice none 0 0, .int .i64 0], .bool false]) w := by kernel_rfl
theorem ta_na : (Instr.typeAssert .nilIface 243 241 true).run Tryz.prog w = .ok (.tuple #[.agg #[.slice none 0 0, .int .i64 0], .bool false]) w := by kernel_rfl
theorem ta_ns : (Instr.typeAssert .nilIface 243 239 true).run Tryz.prog w = .ok (.tuple #[.agg #[.bool false], .bool false]) w := by kernel_rfl
theorem zero_plain : (zeroValue 237).run Tryz.prog w = .ok (.agg #[.slice none 0 0, .int .i64 0]) w := by kernel_rfl
theorem zero_arrayK : (zeroValue 241).run Tryz.prog w = .ok (.agg #[.slice none 0 0, .int .i64 0]) w := by kernel_rfl
theorem zero_scalarK : (zeroValue 239).run Tryz.prog w = .ok (.agg #[.bool false]) w := by kernel_rfl
end
set_option maxHeartbeats 2000000 in
theorem asked_plain (A : Option Addr) (n cap : Nat) (is : Int) (p : PgV) (x : Nd) (m : Int) (w : World) : Calls Tryz.prog 189 #[.agg p.cells, .agg x.cells.toArray, .iface 237 (.agg #[.slice A n cap, .int .i64 is]), .int .i64 m] w fun e w' => e = .returned (.slice A n cap) ∧ Below w.heap.size w w' := by
 have t1 := fun w => ta_pp (A := A) (n := n) (cap := cap) (is := is) (w := w)
 go_enter Tryz.func189, Tryz.ntmps189
 go_wp2_with (refine at_box _ _ rfl ?_)
 refine Stop.to ?_
 refine wpList_box_gen rfl 25 _ rfl p.cells rfl ?_
 intro G Gw Gh Gr Gb
 go_wp2_with (refine at_box _ _ rfl ?_)
 refine Stop.to ?_
 refine wpList_box_gen rfl 74 _ rfl x.cells.toArray rfl ?_
 intro X Xw Xh Xr Xb
 have b1 := (Below.refl w.heap.size w).trans (Gb.mono Gh)
 have b2 := b1.trans ((Xb.mono Xh).mono b1.size)
 go_wp2_with (refine at_alloc _ rfl ?_)
 refine Stop.to ?_
 refine wpList_alloc_gen rfl 237 rfl _ _ zero_plain rfl ?_
 intro R Rw Rh Rr Rb
 go_wp2_with (refine at_store _ _ _ rfl ?_)
 refine Stop.to ?_
 refine wpList_store_gen rfl 237 _ _ rfl R #[.slice A n cap, .int .i64 is] rfl rfl 237 _ Rr (by kernel_rfl) rfl (by simp [Value.oneCell']) ?_
 intro RW RR RO
 have RB : Below Rw.heap.size Rw Rw := Below.refl _ _
 have b3 := (b2.trans ((Rb.mono Rh).mono b2.size)).trans (RO.below (by have := b2.size; omega))
 have c0 := RR.cellv (i := 0) (v := .slice A n cap) rfl
 clear RR RO Rr Rb Gr Gb Xr Xb b1 b2 Gh Xh Rh RB
 go_wp2
 go_ret
 exact ⟨rfl, b3⟩
set_option maxHeartbeats 2000000 in
theorem asked_array (A : Option Addr) (n cap : Nat) (is : Int) (p : PgV) (x : Nd) (m : Int) (w : World) : Calls Tryz.prog 189 #[.agg p.cells, .agg x.cells.toArray, .iface 241 (.agg #[.slice A n cap, .int .i64 is]), .int .i64 m] w fun e w' => e = .returned (.slice A n cap) ∧ Below w.heap.size w w' := by
 have t1 := fun w => ta_ap (A := A) (n := n) (cap := cap) (is := is) (w := w)
 have t2 := fun w => ta_aa (A := A) (n := n) (cap := cap) (is := is) (w := w)
 go_enter Tryz.func189, Tryz.ntmps189
 go_wp2_with (refine at_box _ _ rfl ?_)
 refine Stop.to ?_
 refine wpList_box_gen rfl 25 _ rfl p.cells rfl ?_
 intro G Gw Gh Gr Gb
 go_wp2_with (refine at_box _ _ rfl ?_)
 refine Stop.to ?_
 refine wpList_box_gen rfl 74 _ rfl x.cells.toArray rfl ?_
 intro X Xw Xh Xr Xb
 have b1 := (Below.refl w.heap.size w).trans (Gb.mono Gh)
 have b2 := b1.trans ((Xb.mono Xh).mono b1.size)
 go_wp2_with (refine at_alloc _ rfl ?_)
 refine Stop.to ?_
 refine wpList_alloc_gen rfl 241 rfl _ _ zero_arrayK rfl ?_
 intro R Rw Rh Rr Rb
 go_wp2_with (refine at_store _ _ _ rfl ?_)
 refine Stop.to ?_
 refine wpList_store_gen rfl 241 _ _ rfl R #[.slice A n cap, .int .i64 is] rfl rfl 241 _ Rr (by kernel_rfl) rfl (by simp [Value.oneCell']) ?_
 intro RW RR RO
 have RB : Below Rw.heap.size Rw Rw := Below.refl _ _
 have b3 := (b2.trans ((Rb.mono Rh).mono b2.size)).trans (RO.below (by have := b2.size; omega))
 have c0 := RR.cellv (i := 0) (v := .slice A n cap) rfl
 clear RR RO Rr Rb Gr Gb Xr Xb b1 b2 Gh Xh Rh RB
 go_wp2
 go_ret
 exact ⟨rfl, b3⟩
structure WantR (want : List Int) (w w' : World) (e : Ending) : Prop where
 ex : ∃ A cap, e = .returned (.slice A want.length cap) ∧ Rd w' A (ints want) ∧ Below w.heap.size w w'
def scalarW (V : List Int) (n : Int) (b : Bool) : List Int := if b ∧ n.toNat < V.length then [(V[n.toNat]?).getD 0] else []
set_option maxHeartbeats 2000000 in
theorem asked_scalar (b : Bool) (p : PgV) (t n : Int) (hn : 0 ≤ n) (m : Int) (w : World) (hok : p.ok w) : Calls Tryz.prog 189 #[.agg p.cells, .agg (Nd.cells ⟨t, n⟩).toArray, .iface 239 (.agg #[.bool b]), .int .i64 m] w fun e w' => WantR (scalarW p.V n b) w w' e := by
 have Hok := Lib.hid hok
 clear hok
 obtain ⟨k, rfl⟩ : ∃ k : Nat, n = (k : Int) := ⟨n.toNat, by omega⟩
 obtain ⟨params, va, vcap, V, ba, bcap, body⟩ := p
 dsimp only
 have Hcap := Lib.hid Hok.out.vlen
 have Hmax := Lib.hid Hok.out.vmax
 dsimp only at Hcap Hmax
 rw [show (PgV.mk params va vcap V ba bcap body).cells = #[.int .i64 params, .slice va V.length vcap, .slice ba body.length bcap] from rfl, show (Nd.cells ⟨t, (k : Int)⟩).toArray = #[.int .i64 t, .int .i64 (k : Int)] from rfl]
 have t1 := fun w => ta_sp (b := b) (w := w)
 have t2 := fun w => ta_sa (b := b) (w := w)
 have t3 := fun w => ta_ss (b := b) (w := w)
 go_enter Tryz.func189, Tryz.ntmps189
 go_wp2_with (refine at_box _ _ rfl ?_)
 refine Stop.to ?_
 refine wpList_box_gen rfl 25 _ rfl #[.int .i64 params, .slice va V.length vcap, .slice ba body.length bcap] rfl ?_
 intro G Gw Gh Gr Gb
 go_wp2_with (refine at_box _ _ rfl ?_)
 refine Stop.to ?_
 refine wpList_box_gen rfl 74 _ rfl #[.int .i64 t, .int .i64 (k : Int)] rfl ?_
 intro X Xw Xh Xr Xb
 have b1 := (Below.refl w.heap.size w).trans (Gb.mono Gh)
 have b2 := b1.trans ((Xb.mono Xh).mono b1.size)
 go_wp2_with (refine at_alloc _ rfl ?_)
 refine Stop.to ?_
 refine wpList_alloc_gen rfl 239 rfl _ _ zero_scalarK rfl ?_
 intro R Rw Rh Rr Rb
 go_wp2_with (refine at_store _ _ _ rfl ?_)
 refine Stop.to ?_
 refine wpList_store_gen rfl 239 _ _ rfl R #[.bool b] rfl rfl 239 _ Rr (by kernel_rfl) rfl (by simp [Value.oneCell']) ?_
 intro RW RR RO
 have RB : Below Rw.heap.size Rw Rw := Below.refl _ _
 have b23 : Below Xw.heap.size Xw RW := (Rb.mono Rh).trans (RO.below Rh)
 have rG := (Gr.below Xb (Nat.lt_of_lt_of_le Gr.lt Xh)).below b23 (by have := (Gr.below Xb (Nat.lt_of_lt_of_le Gr.lt Xh)).lt; omega)
 have rX := Xr.below b23 Xr.lt
 have b3 := b2.trans (b23.mono b2.size)
 have c0 := RR.cellv (i := 0) (v := .bool b) rfl
 have c1 := rG.cellv (i := 1) (v := .slice va V.length vcap) rfl
 have c2 := rX.cellv (i := 1) (v := .int .i64 (k : Int)) rfl
 have Hvr := Lib.hid (Hok.out.go b3).vrd
 dsimp only at Hvr
 clear RR RO Rr Rb Gr Gb Xr Xb b1 b2 Gh Xh Rh RB b23 rG rX Hok t1 t2 t3
 cases b with
 | false =>
  have hz : Hid (scalarW V (k : Int) false = []) := by show _ = _; unfold scalarW; rw [if_neg (by simp)]
  go_wp2
  go_ret
  exact ⟨none, 0, by rw [hz.out]; rfl, by rw [hz.out]; exact Rd.nil _ _, b3⟩
 | true =>
  by_cases hk : k < V.length
  · obtain ⟨v, hv⟩ : ∃ v, V[k]? = some v := ⟨_, List.getElem?_eq_getElem hk⟩
    obtain ⟨ad, had, hc⟩ := int_at Hvr.out hv
    have hz : Hid (scalarW V (k : Int) true = [v]) := by show _ = _; unfold scalarW; rw [Int.toNat_natCast, if_pos ⟨rfl, hk⟩, hv]; rfl
    have hk' : (k : Int) < (V.length : Int) := by omega
    have hcap := Hcap.out
    have hmax := Hmax.out
    unfold maxLen at hmax
    have hcne : ¬ vcap = k := by omega
    have Hc := Lib.hid hc
    subst had
    clear hv hk hc
    go_wp2
    go_ret
    refine ⟨some (ad.add k), vcap - k, by rw [hz.out]; rfl, ?_, b3⟩
    rw [hz.out]
    intro j u hj
    refine ⟨_, rfl, ?_⟩
    have hj0 : j = 0 := by
     have := (List.getElem?_eq_some_iff.1 hj).1
     simp [ints] at this; exact this
    subst hj0
    have hu : Value.int .i64 v = u := by simpa [ints] using hj
    rw [add_add', Nat.add_zero, ← hu]; exact Hc.out
  · have hz : Hid (scalarW V (k : Int) true = []) := by show _ = _; unfold scalarW; rw [if_neg (by simp; omega)]
    have hk' : (V.length : Int) ≤ (k : Int) := by omega
    clear hk
    go_wp2
    go_ret
    exact ⟨none, 0, by rw [hz.out]; rfl, by rw [hz.out]; exact Rd.nil _ _, b3⟩
set_option maxHeartbeats 2000000 in
theorem asked_nil (p : PgV) (x : Nd) (m : Nat) (hm : m ≤ 1000) (w : World) : Calls Tryz.prog 189 #[.agg p.cells, .agg x.cells.toArray, .nilIface, .int .i64 (m : Int)] w fun e w' => WantR (List.replicate m 2) w w' e := by
 have t1 := fun w => ta_np (w := w)
 have t2 := fun w => ta_na (w := w)
 have t3 := fun w => ta_ns (w := w)
 go_enter Tryz.func189, Tryz.ntmps189
 go_wp2_with (refine at_box _ _ rfl ?_)
 refine Stop.to ?_
 refine wpList_box_gen rfl 25 _ rfl p.cells rfl ?_
 intro G Gw Gh Gr Gb
 go_wp2_with (refine at_box _ _ rfl ?_)
 refine Stop.to ?_
 refine wpList_box_gen rfl 74 _ rfl x.cells.toArray rfl ?_
 intro X Xw Xh Xr Xb
 have b1 := (Below.refl w.heap.size w).trans (Gb.mono Gh)
 have b2 := b1.trans ((Xb.mono Xh).mono b1.size)
 go_wp2_with fail
 refine (repeat_any Xw.heap.size 1 m 2 _ (Row.new Xw 3 #[.int .i64 2]) hm).mono ?_
 rintro e w4 ⟨v, rfl, hown, b4⟩
 have b4 := b2.trans ((((Below.refl _ _).alloc (Nat.le_refl _) _).trans (b4.mono (by simp))).mono b2.size)
 obtain ⟨A, cap, rfl, hrd, _, _⟩ := own_rd hown
 have Hrd := Lib.hid hrd
 clear hown hrd
 go_wp2
 go_ret
 refine ⟨A, cap, ?_, Hrd.out, b4⟩
 rw [List.length_replicate]; rfl
end Go.Proofs.YtcgglolckkeeiaaGreat
