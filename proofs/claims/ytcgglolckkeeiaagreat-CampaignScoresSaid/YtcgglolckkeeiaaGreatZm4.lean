/- Lemmas for CmAll. -/
import Derived.Test.YtcgglolckkeeiaaGreatZm3
import Derived.Test.YtcgglolckkeeiaaGreatZm2
namespace Go.Proofs.YtcgglolckkeeiaaGreat
set_option linter.unusedVariables false
open Go.RowKit Go.Deep
structure PgV where
 params : Int
 va : Option Addr
 vcap : Nat
 V : List Int
 ba : Option Addr
 bcap : Nat
 body : List Nd
def PgV.cells (p : PgV) : Array Value := #[.int .i64 p.params, .slice p.va p.V.length p.vcap, .slice p.ba p.body.length p.bcap]
structure PgV.ok (p : PgV) (w : World) : Prop where
 par : InI p.params
 vlen : p.V.length ≤ p.vcap
 vmax : p.vcap ≤ maxLen
 vnil : p.va = none → p.vcap = 0
 vrd : Rd w p.va (ints p.V)
 vin : ∀ t ∈ p.V, InI t
 blen : p.body.length ≤ p.bcap
 bmax : p.bcap ≤ maxLen
 bnil : p.ba = none → p.bcap = 0
 brd : Rd w p.ba (p.body.flatMap Nd.cells)
 bin : ∀ x ∈ p.body, InI x.tag ∧ InI x.n
theorem PgV.ok.go {p : PgV} {w w' : World} (h : p.ok w) (b : Below w.heap.size w w') : p.ok w' :=
 ⟨h.par, h.vlen, h.vmax, h.vnil, h.vrd.go b, h.vin, h.blen, h.bmax, h.bnil, h.brd.go b, h.bin⟩
instance St.pgok {p : PgV} : St (fun W => p.ok W) := ⟨fun h b => h.go b⟩
theorem int_at {w : World} {A : Option Addr} {l : List Int} (hr : Rd w A (ints l)) {k : Nat} {x : Int} (hx : l[k]? = some x) : ∃ ad, A = some ad ∧ w.cell? (ad.add k) = some (.int .i64 x) :=
 hr k _ (by simp [ints, hx])
def okVar (params : Int) (j : Nat) (t : Int) : Bool := decide (t = 0 ∨ (params ≤ j ∧ 1 ≤ t ∧ t ≤ 9))
def varsOk (params : Int) (V : List Int) : Prop := 0 ≤ params ∧ params ≤ V.length ∧ V.length ≤ 12 ∧ ∀ j, j < V.length → okVar params j (V.getD j 0) = true
instance (params : Int) (V : List Int) : Decidable (varsOk params V) := by unfold varsOk; infer_instance
def varsE (params : Int) (V : List Int) : Int := if varsOk params V then 0 else 14
theorem varsE_no {params : Int} {V : List Int} (h : params < 0 ∨ (V.length : Int) < params ∨ 12 < (V.length : Int)) : varsE params V = 14 := by
 unfold varsE; rw [if_neg]; unfold varsOk; omega
theorem varsE_bad {params : Int} {V : List Int} {j : Nat} {t : Int} (hj : V[j]? = some t) (h : okVar params j t = false) : varsE params V = 14 := by
 unfold varsE; rw [if_neg]
 rintro ⟨_, _, _, h4⟩
 have := h4 j (List.getElem?_eq_some_iff.1 hj).1
 rw [List.getD_eq_getElem?_getD, hj, Option.getD_some, h] at this
 cases this
theorem varsE_ok {params : Int} {V : List Int} (h1 : 0 ≤ params) (h2 : params ≤ V.length) (h3 : (V.length : Int) ≤ 12) (h : ∀ j, j < V.length → okVar params j (V.getD j 0) = true) : varsE params V = 0 := by
 unfold varsE; rw [if_pos ⟨h1, h2, by omega, h⟩]
theorem okVar_step {params : Int} {V : List Int} {k : Nat} {t : Int} (h : ∀ j, j < k → okVar params j (V.getD j 0) = true) (hk : V[k]? = some t) (ht : okVar params k t = true) : ∀ j, j < k + 1 → okVar params j (V.getD j 0) = true := fun j hj => by
 by_cases e : j = k
 · subst e; rw [List.getD_eq_getElem?_getD, hk]; exact ht
 · exact h j (by omega)
set_option maxRecDepth 100000 in
set_option maxHeartbeats 4000000 in
theorem vars_any (p : PgV) (w : World) (hok : p.ok w) : Calls Tryz.prog 114 #[.agg p.cells] w fun e w' => e = .returned (.int .i64 (varsE p.params p.V)) ∧ Below w.heap.size w w' := by
 have Hok := Lib.hid hok
 clear hok
 obtain ⟨params, va, vcap, V, ba, bcap, body⟩ := p
 dsimp only
 rw [show (PgV.mk params va vcap V ba bcap body).cells = #[.int .i64 params, .slice va V.length vcap, .slice ba body.length bcap] from rfl]
 go_enter Tryz.func114, Tryz.ntmps114
 go_wp2_with (refine at_box _ _ rfl ?_)
 refine Stop.to ?_
 refine wpList_box_gen rfl 25 _ rfl #[.int .i64 params, .slice va V.length vcap, .slice ba body.length bcap] rfl ?_
 intro G w1 hG r1 b1
 have b1 := (Below.refl w.heap.size w).trans (b1.mono hG)
 have hok1 := Hok.out.go b1
 have c0 := r1.cellv (i := 0) (v := .int .i64 params) rfl
 have c1 := r1.cellv (i := 1) (v := .slice va V.length vcap) rfl
 have hvr := hok1.vrd
 have Hvr := Lib.hid hvr
 have Hin := Lib.hid Hok.out.vin
 have hpar := Hok.out.par
 unfold InI at hpar
 dsimp only at Hvr Hin hpar
 clear hG hok1 hvr r1 Hok
 by_cases h0 : params < 0
 · have hz := Lib.hid (varsE_no (V := V) (.inl h0))
   go_wp2
   go_ret
   exact ⟨ret_i hz.out, b1⟩
 by_cases h1 : (V.length : Int) < params
 · have hz := Lib.hid (varsE_no (V := V) (.inr (.inl h1)))
   have h0' : 0 ≤ params := by omega
   go_wp2
   go_ret
   exact ⟨ret_i hz.out, b1⟩
 by_cases h2 : 12 < (V.length : Int)
 · have hz := Lib.hid (varsE_no (params := params) (V := V) (.inr (.inr h2)))
   have h0' : 0 ≤ params := by omega
   have h1' : params ≤ (V.length : Int) := by omega
   clear h0 h1
   go_wp2
   go_ret
   exact ⟨ret_i hz.out, b1⟩
 have h0' : 0 ≤ params := by omega
 have h1' : params ≤ (V.length : Int) := by omega
 have h2' : (V.length : Int) ≤ 12 := by omega
 clear h0 h1 h2
 go_wp2
 go_loop [25] (fun i => ∃ k : Nat, i = .int .i64 (k : Int) ∧ k ≤ V.length ∧ Hid (∀ j, j < k → okVar params j (V.getD j 0) = true)) (fun i => V.length - (intOf i).toNat)
 case atStart => exact ⟨0, rfl, Nat.zero_le _, Lib.hid (fun j h => by omega)⟩
 case round =>
  obtain ⟨k, rfl, hk, hall⟩ := hrel
  by_cases hlt : k < V.length
  · obtain ⟨t, ht⟩ : ∃ t, V[k]? = some t := ⟨_, List.getElem?_eq_getElem hlt⟩
    obtain ⟨ad, had, hc⟩ := int_at Hvr.out ht
    have hin := Hin.out t (List.mem_of_getElem? ht)
    have Hin' := Lib.hid hin
    unfold InI at hin
    have Ht := Lib.hid ht
    have hltI : (k : Int) < (V.length : Int) := by omega
    clear ht hlt
    subst had
    by_cases hgood : okVar params k t = true
    · have Hg := Lib.hid hgood
      simp only [okVar, decide_eq_true_eq] at hgood
      have hz : t = 0 ∨ (t ≠ 0 ∧ (params ≤ k ∧ 1 ≤ t ∧ t ≤ 9)) := by omega
      clear hgood
      rcases hz with rfl | ⟨ht0, hpk, ht1, ht9⟩
      · go_wp2
        go_round
        case rel => exact ⟨k + 1, by go_num, by omega, Lib.hid (okVar_step hall.out Ht.out Hg.out)⟩
        case measure => simp [intOf]; omega
      · have e0 : (t != 0) = true := by simpa using ht0
        by_cases h1 : t = 1
        · have e1 : (t != 1) = false := by simpa using h1
          clear ht0 h1
          go_wp2
          go_round
          case rel => exact ⟨k + 1, by go_num, by omega, Lib.hid (okVar_step hall.out Ht.out Hg.out)⟩
          case measure => simp [intOf]; omega
        · have e1 : (t != 1) = true := by simpa using h1
          have e2 : (sizeZ t == 0) = false := by simp [sizeZ]; omega
          clear ht0 h1
          go_wp2_with (go_at_call 155; refine (size_any t _ Hin'.out).mono ?_; rintro e w' ⟨rfl, rfl⟩)
          go_round
          case rel => exact ⟨k + 1, by go_num, by omega, Lib.hid (okVar_step hall.out Ht.out Hg.out)⟩
          case measure => simp [intOf]; omega
    · have hz := Lib.hid (varsE_bad Ht.out (by simpa using hgood))
      simp only [okVar, decide_eq_true_eq] at hgood
      have e0 : (t != 0) = true := by simp; omega
      by_cases hkp : (k : Int) < params
      · clear hgood
        go_wp2
        go_ret
        exact ⟨ret_i hz.out, b1⟩
      · have hkp' : params ≤ (k : Int) := by omega
        have e1 : (t != 1) = true := by simp; omega
        have e2 : sizeZ t = 0 := by unfold sizeZ; rw [if_neg (by omega)]
        have E2 := Lib.hid e2
        clear hgood hkp e2
        go_wp2_with (go_at_call 155; refine (size_any t _ Hin'.out).mono ?_; rintro e w' ⟨rfl, rfl⟩; rw [E2.out])
        go_ret
        exact ⟨ret_i hz.out, b1⟩
  · have hge : (V.length : Int) ≤ (k : Int) := by omega
    obtain rfl : k = V.length := by omega
    have hz := Lib.hid (varsE_ok h0' h1' h2' hall.out)
    go_wp2
    go_ret
    exact ⟨ret_i hz.out, b1⟩
end Go.Proofs.YtcgglolckkeeiaaGreat
namespace Go.Proofs.YtcgglolckkeeiaaGreat
set_option linter.unusedVariables false
open Go.RowKit Go.Deep
set_option maxRecDepth 100000 in
set_option maxHeartbeats 4000000 in
theorem refVars_any (p : PgV) (w : World) (hok : p.ok w) : Calls Tryz.prog 125 #[.agg p.cells] w fun e w' => e = .returned (.int .i64 (varsE p.params p.V)) ∧ Below w.heap.size w w' := by
 have Hok := Lib.hid hok
 clear hok
 obtain ⟨params, va, vcap, V, ba, bcap, body⟩ := p
 dsimp only
 rw [show (PgV.mk params va vcap V ba bcap body).cells = #[.int .i64 params, .slice va V.length vcap, .slice ba body.length bcap] from rfl]
 go_enter Tryz.func125, Tryz.ntmps125
 go_wp2_with (refine at_box _ _ rfl ?_)
 refine Stop.to ?_
 refine wpList_box_gen rfl 25 _ rfl #[.int .i64 params, .slice va V.length vcap, .slice ba body.length bcap] rfl ?_
 intro G w1 hG r1 b1
 have b1 := (Below.refl w.heap.size w).trans (b1.mono hG)
 have hok1 := Hok.out.go b1
 have c0 := r1.cellv (i := 0) (v := .int .i64 params) rfl
 have c1 := r1.cellv (i := 1) (v := .slice va V.length vcap) rfl
 have hvr := hok1.vrd
 have Hvr := Lib.hid hvr
 have Hin := Lib.hid Hok.out.vin
 have hpar := Hok.out.par
 unfold InI at hpar
 dsimp only at Hvr Hin hpar
 clear hG hok1 hvr r1 Hok
 by_cases h0 : params < 0
 · have hz := Lib.hid (varsE_no (V := V) (.inl h0))
   go_wp2
   go_ret
   exact ⟨ret_i hz.out, b1⟩
 by_cases h1 : (V.length : Int) < params
 · have hz := Lib.hid (varsE_no (V := V) (.inr (.inl h1)))
   have h0' : 0 ≤ params := by omega
   go_wp2
   go_ret
   exact ⟨ret_i hz.out, b1⟩
 by_cases h2 : 12 < (V.length : Int)
 · have hz := Lib.hid (varsE_no (params := params) (V := V) (.inr (.inr h2)))
   have h0' : 0 ≤ params := by omega
   have h1' : params ≤ (V.length : Int) := by omega
   clear h0 h1
   go_wp2
   go_ret
   exact ⟨ret_i hz.out, b1⟩
 have h0' : 0 ≤ params := by omega
 have h1' : params ≤ (V.length : Int) := by omega
 have h2' : (V.length : Int) ≤ 12 := by omega
 clear h0 h1 h2
 go_wp2
 go_loop [3] (fun i => ∃ k : Nat, i = .int .i64 (k : Int) ∧ k ≤ V.length ∧ Hid (∀ j, j < k → okVar params j (V.getD j 0) = true)) (fun i => V.length - (intOf i).toNat)
 case atStart => exact ⟨0, rfl, Nat.zero_le _, Lib.hid (fun j h => by omega)⟩
 case round =>
  obtain ⟨k, rfl, hk, hall⟩ := hrel
  by_cases hlt : k < V.length
  · obtain ⟨t, ht⟩ : ∃ t, V[k]? = some t := ⟨_, List.getElem?_eq_getElem hlt⟩
    obtain ⟨ad, had, hc⟩ := int_at Hvr.out ht
    have Ht := Lib.hid ht
    have hltI : (k : Int) < (V.length : Int) := by omega
    clear ht hlt Hin
    subst had
    by_cases hgood : okVar params k t = true
    · have Hg := Lib.hid hgood
      simp only [okVar, decide_eq_true_eq] at hgood
      have ht0 : 0 ≤ t := by omega
      have ht9 : t ≤ 9 := by omega
      by_cases hkp : (k : Int) < params
      · obtain rfl : t = 0 := by omega
        clear hgood
        go_wp2
        go_round
        case rel => exact ⟨k + 1, by go_num, by omega, Lib.hid (okVar_step hall.out Ht.out Hg.out)⟩
        case measure => simp [intOf]; omega
      · have hkp' : params ≤ (k : Int) := by omega
        clear hgood hkp
        go_wp2
        go_round
        case rel => exact ⟨k + 1, by go_num, by omega, Lib.hid (okVar_step hall.out Ht.out Hg.out)⟩
        case measure => simp [intOf]; omega
    · have hz := Lib.hid (varsE_bad Ht.out (by simpa using hgood))
      simp only [okVar, decide_eq_true_eq] at hgood
      by_cases h0 : t < 0
      · clear hgood
        go_wp2
        go_ret
        exact ⟨ret_i hz.out, b1⟩
      by_cases h9 : 9 < t
      · have h0' : 0 ≤ t := by omega
        clear hgood h0
        go_wp2
        go_ret
        exact ⟨ret_i hz.out, b1⟩
      · have h0' : 0 ≤ t := by omega
        have h9' : t ≤ 9 := by omega
        have hkp : (k : Int) < params := by omega
        have e0 : (t != 0) = true := by simp; omega
        clear hgood h0 h9
        go_wp2
        go_ret
        exact ⟨ret_i hz.out, b1⟩
  · have hge : (V.length : Int) ≤ (k : Int) := by omega
    obtain rfl : k = V.length := by omega
    have hz := Lib.hid (varsE_ok h0' h1' h2' hall.out)
    go_wp2
    go_ret
    exact ⟨ret_i hz.out, b1⟩
end Go.Proofs.YtcgglolckkeeiaaGreat
namespace Go.Proofs.YtcgglolckkeeiaaGreat
set_option linter.unusedVariables false
open Go.RowKit Go.Deep
def typedZ (V : List Int) (n : Int) : Int := if n < 0 ∨ (V.length : Int) ≤ n then -1 else (V[n.toNat]?).getD 0
theorem typed_any (p : PgV) (n : Int) (w : World) (hok : p.ok w) : Calls Tryz.prog 163 #[.agg p.cells, .int .i64 n] w fun e w' => e = .returned (.int .i64 (typedZ p.V n)) ∧ Below w.heap.size w w' := by
 have Hok := Lib.hid hok
 clear hok
 obtain ⟨params, va, vcap, V, ba, bcap, body⟩ := p
 dsimp only
 rw [show (PgV.mk params va vcap V ba bcap body).cells = #[.int .i64 params, .slice va V.length vcap, .slice ba body.length bcap] from rfl]
 go_enter Tryz.func163, Tryz.ntmps163
 go_wp2_with (refine at_box _ _ rfl ?_)
 refine Stop.to ?_
 refine wpList_box_gen rfl 25 _ rfl #[.int .i64 params, .slice va V.length vcap, .slice ba body.length bcap] rfl ?_
 intro G w1 hG r1 b1
 have b1 := (Below.refl w.heap.size w).trans (b1.mono hG)
 have c1 := r1.cellv (i := 1) (v := .slice va V.length vcap) rfl
 have Hvr := Lib.hid (Hok.out.go b1).vrd
 dsimp only at Hvr
 clear hG r1 Hok
 by_cases h0 : n < 0
 · have hz : Hid (typedZ V n = -1) := by show _ = _; unfold typedZ; rw [if_pos (.inl h0)]
   go_wp2
   go_ret
   exact ⟨ret_i hz.out, b1⟩
 · obtain ⟨k, rfl⟩ : ∃ k : Nat, n = (k : Int) := ⟨n.toNat, by omega⟩
   by_cases h1 : (V.length : Int) ≤ (k : Int)
   · have hz : Hid (typedZ V (k : Int) = -1) := by show _ = _; unfold typedZ; rw [if_pos (.inr h1)]
     go_wp2
     go_ret
     exact ⟨ret_i hz.out, b1⟩
   · have hk : k < V.length := by omega
     have hz : Hid (typedZ V (k : Int) = V[k]) := by show _ = _; unfold typedZ; rw [if_neg (by omega), Int.toNat_natCast, List.getElem?_eq_getElem hk]; rfl
     obtain ⟨ad, had, hc⟩ := int_at Hvr.out (List.getElem?_eq_getElem hk)
     subst had
     have h1' : (k : Int) < (V.length : Int) := by omega
     clear h1 h0
     go_wp2
     go_ret
     exact ⟨ret_i hz.out, b1⟩
def kindZ (b : Bool) (k : Int) : Int := if b then k else -1
theorem kindB_any (b : Bool) (k : Int) (w : World) : Calls Tryz.prog 164 #[.bool b, .int .i64 k] w fun e w' => e = .returned (.int .i64 (kindZ b k)) ∧ w = w' := by
 cases b
 all_goals
  go_enter Tryz.func164, Tryz.ntmps164
  go_wp2
  go_ret
  exact ⟨rfl, rfl⟩
def fewP (p : PgV) : Bool := decide (p.body.length ≤ 60 ∧ p.V.length ≤ 20)
theorem few_any (p : PgV) (w : World) : Calls Tryz.prog 81 #[.agg p.cells] w fun e w' => e = .returned (.bool (fewP p)) ∧ Below w.heap.size w w' := by
 obtain ⟨params, va, vcap, V, ba, bcap, body⟩ := p
 rw [show (PgV.mk params va vcap V ba bcap body).cells = #[.int .i64 params, .slice va V.length vcap, .slice ba body.length bcap] from rfl]
 have hz : Hid (fewP ⟨params, va, vcap, V, ba, bcap, body⟩ = decide (body.length ≤ 60 ∧ V.length ≤ 20)) := by show _ = _; rfl
 go_enter Tryz.func81, Tryz.ntmps81
 go_wp2_with (refine at_box _ _ rfl ?_)
 refine Stop.to ?_
 refine wpList_box_gen rfl 25 _ rfl #[.int .i64 params, .slice va V.length vcap, .slice ba body.length bcap] rfl ?_
 intro G w1 hG r1 b1
 have b1 := (Below.refl w.heap.size w).trans (b1.mono hG)
 have c1 := r1.cellv (i := 1) (v := .slice va V.length vcap) rfl
 have c2 := r1.cellv (i := 2) (v := .slice ba body.length bcap) rfl
 clear hG r1
 by_cases h0 : body.length ≤ 60
 · have h0' : (body.length : Int) ≤ 60 := by omega
   by_cases h1 : V.length ≤ 20
   · have h1' : (V.length : Int) ≤ 20 := by omega
     go_wp2
     go_ret
     exact ⟨ret_b (hz.out.trans (decide_eq_true ⟨h0, h1⟩)), b1⟩
   · have h1' : 20 < (V.length : Int) := by omega
     have H1 := Lib.hid h1
     clear h1
     go_wp2
     go_ret
     exact ⟨ret_b (hz.out.trans (by simp [h0]; omega)), b1⟩
 · have h0' : 60 < (body.length : Int) := by omega
   have H0 := Lib.hid h0
   clear h0
   go_wp2
   go_ret
   exact ⟨ret_b (hz.out.trans (decide_eq_false (fun h : body.length ≤ 60 ∧ V.length ≤ 20 => H0.out h.1))), b1⟩
def natsI (l : List Nat) : List Int := l.map fun n : Nat => (n : Int)
theorem natsI_len (l : List Nat) : (natsI l).length = l.length := by simp [natsI]
def blocksZ (ts : List Tr) (f : Nat) : Bool := (ts.drop f).all fun t => t.root.tag == 20
theorem blocksZ_step {ts : List Tr} {k : Nat} {t : Tr} (h1 : 1 ≤ k) (h : ((ts.take k).drop 1).all (fun t => t.root.tag == 20) = true) (ht : ts[k]? = some t) (hb : t.root.tag = 20) : ((ts.take (k + 1)).drop 1).all (fun t => t.root.tag == 20) = true := by
 have hk : k < ts.length := (List.getElem?_eq_some_iff.1 ht).1
 rw [List.take_succ_eq_append_getElem hk, List.drop_append_of_le_length (by simp; omega), List.all_append, h]
 have : ts[k] = t := by rw [List.getElem?_eq_getElem hk] at ht; injection ht
 simp [this, hb]
theorem blocksZ_no {ts : List Tr} {k : Nat} {t : Tr} (h1 : 1 ≤ k) (ht : ts[k]? = some t) (hb : t.root.tag ≠ 20) : blocksZ ts 1 = false := by
 unfold blocksZ
 rw [List.all_eq_false]
 refine ⟨t, List.mem_of_getElem? (i := k - 1) ?_, by simpa using hb⟩
 rw [List.getElem?_drop, show 1 + (k - 1) = k by omega]; exact ht
theorem blocksZ_all {ts : List Tr} {k : Nat} (hk : ts.length ≤ k) (h : ((ts.take k).drop 1).all (fun t => t.root.tag == 20) = true) : blocksZ ts 1 = true := by
 rw [List.take_of_length_le hk] at h; exact h
set_option maxRecDepth 100000 in
set_option maxHeartbeats 2000000 in
theorem blocks_any (p : PgV) (KA : Option Addr) (kcap : Nat) (pos : List Nat) (ts : List Tr) (w : World) (hok : p.ok w) (hk : Rd w KA (ints (natsI pos))) (hl : pos.length = ts.length) (hp : ∀ (i q : Nat) (t : Tr), pos[i]? = some q → ts[i]? = some t → At p.body q t) (hm : pos.length ≤ 1000) :
 Calls Tryz.prog 167 #[.agg p.cells, .slice KA pos.length kcap, .int .i64 1] w fun e w' => e = .returned (.bool (blocksZ ts 1)) ∧ Below w.heap.size w w' := by
 have Hok := Lib.hid hok
 have Hk := Lib.hid hk
 have Hp := Lib.hid hp
 have Hl := Lib.hid hl
 clear hok hk hp hl
 obtain ⟨params, va, vcap, V, ba, bcap, body⟩ := p
 dsimp only at Hp
 rw [show (PgV.mk params va vcap V ba bcap body).cells = #[.int .i64 params, .slice va V.length vcap, .slice ba body.length bcap] from rfl]
 go_enter Tryz.func167, Tryz.ntmps167
 go_wp2_with (refine at_box _ _ rfl ?_)
 refine Stop.to ?_
 refine wpList_box_gen rfl 25 _ rfl #[.int .i64 params, .slice va V.length vcap, .slice ba body.length bcap] rfl ?_
 intro G w1 hG r1 b1
 have b1 := (Below.refl w.heap.size w).trans (b1.mono hG)
 have Hbr := Lib.hid (Hok.out.go b1).brd
 have Hk1 := Lib.hid (Hk.out.go b1)
 dsimp only at Hbr
 clear hG Hk Hok
 go_wp2
 go_loopw [7] (fun i wr => ∃ k n : Nat, i = .int .i64 (k : Int) ∧ 1 ≤ k ∧ k ≤ pos.length + 1 ∧ wr = w1.drewN n ∧ Hid ((ts.take k).drop 1 |>.all fun t => t.root.tag == 20)) (fun i _ => pos.length - (intOf i).toNat)
 case atStart => exact ⟨1, 0, rfl, Nat.le_refl _, by omega, rfl, Lib.hid (by cases ts <;> simp)⟩
 case round =>
  obtain ⟨k, n, rfl, hk1, hk2, rfl, hall⟩ := hrel
  have c2 := r1.cellv (i := 2) (v := .slice ba body.length bcap) rfl
  by_cases hlt : k < pos.length
  · obtain ⟨q, hq⟩ : ∃ q, pos[k]? = some q := ⟨_, List.getElem?_eq_getElem hlt⟩
    obtain ⟨t, ht⟩ : ∃ t, ts[k]? = some t := ⟨_, List.getElem?_eq_getElem (by rw [← Hl.out]; exact hlt)⟩
    have hat := Hp.out k q t hq ht
    obtain ⟨ad, had, hc⟩ := int_at (w := w1) (l := natsI pos) Hk1.out (k := k) (x := (q : Int)) (by simp [natsI, hq])
    obtain ⟨bd, hbd, hcx⟩ := nd_at Hbr.out hat.root
    have hc0 := hcx 0 (.int .i64 t.root.tag) rfl
    rw [show (bd.add (q * 2)).add 0 = bd.add (q * 2) by rw [add_add']; simp] at hc0
    have hql : (q : Int) < (body.length : Int) := by have := hat.lt; omega
    have hkI : (k : Int) < (pos.length : Int) := by omega
    have Hq := Lib.hid hq
    have Ht := Lib.hid ht
    clear hcx hat hlt hq ht
    subst had hbd
    by_cases hb : t.root.tag = 20
    · have hb' : (t.root.tag != 20) = false := by simp [hb]
      have Hb := Lib.hid hb
      clear hb
      go_wp2_with fail
      go_quiet (fail)
      go_wp2
      go_roundw
      case rel => exact ⟨k + 1, n + nq, by go_num, by omega, by omega, rfl, Lib.hid (blocksZ_step hk1 hall.out Ht.out Hb.out)⟩
      case measure => simp [intOf]; omega
    · have hb' : (t.root.tag != 20) = true := by simpa using hb
      have hz := Lib.hid (blocksZ_no hk1 Ht.out hb)
      clear hb
      go_wp2_with fail
      go_quiet (fail)
      go_wp2
      go_ret
      exact ⟨ret_b hz.out, below_drewN (below_drewN b1 _) _⟩
  · have hge : (pos.length : Int) ≤ (k : Int) := by omega
    have hz := Lib.hid (blocksZ_all (ts := ts) (k := k) (by have := Hl.out; omega) hall.out)
    clear hlt
    go_wp2
    go_ret
    exact ⟨ret_b hz.out, below_drewN b1 _⟩
end Go.Proofs.YtcgglolckkeeiaaGreat
namespace Go.Proofs.YtcgglolckkeeiaaGreat
set_option linter.unusedVariables false
open Go.RowKit Go.Deep
set_option maxRecDepth 100000 in
set_option maxHeartbeats 2000000 in
theorem all_of (p : PgV) (KA WA : Option Addr) (kcap wcap : Nat) (pos : List Nat) (vals want : List Int) (w : World) (hok : p.ok w) (hk : Rd w KA (ints (natsI pos))) (hw : Rd w WA (ints want)) (hl : pos.length = vals.length) (hm : pos.length ≤ 1000)
 (hof : ∀ (i q : Nat) (v : Int), pos[i]? = some q → vals[i]? = some v → ∀ W, p.ok W → Calls Tryz.prog 126 #[.agg p.cells, .int .i64 (q : Int)] W fun e W' => e = .returned (.int .i64 v) ∧ Below W.heap.size W W') :
 Calls Tryz.prog 166 #[.agg p.cells, .slice KA pos.length kcap, .slice WA want.length wcap] w fun e w' => e = .returned (.bool (decide (vals = want))) ∧ Below w.heap.size w w' := by
 have Hof := Lib.hid hof
 have Hl := Lib.hid hl
 have Hok := Lib.hid hok
 have Hk := Lib.hid hk
 have Hw := Lib.hid hw
 clear hof hl hok hk hw
 go_enter Tryz.func166, Tryz.ntmps166
 go_wp2_with (refine at_box _ _ rfl ?_)
 refine Stop.to ?_
 refine wpList_box_gen rfl 25 _ rfl p.cells rfl ?_
 intro G w1 hG r1 b1
 have b1 := (Below.refl w.heap.size w).trans (b1.mono hG)
 by_cases hne : pos.length = want.length
 rotate_left
 · have hne' : ((pos.length : Int) != (want.length : Int)) = true := by simp; omega
   have hz : Hid (decide (vals = want) = false) := by show _ = _; exact decide_eq_false (fun e => hne (by rw [Hl.out, e]))
   clear hne
   go_wp2
   go_ret
   exact ⟨ret_b hz.out, b1⟩
 have hne' : ((pos.length : Int) != (want.length : Int)) = false := by simp; omega
 have Hne := Lib.hid hne
 clear hne
 obtain ⟨S, hSd⟩ : ∃ S, S = (fun W => Row W G 25 p.cells ∧ p.ok W ∧ Rd W KA (ints (natsI pos)) ∧ Rd W WA (ints want) ∧ Below w.heap.size w W) := ⟨_, rfl⟩
 have stS : St S := by rw [hSd]; infer_instance
 have s0 : ∀ W, S W → Row W G 25 p.cells := by rw [hSd]; exact fun W h => h.1
 have S1 : Hid (∀ W, S W → p.ok W) := by show ∀ W, _; rw [hSd]; exact fun W h => h.2.1
 have S2 : Hid (∀ W, S W → Rd W KA (ints (natsI pos))) := by show ∀ W, _; rw [hSd]; exact fun W h => h.2.2.1
 have S3 : Hid (∀ W, S W → Rd W WA (ints want)) := by show ∀ W, _; rw [hSd]; exact fun W h => h.2.2.2.1
 have S4 : Hid (∀ W, S W → Below w.heap.size w W) := by show ∀ W, _; rw [hSd]; exact fun W h => h.2.2.2.2
 have hS : S w1 := by rw [hSd]; exact ⟨r1, Hok.out.go b1, Hk.out.go b1, Hw.out.go b1, b1⟩
 have S0 := Lib.hid s0
 clear hSd r1 b1 hG Hok Hk Hw s0
 go_wp2
 go_loopw [7] (fun i wr => ∃ k : Nat, i = .int .i64 (k : Int) ∧ k ≤ pos.length ∧ S wr ∧ Hid (vals.take k = want.take k)) (fun i _ => pos.length - (intOf i).toNat)
 case atStart => exact ⟨0, rfl, Nat.zero_le _, hS, Lib.hid rfl⟩
 case round =>
  clear hS
  obtain ⟨k, rfl, hk, hSr, hall⟩ := hrel
  by_cases hlt : k < pos.length
  · obtain ⟨q, hq⟩ : ∃ q, pos[k]? = some q := ⟨_, List.getElem?_eq_getElem hlt⟩
    have hvl : k < vals.length := by rw [← Hl.out]; exact hlt
    have hwl : k < want.length := by rw [← Hne.out]; exact hlt
    obtain ⟨v, hv⟩ : ∃ v, vals[k]? = some v := ⟨_, List.getElem?_eq_getElem hvl⟩
    obtain ⟨u, hu⟩ : ∃ u, want[k]? = some u := ⟨_, List.getElem?_eq_getElem hwl⟩
    have call := Lib.hid (Hof.out k q v hq hv)
    obtain ⟨ad, had, _⟩ := int_at (l := natsI pos) (S2.out _ hSr) (k := k) (x := (q : Int)) (by simp [natsI, hq])
    obtain ⟨wd, hwd, _⟩ := int_at (l := want) (S3.out _ hSr) (k := k) (x := u) hu
    subst had hwd
    have hcq : Hid (∀ W, S W → W.cell? (ad.add k) = some (.int .i64 (q : Int))) := by
     show ∀ W, _
     intro W hW
     obtain ⟨ad', e, h⟩ := int_at (l := natsI pos) (S2.out _ hW) (k := k) (x := (q : Int)) (by simp [natsI, hq])
     injection e with e; subst e; exact h
    have hcu : Hid (∀ W, S W → W.cell? (wd.add k) = some (.int .i64 u)) := by
     show ∀ W, _
     intro W hW
     obtain ⟨ad', e, h⟩ := int_at (l := want) (S3.out _ hW) (k := k) (x := u) hu
     injection e with e; subst e; exact h
    have hkI : (k : Int) < (pos.length : Int) := by omega
    have hkW : (k : Int) < (want.length : Int) := by omega
    have Hv := Lib.hid hv
    have Hu := Lib.hid hu
    clear hq hv hu hlt hvl hwl
    go_wp2_with fail
    refine region_hold S (by kernel_rfl) (by kernel_rfl) (St.drew hSr) ?_
    clear hSr
    (refine hold_load_row rfl 25 _ rfl (G) rfl 25 _ _ S0.out Tryz.underlying25 rfl (by kernel_rfl) ?_; simp only [Act.put, List.setIfInBounds_toArray, List.set_cons_zero, List.set_cons_succ])
    iterate 3 (refine hold_value rfl ?_ (fun W hW => ?_) ?_; rotate_left; (focus (go_simp; exact rfl)); simp only [Act.put, List.setIfInBounds_toArray, List.set_cons_zero, List.set_cons_succ])
    (refine hold_value rfl ?_ (fun W hW => ?_) ?_; rotate_left; (focus (have c := hcq.out W hW; go_simp; exact rfl)); simp only [Act.put, List.setIfInBounds_toArray, List.set_cons_zero, List.set_cons_succ])
    (refine hold_call_new rfl 126 _ (fun W => by (go_simp; try rfl)) _ (fun W hW => call.out W (S1.out _ hW)) ?_; simp only [Act.put, List.setIfInBounds_toArray, List.set_cons_zero, List.set_cons_succ])
    iterate 3 (refine hold_value rfl ?_ (fun W hW => ?_) ?_; rotate_left; (focus (go_simp; exact rfl)); simp only [Act.put, List.setIfInBounds_toArray, List.set_cons_zero, List.set_cons_succ])
    (refine hold_value rfl ?_ (fun W hW => ?_) ?_; rotate_left; (focus (have c := hcu.out W hW; go_simp; exact rfl)); simp only [Act.put, List.setIfInBounds_toArray, List.set_cons_zero, List.set_cons_succ])
    iterate 1 (refine hold_value rfl ?_ (fun W hW => ?_) ?_; rotate_left; (focus (go_simp; exact rfl)); simp only [Act.put, List.setIfInBounds_toArray, List.set_cons_zero, List.set_cons_succ])
    refine wpHold_nil fun W hW => ?_
    by_cases he : v = u
    · have he' : (v != u) = false := by simp [he]
      have He := Lib.hid he
      clear he
      go_wp2
      go_roundw
      case rel =>
       refine ⟨k + 1, by go_num, by omega, hW, Lib.hid ?_⟩
       rw [List.take_add_one, List.take_add_one, hall.out, Hv.out, Hu.out, He.out]
      case measure => simp [intOf]; omega
    · have he' : (v != u) = true := by simpa using he
      have hz : Hid (decide (vals = want) = false) := by
       show _ = _
       refine decide_eq_false (fun e => he ?_)
       have h1 := Hv.out
       rw [e, Hu.out] at h1
       injection h1 with h1; exact h1.symm
      clear he
      go_wp2
      go_ret
      exact ⟨ret_b hz.out, S4.out _ hW⟩
  · have hge : (pos.length : Int) ≤ (k : Int) := by omega
    obtain rfl : k = pos.length := by omega
    have hz : Hid (decide (vals = want) = true) := by
     show _ = _
     have := hall.out
     rw [List.take_of_length_le (by rw [Hl.out]; exact Nat.le_refl _), List.take_of_length_le (by rw [Hne.out]; exact Nat.le_refl _)] at this
     exact decide_eq_true this
    clear hlt
    go_wp2
    go_ret
    exact ⟨ret_b hz.out, S4.out _ hSr⟩
end Go.Proofs.YtcgglolckkeeiaaGreat
namespace Go.Proofs.YtcgglolckkeeiaaGreat
set_option linter.unusedVariables false
theorem okKids_all {V : List Int} : ∀ (ks : List Tr) (want : List Int) (f : Bool), want.length = ks.length → okKids V false f ks want = decide (ks.map (ofT V) = want)
 | [], [], f, _ => by rw [okKids_nil]; simp
 | t :: ts, k :: ws, f, h => by
  rw [okKids_cons, okKids_all ts ws false (by simpa using h)]
  simp
  rw [Bool.eq_iff_iff]; simp
theorem okKids_in {V : List Int} : ∀ (ks : List Tr) (want : List Int), want.length = ks.length → okKids V true false ks want = (decide (ks.map (ofT V) = want) && ks.all fun t => t.root.tag == 20)
 | [], [], _ => by rw [okKids_nil]; simp
 | t :: ts, k :: ws, h => by
  rw [okKids_cons, okKids_in ts ws (by simpa using h)]
  simp
  rw [Bool.eq_iff_iff]; simp
  constructor
  · rintro ⟨⟨a, b⟩, c, d⟩; exact ⟨⟨a, c⟩, b, d⟩
  · rintro ⟨⟨a, c⟩, b, d⟩; exact ⟨⟨a, b⟩, c, d⟩
theorem okKids_inner {V : List Int} (ks : List Tr) (want : List Int) (h : want.length = ks.length) : okKids V true true ks want = (decide (ks.map (ofT V) = want) && blocksZ ks 1) := by
 cases ks with
 | nil =>
  have : want = [] := List.eq_nil_of_length_eq_zero h
  subst this
  rw [okKids_nil]; simp [blocksZ]
 | cons t ts =>
  cases want with
  | nil => simp at h
  | cons k ws =>
   rw [okKids_cons, okKids_in ts ws (by simpa using h)]
   unfold blocksZ
   simp only [Bool.not_true, Bool.and_false, Bool.not_false, Bool.true_or, Bool.and_true, List.drop_succ_cons, List.drop_zero, List.map_cons, List.cons.injEq]
   rw [Bool.eq_iff_iff]; simp
   constructor
   · rintro ⟨a, c, d⟩; exact ⟨⟨a, c⟩, d⟩
   · rintro ⟨⟨a, c⟩, d⟩; exact ⟨a, c, d⟩
theorem ofT_plain {V : List Int} {x : Nd} {ks : List Tr} (h : inner x = false) : ofT V (.node x ks) = if isZ V x = -1 then -1 else kindZ (decide (ks.map (ofT V) = wantZ V x ks.length)) (isZ V x) := by
 rw [ofT]
 by_cases h1 : isZ V x = -1
 · rw [if_pos (.inl h1), if_pos h1]
 · rw [if_neg h1]
   by_cases h2 : (wantZ V x ks.length).length ≠ ks.length
   · rw [if_pos (.inr h2), decide_eq_false]
     · rfl
     · intro e; rw [← e] at h2; simp at h2
   · have h2' := Classical.not_not.1 h2
     rw [if_neg (by simp [h1, h2']), h, okKids_all _ _ _ h2']
     rfl
theorem ofT_inner {V : List Int} {x : Nd} {ks : List Tr} (h : inner x = true) : ofT V (.node x ks) = kindZ (decide (ks.map (ofT V) = wantZ V x ks.length) && blocksZ ks 1) 2 := by
 have ht : x.tag = 23 ∨ x.tag = 24 := by simpa [inner] using h
 have hi : isZ V x = 2 := by unfold isZ; repeat (first | rw [if_pos (by omega)] | rw [if_neg (by omega)])
 rw [ofT, hi]
 by_cases h2 : (wantZ V x ks.length).length ≠ ks.length
 · rw [if_pos (.inr h2), decide_eq_false]
   · rfl
   · intro e; rw [← e] at h2; simp at h2
 · have h2' := Classical.not_not.1 h2
   rw [if_neg (by simp [h2']), h, okKids_inner _ _ h2']
   rfl
theorem typedZ_get {V : List Int} {n : Int} (h : 0 ≤ n) : typedZ V n = (V[n.toNat]?).getD (-1) := by
 unfold typedZ
 by_cases h1 : (V.length : Int) ≤ n
 · rw [if_pos (.inr h1), List.getElem?_eq_none (by omega)]; rfl
 · rw [if_neg (by omega), List.getElem?_eq_getElem (by omega)]; rfl
theorem plainV_typed {V : List Int} {n : Int} (h : 0 ≤ n) : plainV V n = decide (typedZ V n = 0 ∨ typedZ V n = 1) := by
 rw [typedZ_get h]; unfold plainV
 cases V[n.toNat]? with
 | none => rfl
 | some t => rw [Bool.eq_iff_iff]; simp
theorem arrayV_typed {V : List Int} {n : Int} (h : 0 ≤ n) : arrayV V n = decide (0 < sizeZ (typedZ V n)) := by
 rw [typedZ_get h]; unfold arrayV
 cases V[n.toNat]? with
 | none => rfl
 | some t => rw [Bool.eq_iff_iff]; simp [sizeZ]; split <;> omega
theorem typed_get {V : List Int} {n : Int} (h : 0 ≤ n) (hp : plainV V n = true) : (V[n.toNat]?).getD 0 = typedZ V n := by
 obtain ⟨t, ht, _⟩ := plainV_get hp
 rw [typedZ_get h, ht]; rfl
theorem InI_typed {V : List Int} {n : Int} (h : ∀ t ∈ V, InI t) : InI (typedZ V n) := by
 unfold typedZ
 split
 · unfold InI; omega
 · cases hg : V[n.toNat]? with
   | none => unfold InI; simp
   | some t => exact h t (List.mem_of_getElem? hg)
end Go.Proofs.YtcgglolckkeeiaaGreat
