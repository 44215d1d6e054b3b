/- Lemmas for CoAll. -/
import Derived.Test.YtcgglolckkeeiaaGreatZo5
import Derived.Test.YtcgglolckkeeiaaGreatZo2
import Derived.Test.YtcgglolckkeeiaaGreatZo3
import Derived.Test.YtcgglolckkeeiaaGreatZo1
import Derived.Great.BuildSlice
set_option linter.unusedVariables false
set_option linter.unusedSimpArgs false
namespace Go.Proofs.YtcgglolckkeeiaaGreat
open Go.RowKit Go.Deep
theorem RS.rb {w W : World} {M : Nat} {D : List Int} (h : RS w W M D) (hD : ∀ k, k ∈ D ↔ (1 ≤ k ∧ k ≤ 26 ∧ k ≠ 20)) : RB M W := by
 obtain ⟨es, h1, h2, h3⟩ := h.map
 subst h2
 exact ⟨es, h1, h3, hD⟩
set_option maxRecDepth 100000 in
set_option maxHeartbeats 4000000 in
theorem kOf_tree (p : PgV) (hbl : p.body.length ≤ 1000) (t : Tr) (q : Nat) (hat : At p.body q t) (w : World) (hok : p.ok w) : Calls Tryz.prog 115 #[.agg p.cells, .int .i64 (q : Int)] w fun e w' => e = .returned (.int .i64 (ofT p.V t)) ∧ Below w.heap.size w w' := by
 have Hbl := Lib.hid hbl
 have Hat := Lib.hid hat
 have Hok := Lib.hid hok
 have Hend : Hid (endZ p.body (q : Int) = ((q + t.size : Nat) : Int)) := hat.endZ
 have hpos0 : 0 ≤ ((q + t.size : Nat) : Int) := by omega
 clear hbl hat hok
 go_enter Tryz.func115, Tryz.ntmps115
 go_wp2_with (refine at_box _ _ rfl ?_)
 refine Stop.to ?_
 refine wpList_box_gen rfl 25 _ rfl p.cells rfl ?_
 intro G w1 hG r1 b1
 have b1 := (Below.refl w.heap.size w).trans (b1.mono hG)
 have c2 := r1.cellv (i := 2) (v := .slice p.ba p.body.length p.bcap) rfl
 have Hok1 := Lib.hid (Hok.out.go b1)
 clear hG Hok
 go_wp2_with fail
 refine (end_any p.ba p.bcap p.body (q : Int) w1 Hok1.out.brd Hbl.out).mono ?_
 rintro e w2 ⟨rfl, b2⟩
 rw [Hend.out]
 obtain ⟨S, hSd⟩ : ∃ S, S = (fun W => Row W G 25 p.cells ∧ p.ok W ∧ Below w.heap.size w W) := ⟨_, rfl⟩
 have stS : St S := by rw [hSd]; infer_instance
 have S0 : Hid (∀ W, S W → Row W G 25 p.cells) := by show ∀ W, _; rw [hSd]; exact fun W h => h.1
 have S1 : Hid (∀ W, S W → p.ok W) := by show ∀ W, _; rw [hSd]; exact fun W h => h.2.1
 have S2 : Hid (∀ W, S W → Below w.heap.size w W) := by show ∀ W, _; rw [hSd]; exact fun W h => h.2.2
 have hS2 : S w2 := by rw [hSd]; exact ⟨r1.below b2 r1.lt, Hok1.out.go b2, b1.trans (b2.mono b1.size)⟩
 clear hSd r1 b1 b2 c2 Hok1
 go_wp2_with fail
 refine wp_region_held (S := S) (by kernel_rfl) ?_
 simp only [List.size_toArray, List.length_cons, List.length_nil, Nat.reduceAdd, Array.replicate_succ, Array.replicate_zero, List.push_toArray, List.nil_append, List.cons_append]
 show wpAnyH _ _ _ _ _ _ _ _ w2.drew
 have hS : S w2.drew := St.drew hS2
 clear hS2
 generalize w2.drew = wd at hS ⊢
 (refine takeH (i := 0) (v := _) rfl (by kernel_rfl) (by kernel_rfl) (by kernel_rfl) (fun _ _ _ h => h) (yields_row rfl 25 _ rfl G rfl 25 p.cells _ S0.out Tryz.underlying25 rfl (by kernel_rfl)) (by assumption) ?_; simp only [Act.put, List.setIfInBounds_toArray, List.set_cons_zero, List.set_cons_succ])
 (refine takeH (i := 3) (v := .int .i64 (q : Int)) rfl (by kernel_rfl) (by kernel_rfl) (by kernel_rfl) (fun _ _ _ h => h) (yields_val rfl (fun W hW => by (go_simp))) (by assumption) ?_; simp only [Act.put, List.setIfInBounds_toArray, List.set_cons_zero, List.set_cons_succ])
 (refine wpAnyH_all (rs := [1]) (by kernel_rfl) (by simp) (fun i hi => ?_); obtain rfl : i = 1 := by simpa using hi)
 refine wpOp_plain rfl rfl (fun K2 hK2 => ?_)
 refine wp_call_gen (w1 := wd) 156 #[] (by go_simp; try rfl) ?_
 refine (rules_any wd).mono ?_
 rintro e wr ⟨M, D, rfl, hrs, hD⟩
 refine ⟨_, rfl, hK2 _ _ ?_⟩
 clear hK2 K2
 have hS := stS.go hS hrs.below
 have hrb := hrs.rb hD
 have Hrb := Lib.hid hrb
 clear hrb hrs hD
 simp only [Act.put, List.setIfInBounds_toArray, List.set_cons_zero, List.set_cons_succ]
 refine ⟨hS, ?_⟩
 (refine takeH (i := 2) (v := .agg (checkC p M)) rfl (by kernel_rfl) (by kernel_rfl) (by kernel_rfl) (fun _ _ _ h => h) (yields_val rfl (fun W hW => by (go_simp; try rfl))) (by assumption) ?_; simp only [Act.put, List.setIfInBounds_toArray, List.set_cons_zero, List.set_cons_succ])
 (refine wpAnyH_all (rs := [4]) (by kernel_rfl) (by simp) (fun i hi => ?_); obtain rfl : i = 4 := by simpa using hi)
 refine wpOp_plain rfl rfl (fun K2 hK2 => ?_)
 refine wp_call_gen (w1 := wr) 157 #[.agg (checkC p M), .int .i64 (q : Int)] (by go_simp; try rfl) ?_
 refine (of_tree p M Hbl.out t.size t q (Nat.le_refl _) Hat.out wr (S1.out _ hS) Hrb.out).mono ?_
 rintro e w6 ⟨rfl, b6⟩
 refine ⟨_, rfl, hK2 _ _ ?_⟩
 clear hK2 K2
 have hS := stS.go hS b6
 simp only [Act.put, List.setIfInBounds_toArray, List.set_cons_zero, List.set_cons_succ]
 refine ⟨hS, ?_⟩
 (refine takeH (i := 5) (v := .int .i64 (ofT p.V t)) rfl (by kernel_rfl) (by kernel_rfl) (by kernel_rfl) (fun _ _ _ h => h) (yields_val rfl (fun W hW => by (go_simp))) (by assumption) ?_; simp only [Act.put, List.setIfInBounds_toArray, List.set_cons_zero, List.set_cons_succ])
 refine wpAnyH_done (by kernel_rfl) ?_ _
 go_wp2
 go_ret
 exact ⟨rfl, S2.out _ hS⟩
end Go.Proofs.YtcgglolckkeeiaaGreat
namespace Go.Proofs.YtcgglolckkeeiaaGreat
open Go.ChangeShapes Go.WideShapes Go.RowKit Go.Deep
theorem cells_ints : Tryz.prog.cellsOf 22 = 1 := by kernel_rfl
structure IntsV where
 addr : Option Addr
 cap : Nat
 l : List Int
def IntsV.val (r : IntsV) : Value := .slice r.addr r.l.length r.cap
structure IntsV.ok (r : IntsV) (w : World) : Prop where
 len : r.l.length ≤ r.cap
 cap : r.cap ≤ maxLen
 nil : r.addr = none → r.cap = 0
 reads : Rd w r.addr (ints r.l)
 all : ∀ x ∈ r.l, InI x
theorem IntsV.ok.go {r : IntsV} {w w' : World} (h : r.ok w) (b : Below w.heap.size w w') : r.ok w' := ⟨h.len, h.cap, h.nil, h.reads.go b, h.all⟩
instance St.intsok {r : IntsV} : St (fun W => r.ok W) := ⟨fun h b => h.go b⟩
def PgV.val (p : PgV) : Value := .agg p.cells
section
variable {H : Type} {enc : TypeId × Value → H} {w : World} {base : Nat} {spare : Nat → Bool} {held : Bool}
theorem open_int1 {fuel : Nat} {cs : List Value} {x : DataW H × List MemPlace} (h : DataW.trod enc Tryz.prog w base spare held fuel 3 cs = some x) : ∃ n : Int, cs = [.int .i64 n] ∧ InI n := by
 obtain ⟨n, e, h⟩ := trod_i64 Tryz.underlying3 h
 exact ⟨n, e, h⟩
theorem ints_flat (l : List Int) : l.flatMap (fun n => [Value.int .i64 n]) = ints l := by
 induction l with
 | nil => rfl
 | cons a l ih => rw [List.flatMap_cons, ih]; rfl
set_option maxRecDepth 100000 in
theorem open_intsC {fuel : Nat} {cs : List Value} {x : DataW H × List MemPlace} (h : DataW.trod enc Tryz.prog w base spare held fuel 22 cs = some x) : ∃ r : IntsV, r.ok w ∧ cs = [r.val] := by
 obtain ⟨A, cap, xss, rfl, h1, h2, hA, h3, h4, h5⟩ := open_rows Tryz.underlying22 h
 obtain ⟨l, rfl, hok⟩ := rows_map (fun n : Int => [Value.int .i64 n]) InI xss (fun xs hxs => by obtain ⟨n, y, hy⟩ := h5 xs hxs; exact open_int1 hy)
 rw [List.length_map] at h1
 refine ⟨⟨A, cap, l⟩, ⟨h1, h2, hA, ?_, hok⟩, by rw [List.length_map]; rfl⟩
 rw [← List.flatMap_def, ints_flat] at h4
 exact h4
end
end Go.Proofs.YtcgglolckkeeiaaGreat
namespace Go.Proofs.YtcgglolckkeeiaaGreat
def cmpI (a b : Int) : Int := if a < b then -1 else if b < a then 1 else 0
def cmpL : List Int → List Int → Int
 | [], [] => 0
 | [], _ :: _ => -1
 | _ :: _, [] => 1
 | a :: xs, b :: ys => if cmpI a b ≠ 0 then cmpI a b else cmpL xs ys
structure Dl where
 path : List Int
 op : Int
 n : Int
def orI (a b : Int) : Int := if a ≠ 0 then a else b
def cmpD (d e : Dl) : Int := orI (cmpL d.path e.path) (orI (cmpI d.op e.op) (cmpI d.n e.n))
theorem cmpI_self (a : Int) : cmpI a a = 0 := by unfold cmpI; rw [if_neg (by omega), if_neg (by omega)]
theorem cmpI_eq {a b : Int} : cmpI a b = 0 ↔ a = b := by
 unfold cmpI
 constructor
 · intro h; split at h
   · cases h
   · split at h
     · cases h
     · omega
 · rintro rfl; rw [if_neg (by omega), if_neg (by omega)]
theorem cmpI_lt {a b : Int} : cmpI a b < 0 ↔ a < b := by
 unfold cmpI
 split
 · simp_all
 · split <;> simp <;> omega
theorem cmpI_neg (a b : Int) : cmpI b a = -cmpI a b := by
 unfold cmpI
 repeat' split
 all_goals omega
theorem cmpI_bd (a b : Int) : cmpI a b = -1 ∨ cmpI a b = 0 ∨ cmpI a b = 1 := by
 unfold cmpI
 repeat' split
 all_goals simp
theorem cmpL_self : ∀ a : List Int, cmpL a a = 0
 | [] => rfl
 | x :: xs => by rw [cmpL, cmpI_self, if_neg (by simp), cmpL_self xs]
theorem cmpL_eq : ∀ {a b : List Int}, cmpL a b = 0 ↔ a = b
 | [], [] => by simp [cmpL]
 | [], _ :: _ => by simp [cmpL]
 | _ :: _, [] => by simp [cmpL]
 | a :: xs, b :: ys => by
  rw [cmpL]
  by_cases h : cmpI a b = 0
  · rw [if_neg (by simpa using h), cmpL_eq, cmpI_eq.1 h]; simp
  · rw [if_pos h]
    constructor
    · intro e; exact absurd e h
    · intro e; injection e with e1 e2; exact absurd (cmpI_eq.2 e1) h
theorem cmpL_neg : ∀ (a b : List Int), cmpL b a = -cmpL a b
 | [], [] => by simp [cmpL]
 | [], _ :: _ => by simp [cmpL]
 | _ :: _, [] => by simp [cmpL]
 | a :: xs, b :: ys => by
  rw [cmpL, cmpL, cmpI_neg a b]
  by_cases h : cmpI a b = 0
  · rw [if_neg (by omega), if_neg (by omega), cmpL_neg xs ys]
  · rw [if_pos (by omega), if_pos h]
theorem cmpL_bd : ∀ (a b : List Int), cmpL a b = -1 ∨ cmpL a b = 0 ∨ cmpL a b = 1
 | [], [] => by simp [cmpL]
 | [], _ :: _ => by simp [cmpL]
 | _ :: _, [] => by simp [cmpL]
 | a :: xs, b :: ys => by
  rw [cmpL]
  split
  · exact cmpI_bd a b
  · exact cmpL_bd xs ys
theorem cmpL_trans : ∀ {a b c : List Int}, cmpL a b < 0 → cmpL b c < 0 → cmpL a c < 0
 | [], [], _, h, _ => by simp [cmpL] at h
 | [], b :: ys, [], _, h => by simp [cmpL] at h
 | [], b :: ys, c :: zs, _, _ => by simp [cmpL]
 | a :: xs, [], _, h, _ => by simp [cmpL] at h
 | a :: xs, b :: ys, [], _, h => by simp [cmpL] at h
 | a :: xs, b :: ys, c :: zs, h1, h2 => by
  rw [cmpL] at h1 h2 ⊢
  by_cases e1 : cmpI a b = 0
  · rw [if_neg (by simpa using e1)] at h1
    have := cmpI_eq.1 e1
    subst this
    by_cases e2 : cmpI a c = 0
    · rw [if_neg (by simpa using e2)] at h2 ⊢
      exact cmpL_trans h1 h2
    · rw [if_pos e2] at h2 ⊢
      exact h2
  · rw [if_pos e1] at h1
    by_cases e2 : cmpI b c = 0
    · have := cmpI_eq.1 e2
      subst this
      rw [if_pos e1]; exact h1
    · rw [if_pos e2] at h2
      have h3 : cmpI a c < 0 := cmpI_lt.2 (Int.lt_trans (cmpI_lt.1 h1) (cmpI_lt.1 h2))
      rw [if_pos (by omega)]; exact h3
theorem orI_eq {a b : Int} : orI a b = 0 ↔ a = 0 ∧ b = 0 := by
 unfold orI
 split
 · rename_i h; exact ⟨fun e => absurd e h, fun e => e.1⟩
 · rename_i h; exact ⟨fun e => ⟨by omega, e⟩, fun e => e.2⟩
theorem cmpD_eq {d e : Dl} : cmpD d e = 0 ↔ d = e := by
 unfold cmpD
 rw [orI_eq, orI_eq, cmpL_eq, cmpI_eq, cmpI_eq]
 cases d; cases e
 simp
theorem cmpD_self (d : Dl) : cmpD d d = 0 := cmpD_eq.2 rfl
theorem orI_neg (a b : Int) : orI (-a) (-b) = -orI a b := by
 unfold orI
 by_cases h : a = 0
 · rw [if_neg (by omega), if_neg (by omega)]
 · rw [if_pos (by omega), if_pos h]
theorem cmpD_neg (d e : Dl) : cmpD e d = -cmpD d e := by
 unfold cmpD
 rw [cmpL_neg, cmpI_neg d.op, cmpI_neg d.n, orI_neg, orI_neg]
theorem orI_bd {a b : Int} (h1 : a = -1 ∨ a = 0 ∨ a = 1) (h2 : b = -1 ∨ b = 0 ∨ b = 1) : orI a b = -1 ∨ orI a b = 0 ∨ orI a b = 1 := by
 unfold orI; split <;> assumption
theorem cmpD_bd (d e : Dl) : cmpD d e = -1 ∨ cmpD d e = 0 ∨ cmpD d e = 1 := orI_bd (cmpL_bd _ _) (orI_bd (cmpI_bd _ _) (cmpI_bd _ _))
theorem cmpD_trans {d e f : Dl} (h1 : cmpD d e < 0) (h2 : cmpD e f < 0) : cmpD d f < 0 := by
 unfold cmpD orI at *
 by_cases a1 : cmpL d.path e.path = 0
 · rw [if_neg (by simpa using a1)] at h1
   rw [cmpL_eq.1 a1]
   by_cases a2 : cmpL e.path f.path = 0
   · rw [if_neg (by simpa using a2)] at h2 ⊢
     by_cases b1 : cmpI d.op e.op = 0
     · rw [if_neg (by simpa using b1)] at h1
       rw [cmpI_eq.1 b1]
       by_cases b2 : cmpI e.op f.op = 0
       · rw [if_neg (by simpa using b2)] at h2 ⊢
         exact cmpI_lt.2 (Int.lt_trans (cmpI_lt.1 h1) (cmpI_lt.1 h2))
       · rw [if_pos b2] at h2 ⊢; exact h2
     · rw [if_pos b1] at h1
       by_cases b2 : cmpI e.op f.op = 0
       · rw [← cmpI_eq.1 b2, if_pos b1]; exact h1
       · rw [if_pos b2] at h2
         have h3 : cmpI d.op f.op < 0 := cmpI_lt.2 (Int.lt_trans (cmpI_lt.1 h1) (cmpI_lt.1 h2))
         rw [if_pos (by omega)]; exact h3
   · rw [if_pos a2] at h2 ⊢; exact h2
 · rw [if_pos a1] at h1
   by_cases a2 : cmpL e.path f.path = 0
   · rw [← cmpL_eq.1 a2, if_pos a1]; exact h1
   · rw [if_pos a2] at h2
     have h3 := cmpL_trans h1 h2
     rw [if_pos (by omega)]; exact h3
def riseD : List Dl → Prop
 | [] => True
 | [_] => True
 | a :: b :: l => cmpD a b < 0 ∧ riseD (b :: l)
theorem riseD_tail {a : Dl} {l : List Dl} (h : riseD (a :: l)) : riseD l := by
 cases l with
 | nil => trivial
 | cons b l => exact h.2
theorem riseD_head : ∀ {l : List Dl} {a b : Dl}, riseD (a :: l) → b ∈ l → cmpD a b < 0
 | [], _, _, _, h => by simp at h
 | c :: l, a, b, hr, h => by
  rcases List.mem_cons.1 h with rfl | h
  · exact hr.1
  · exact cmpD_trans hr.1 (riseD_head hr.2 h)
theorem riseD_get : ∀ {l : List Dl} {i j : Nat} {a b : Dl}, riseD l → l[i]? = some a → l[j]? = some b → i < j → cmpD a b < 0
 | [], _, _, _, _, _, h, _, _ => by simp at h
 | c :: l, 0, 0, _, _, _, _, _, h => by omega
 | c :: l, 0, j + 1, a, b, hr, h1, h2, _ => by
  simp at h1 h2
  subst h1
  exact riseD_head hr (List.mem_of_getElem? h2)
 | c :: l, i + 1, 0, _, _, _, _, _, h => by omega
 | c :: l, i + 1, j + 1, a, b, hr, h1, h2, h => riseD_get (riseD_tail hr) (by simpa using h1) (by simpa using h2) (by omega)
end Go.Proofs.YtcgglolckkeeiaaGreat
namespace Go.Proofs.YtcgglolckkeeiaaGreat
open Go.RowKit Go.Deep
theorem ret_i' {a b : Int} (h : a = b) : Ending.returned (.int .i64 a) = .returned (.int .i64 b) := by rw [h]
theorem nan_any (a : Int) (w : World) : Calls Tryz.prog 111 #[.int .i64 a] w fun e w' => e = .returned (.bool false) ∧ w = w' := by
 have h : (a != a) = false := by simp
 go_enter Tryz.func111, Tryz.ntmps111
 go_wp2
 go_ret
 exact ⟨ret_b (by simp), rfl⟩
set_option maxRecDepth 100000 in
theorem cmpI_any (a b : Int) (w : World) : Calls Tryz.prog 61 #[.int .i64 a, .int .i64 b] w fun e w' => e = .returned (.int .i64 (cmpI a b)) ∧ w = w' := by
 go_enter Tryz.func61, Tryz.ntmps61
 go_wp2_with fail
 refine (nan_any _ _).mono ?_
 rintro e w1 ⟨rfl, rfl⟩
 go_wp2_with fail
 refine (nan_any _ _).mono ?_
 rintro e w1 ⟨rfl, rfl⟩
 by_cases h1 : a < b
 · go_wp2
   go_ret
   exact ⟨ret_i' (by unfold cmpI; rw [if_pos h1]), rfl⟩
 · by_cases h2 : b < a
   · go_wp2
     go_ret
     exact ⟨ret_i' (by unfold cmpI; rw [if_neg (show ¬ a < b by omega), if_pos (show b < a by omega)]), rfl⟩
   · go_wp2
     go_ret
     exact ⟨ret_i' (by unfold cmpI; rw [if_neg (show ¬ a < b by omega), if_neg (show ¬ b < a by omega)]), rfl⟩
theorem cmpL_step {a b : List Int} {k : Nat} {x y : Int} (h : a.take k = b.take k) (hx : a[k]? = some x) (hy : b[k]? = some y) (hc : cmpI x y ≠ 0) : cmpL a b = cmpI x y := by
 have ha : a = a.take k ++ x :: a.drop (k + 1) := by
  obtain ⟨hl, e⟩ := List.getElem?_eq_some_iff.1 hx
  rw [← e, ← List.drop_eq_getElem_cons hl, List.take_append_drop]
 have hb : b = b.take k ++ y :: b.drop (k + 1) := by
  obtain ⟨hl, e⟩ := List.getElem?_eq_some_iff.1 hy
  rw [← e, ← List.drop_eq_getElem_cons hl, List.take_append_drop]
 rw [ha, hb, h]
 generalize b.take k = c
 clear h ha hb hx hy
 induction c with
 | nil => rw [List.nil_append, List.nil_append, cmpL, if_pos hc]
 | cons z c ih => rw [List.cons_append, List.cons_append, cmpL, cmpI_self, if_neg (by simp)]; exact ih
theorem cmpL_end : ∀ {a b : List Int} {k : Nat}, a.take k = b.take k → (k = a.length ∨ k = b.length) → k ≤ a.length → k ≤ b.length → cmpL a b = cmpI (a.length : Int) (b.length : Int)
 | [], [], _, _, _, _, _ => by simp [cmpL, cmpI]
 | [], _ :: _, _, _, _, _, _ => by simp [cmpL, cmpI] <;> omega
 | _ :: _, [], _, _, _, _, _ => by simp [cmpL, cmpI] <;> omega
 | x :: xs, y :: ys, 0, h, hk, _, _ => by simp at hk
 | x :: xs, y :: ys, k + 1, h, hk, h1, h2 => by
  simp only [List.take_succ_cons, List.cons.injEq] at h
  obtain ⟨rfl, h⟩ := h
  rw [cmpL, cmpI_self, if_neg (by simp), cmpL_end h (by simpa using hk) (by simpa using h1) (by simpa using h2)]
  unfold cmpI
  simp only [List.length_cons]
  repeat' split
  all_goals omega
set_option maxRecDepth 100000 in
set_option maxHeartbeats 2000000 in
theorem pathCmp_any (A B : Option Addr) (c d : Nat) (a b : List Int) (w : World) (ha : Rd w A (ints a)) (hb : Rd w B (ints b)) (hla : a.length ≤ 1000000) (hlb : b.length ≤ 1000000) :
 Calls Tryz.prog 60 #[.slice A a.length c, .slice B b.length d] w fun e w' => e = .returned (.int .i64 (cmpL a b)) ∧ Below w.heap.size w w' := by
 obtain ⟨S, hSd⟩ : ∃ S, S = (fun W => Rd W A (ints a) ∧ Rd W B (ints b) ∧ Below w.heap.size w W) := ⟨_, rfl⟩
 have stS : St S := by rw [hSd]; infer_instance
 have S0' : Hid (∀ W, S W → Rd W A (ints a)) := by show ∀ W, _; rw [hSd]; exact fun W h => h.1
 have S1' : Hid (∀ W, S W → Rd W B (ints b)) := by show ∀ W, _; rw [hSd]; exact fun W h => h.2.1
 have S2' : Hid (∀ W, S W → Below w.heap.size w W) := by show ∀ W, _; rw [hSd]; exact fun W h => h.2.2
 have hS : S w := by rw [hSd]; exact ⟨ha, hb, Below.refl _ _⟩
 clear hSd ha hb
 obtain ⟨m, hm⟩ : ∃ m : Nat, m = Nat.min a.length b.length := ⟨_, rfl⟩
 have hm1 : m ≤ a.length ∧ m ≤ b.length ∧ (m = a.length ∨ m = b.length) := by
  have h : m = min a.length b.length := hm
  omega
 clear hm
 go_enter Tryz.func60, Tryz.ntmps60
 go_wp2_with fail
 all_goals
  go_loopw [12] (fun i wr => ∃ k : Nat, i = .int .i64 (k : Int) ∧ k ≤ m ∧ Hid (a.take k = b.take k) ∧ S wr) (fun i _ => m - (intOf i).toNat)
  case atStart => exact ⟨0, by simp, Nat.zero_le _, by simp [Hid], hS⟩
  case round =>
   clear hS
   obtain ⟨k, rfl, hk, Hk, hS⟩ := hrel
   by_cases hkn : k < m
   · have hkn' : (k : Int) < (m : Int) := by omega
     obtain ⟨e, he⟩ : ∃ e, a[k]? = some e := ⟨_, List.getElem?_eq_getElem (by omega)⟩
     obtain ⟨f, hf⟩ : ∃ f, b[k]? = some f := ⟨_, List.getElem?_eq_getElem (by omega)⟩
     obtain ⟨ad, had, _⟩ := int_at (S0'.out _ hS) he
     obtain ⟨bd, hbd, _⟩ := int_at (S1'.out _ hS) hf
     subst had hbd
     have Hca : Hid (∀ W, S W → W.cell? (ad.add k) = some (.int .i64 e)) := fun W h => by
      obtain ⟨ad', h1, h2⟩ := int_at (S0'.out _ h) he
      injection h1 with h1; subst h1; exact h2
     have Hcb : Hid (∀ W, S W → W.cell? (bd.add k) = some (.int .i64 f)) := fun W h => by
      obtain ⟨ad', h1, h2⟩ := int_at (S1'.out _ h) hf
      injection h1 with h1; subst h1; exact h2
     have He := Lib.hid he
     have Hf := Lib.hid hf
     have hka : (k : Int) < (a.length : Int) := by omega
     have hkb : (k : Int) < (b.length : Int) := by omega
     have ewk : IntKind.i64.wrap ((k : Int) + 1) = (k : Int) + 1 := IntWalk.i64_in _ (by omega)
     clear he hf
     go_wp2_with fail
     refine region_hold S (by kernel_rfl) (by kernel_rfl) (St.drew hS) ?_
     clear hS
     iterate 3 (refine hold_value rfl ?_ (fun W hW => ?_) ?_; rotate_left; (focus (go_simp; exact rfl)); simp only [Act.put, List.setIfInBounds_toArray, List.set_cons_zero, List.set_cons_succ])
     (refine hold_value rfl ?_ (fun W hW => ?_) ?_; rotate_left; (focus (have c := Hca.out W hW; go_simp; exact rfl)); simp only [Act.put, List.setIfInBounds_toArray, List.set_cons_zero, List.set_cons_succ])
     iterate 3 (refine hold_value rfl ?_ (fun W hW => ?_) ?_; rotate_left; (focus (go_simp; exact rfl)); simp only [Act.put, List.setIfInBounds_toArray, List.set_cons_zero, List.set_cons_succ])
     (refine hold_value rfl ?_ (fun W hW => ?_) ?_; rotate_left; (focus (have c := Hcb.out W hW; go_simp; exact rfl)); simp only [Act.put, List.setIfInBounds_toArray, List.set_cons_zero, List.set_cons_succ])
     (refine hold_call_new rfl 61 _ (fun W => by (go_simp; try rfl)) (.int .i64 (cmpI e f)) (fun W hW => (cmpI_any e f W).mono fun e w' h => ⟨h.1, by rw [← h.2]; exact Below.refl _ _⟩) ?_; simp only [Act.put, List.setIfInBounds_toArray, List.set_cons_zero, List.set_cons_succ])
     (refine hold_value rfl ?_ (fun W hW => ?_) ?_; rotate_left; (focus (go_simp; exact rfl)); simp only [Act.put, List.setIfInBounds_toArray, List.set_cons_zero, List.set_cons_succ])
     refine wpHold_nil fun W hS => ?_
     by_cases hef : cmpI e f = 0
     · have hnn : (cmpI e f != 0) = false := by simp [hef]
       have Hst : Hid (a.take (k + 1) = b.take (k + 1)) := by
        show _ = _
        rw [List.take_add_one, List.take_add_one, Hk.out, He.out, Hf.out, cmpI_eq.1 hef]
       clear Hca Hcb He Hf Hk hef
       go_wp2_with fail
       go_roundw
       case rel => exact ⟨k + 1, by go_num, by omega, Hst, hS⟩
       case measure => simp [intOf]; omega
     · have hnn : (cmpI e f != 0) = true := by simpa using hef
       have Hc := Lib.hid (cmpL_step Hk.out He.out Hf.out hef)
       clear Hca Hcb He Hf Hk hef
       go_wp2_with fail
       go_ret
       exact ⟨ret_i' Hc.out.symm, S2'.out _ hS⟩
   · obtain rfl : k = m := by omega
     have Hc := Lib.hid (cmpL_end Hk.out hm1.2.2 hm1.1 hm1.2.1)
     (first | have hkm : ¬ ((k : Int) < (b.length : Int)) := by omega | have hkm : ¬ ((k : Int) < (a.length : Int)) := by omega)
     clear hkn hk Hk
     go_wp2_with fail
     refine (cmpI_any _ _ _).mono ?_
     rintro e w1 ⟨rfl, rfl⟩
     go_wp2_with fail
     go_ret
     exact ⟨ret_i' Hc.out.symm, S2'.out _ hS⟩
end Go.Proofs.YtcgglolckkeeiaaGreat
namespace Go.Proofs.YtcgglolckkeeiaaGreat
open Go.RowKit Go.Deep
theorem hold_load_at {P : Program} {ops : Array Oper} {S : World → Prop} {Q : Act → Prop} {a : Act} {o : Oper} {rest : List Oper} (hw : Region.wanted o (yielded ops a.tmps) = true) (ty : TypeId) (x : Operand) (ho : o.op = .load ty x) (ad : Addr) (hx : a.eval x = .pointer (some ad)) (cs : List Value) (d : TypeDesc)
 (hr : ∀ W, S W → ∀ j v, cs[j]? = some v → W.cell? (ad.add j) = some v) (hu : P.underlying ty = some d) (hd : (match d with | .struct _ | .array _ _ => true | _ => false) = true) (hi : (P.info? ty).map (·.size) = some cs.length)
 (h : wpHold P ops S Q rest (a.put o.dst (.agg cs.toArray))) : wpHold P ops S Q (o :: rest) a :=
 hold_value hw (.agg cs.toArray) (fun W hW => by
  simp only [execOp, ho, hx, Instr.loadAt, Instr.sureAddr, Sem.run_bind, Sem.run_pure, Result.andThen_ok, run_loadVar_at W ad ty cs d (hr W hW) hu hd hi]) h
end Go.Proofs.YtcgglolckkeeiaaGreat
namespace Go.Proofs.YtcgglolckkeeiaaGreat
open Go.RowKit
section
variable {P : Program} {ops : Array Oper} {rest : List Oper} {o : Oper} {a : Act} {w : World} {Q : Exit → Act → World → Prop}
theorem wpList_hold (S : World → Prop) (hS : S w) : ∀ (n : Nat) (l : List Oper) (a : Act) (w : World), S w → wpHold P ops S (fun a' => ∀ W, S W → wpList P ops Q (l.drop n) a' W) (l.take n) a → wpList P ops Q l a w := by
 intro n
 induction n with
 | zero => intro l a w hS h; exact h w hS
 | succ n ih =>
  intro l a w hS h
  cases l with
  | nil => exact h w hS
  | cons o l =>
   obtain ⟨v, hy, hh⟩ := h
   refine wpList_step fun K hK => ?_
   rcases hy with ⟨hw, hv⟩ | ⟨hw, rfl⟩
   · rw [if_pos hw]
     have h1 := hv w hS
     unfold Oper.wp
     generalize (execOp a.eval o).run P w = r at h1
     cases r with
     | ok n' w' =>
      cases n' <;> simp only [holdUpon] at h1 <;> simp only [Oper.upon]
      case value u => obtain ⟨rfl, h2⟩ := h1; exact hK _ _ (ih l _ _ h2 hh)
      case skip => obtain ⟨rfl, h2⟩ := h1; exact hK _ _ (ih l _ _ h2 hh)
      case enter f args => exact h1.mono fun e w'' ⟨he, hs⟩ => by subst he; exact hK _ _ (ih l _ _ hs hh)
     | halt x w' => simp only [holdUpon] at h1
   · rw [if_neg (by rw [hw]; simp)]
     exact hK _ _ (ih l _ _ hS hh)
theorem wpList_holdN (S : World → Prop) (n : Nat) {l : List Oper} (hS : S w) (h : wpHold P ops S (fun a' => ∀ W, S W → wpList P ops Q (l.drop n) a' W) (l.take n) a) : wpList P ops Q l a w := wpList_hold S hS n l a w hS h
theorem at_load (ty : TypeId) (x : Operand) (_ : o.op = .load ty x) (h : Stop (wpList P ops Q (o :: rest) a w) id) : wpList P ops Q (o :: rest) a w := h.out
theorem at_slice (t : TypeId) (n : Nat) (ps : Array (Nat × Operand)) (_ : o.op = .buildSlice t n ps) (h : Stop (wpList P ops Q (o :: rest) a w) id) : wpList P ops Q (o :: rest) a w := h.out
theorem at_any (h : Stop (wpList P ops Q (o :: rest) a w) id) : wpList P ops Q (o :: rest) a w := h.out
theorem wpList_slice_gen (hw : Region.wanted o (yielded ops a.tmps) = true) (t : TypeId) (n : Nat) (ps : Array (Nat × Operand)) (ho : o.op = .buildSlice t n ps) (e : TypeId) (cells : Array Value)
 (hx : ∀ W, (Instr.buildSlice t n (ps.map fun (i, x) => (i, a.eval x))).run P W = .ok (.slice (some ⟨W.heap.size, 0, none⟩) n n) (W.alloc (.cells cells e)))
 (h : ∀ g w', w.heap.size ≤ g → Row w' g e cells → Below g w w' → wpList P ops Q rest (a.put o.dst (.slice (some ⟨g, 0, none⟩) n n)) w') : wpList P ops Q (o :: rest) a w := by
 refine BigFrame.wpList_want hw fun K hK => ?_
 unfold Oper.wp execOp
 simp only [ho, Sem.run_bind, hx, Result.andThen_ok, Sem.run_pure]
 exact hK _ _ (h _ _ (Nat.le_refl _) (Row.new _ _ _) ((Below.refl _ _).alloc (Nat.le_refl _) _))
theorem bs_run {t e : TypeId} {n sz : Nat} {z : Value} {parts : Array (Nat × Value)} {cells : Array Value} (hu : P.underlying t = some (.slice e)) (hi : (P.info? e).map (fun i => (i.zero, i.size)) = some (some z, sz)) (h1 : n * sz ≤ 2 ^ 24) (h2 : n * sz ≠ 0)
 (hf : Instr.fill (fun i => some (i * sz, sz)) ((Array.range (n * sz)).map (z.cells[· % z.cells.size]!)) parts.toList = some cells) : ∀ W, (Instr.buildSlice t n parts).run P W = .ok (.slice (some ⟨W.heap.size, 0, none⟩) n n) (W.alloc (.cells cells e)) := by
 intro W
 cases hq : P.info? e with
 | none => rw [hq] at hi; cases hi
 | some ie =>
  rw [hq] at hi
  simp only [Option.map_some, Option.some.injEq, Prod.mk.injEq] at hi
  obtain ⟨hz, rfl⟩ := hi
  exact run_buildSlice W t e n parts cells ie z hu hq hz (by omega) h2 hf
end
end Go.Proofs.YtcgglolckkeeiaaGreat
namespace Go.Proofs.YtcgglolckkeeiaaGreat
open Go.RowKit Go.Deep
set_option maxRecDepth 100000 in
set_option maxHeartbeats 2000000 in
theorem refCmp_any (A B : Option Addr) (c d : Nat) (a b : List Int) (w : World) (ha : Rd w A (ints a)) (hb : Rd w B (ints b)) (hla : a.length ≤ 1000000) (hlb : b.length ≤ 1000000) :
 Calls Tryz.prog 109 #[.slice A a.length c, .slice B b.length d] w fun e w' => e = .returned (.int .i64 (cmpL a b)) ∧ Below w.heap.size w w' := by
 obtain ⟨S, hSd⟩ : ∃ S, S = (fun W => Rd W A (ints a) ∧ Rd W B (ints b) ∧ Below w.heap.size w W) := ⟨_, rfl⟩
 have stS : St S := by rw [hSd]; infer_instance
 have S0' : Hid (∀ W, S W → Rd W A (ints a)) := by show ∀ W, _; rw [hSd]; exact fun W h => h.1
 have S1' : Hid (∀ W, S W → Rd W B (ints b)) := by show ∀ W, _; rw [hSd]; exact fun W h => h.2.1
 have S2' : Hid (∀ W, S W → Below w.heap.size w W) := by show ∀ W, _; rw [hSd]; exact fun W h => h.2.2
 have hS : S w := by rw [hSd]; exact ⟨ha, hb, Below.refl _ _⟩
 clear hSd ha hb
 go_enter Tryz.func109, Tryz.ntmps109
 go_wp2_with fail
 go_loopw [5] (fun i wr => ∃ k : Nat, i = .int .i64 (k : Int) ∧ k ≤ a.length ∧ k ≤ b.length ∧ Hid (a.take k = b.take k) ∧ S wr) (fun i _ => a.length - (intOf i).toNat)
 case atStart => exact ⟨0, by simp, Nat.zero_le _, Nat.zero_le _, by simp [Hid], hS⟩
 case round =>
  clear hS
  obtain ⟨k, rfl, hk1, hk2, Hk, hS⟩ := hrel
  by_cases hkn : k < a.length ∧ k < b.length
  · obtain ⟨hk3, hk4⟩ := hkn
    obtain ⟨e, he⟩ : ∃ e, a[k]? = some e := ⟨_, List.getElem?_eq_getElem (by omega)⟩
    obtain ⟨f, hf⟩ : ∃ f, b[k]? = some f := ⟨_, List.getElem?_eq_getElem (by omega)⟩
    obtain ⟨ad, had, _⟩ := int_at (S0'.out _ hS) he
    obtain ⟨bd, hbd, _⟩ := int_at (S1'.out _ hS) hf
    subst had hbd
    have Hca : Hid (∀ W, S W → W.cell? (ad.add k) = some (.int .i64 e)) := fun W h => by
     obtain ⟨ad', h1, h2⟩ := int_at (S0'.out _ h) he
     injection h1 with h1; subst h1; exact h2
    have Hcb : Hid (∀ W, S W → W.cell? (bd.add k) = some (.int .i64 f)) := fun W h => by
     obtain ⟨ad', h1, h2⟩ := int_at (S1'.out _ h) hf
     injection h1 with h1; subst h1; exact h2
    have He := Lib.hid he
    have Hf := Lib.hid hf
    have hka : (k : Int) < (a.length : Int) := by omega
    have hkb : (k : Int) < (b.length : Int) := by omega
    have ewk : IntKind.i64.wrap ((k : Int) + 1) = (k : Int) + 1 := IntWalk.i64_in _ (by omega)
    clear he hf
    go_wp2_with fail
    refine region_hold S (by kernel_rfl) (by kernel_rfl) (St.drew hS) ?_
    clear hS
    iterate 3 (refine hold_value rfl ?_ (fun W hW => ?_) ?_; rotate_left; (focus (go_simp; exact rfl)); simp only [Act.put, List.setIfInBounds_toArray, List.set_cons_zero, List.set_cons_succ])
    (refine hold_value rfl ?_ (fun W hW => ?_) ?_; rotate_left; (focus (have c := Hca.out W hW; go_simp; exact rfl)); simp only [Act.put, List.setIfInBounds_toArray, List.set_cons_zero, List.set_cons_succ])
    iterate 3 (refine hold_value rfl ?_ (fun W hW => ?_) ?_; rotate_left; (focus (go_simp; exact rfl)); simp only [Act.put, List.setIfInBounds_toArray, List.set_cons_zero, List.set_cons_succ])
    (refine hold_value rfl ?_ (fun W hW => ?_) ?_; rotate_left; (focus (have c := Hcb.out W hW; go_simp; exact rfl)); simp only [Act.put, List.setIfInBounds_toArray, List.set_cons_zero, List.set_cons_succ])
    (refine hold_value rfl ?_ (fun W hW => ?_) ?_; rotate_left; (focus (go_simp; exact rfl)); simp only [Act.put, List.setIfInBounds_toArray, List.set_cons_zero, List.set_cons_succ])
    refine wpHold_nil fun W hS => ?_
    by_cases h1 : e < f
    · have hc : cmpI e f = -1 := by unfold cmpI; rw [if_pos (by omega)]
      have Hc := Lib.hid (cmpL_step Hk.out He.out Hf.out (by omega))
      rw [hc] at Hc
      clear Hca Hcb He Hf Hk hc
      go_wp2_with fail
      go_ret
      exact ⟨ret_i' Hc.out.symm, S2'.out _ hS⟩
    have h1' : f ≤ e := by omega
    go_wp2_with fail
    refine region_hold S (by kernel_rfl) (by kernel_rfl) (St.drew hS) ?_
    clear hS
    iterate 3 (refine hold_value rfl ?_ (fun W hW => ?_) ?_; rotate_left; (focus (go_simp; exact rfl)); simp only [Act.put, List.setIfInBounds_toArray, List.set_cons_zero, List.set_cons_succ])
    (refine hold_value rfl ?_ (fun W hW => ?_) ?_; rotate_left; (focus (have c := Hca.out W hW; go_simp; exact rfl)); simp only [Act.put, List.setIfInBounds_toArray, List.set_cons_zero, List.set_cons_succ])
    iterate 3 (refine hold_value rfl ?_ (fun W hW => ?_) ?_; rotate_left; (focus (go_simp; exact rfl)); simp only [Act.put, List.setIfInBounds_toArray, List.set_cons_zero, List.set_cons_succ])
    (refine hold_value rfl ?_ (fun W hW => ?_) ?_; rotate_left; (focus (have c := Hcb.out W hW; go_simp; exact rfl)); simp only [Act.put, List.setIfInBounds_toArray, List.set_cons_zero, List.set_cons_succ])
    (refine hold_value rfl ?_ (fun W hW => ?_) ?_; rotate_left; (focus (go_simp; exact rfl)); simp only [Act.put, List.setIfInBounds_toArray, List.set_cons_zero, List.set_cons_succ])
    refine wpHold_nil fun W hS => ?_
    by_cases h2 : f < e
    · have hc : cmpI e f = 1 := by unfold cmpI; rw [if_neg (by omega), if_pos (by omega)]
      have Hc := Lib.hid (cmpL_step Hk.out He.out Hf.out (by omega))
      rw [hc] at Hc
      clear Hca Hcb He Hf Hk hc
      go_wp2_with fail
      go_ret
      exact ⟨ret_i' Hc.out.symm, S2'.out _ hS⟩
    have Hst : Hid (a.take (k + 1) = b.take (k + 1)) := by
     show _ = _
     rw [List.take_add_one, List.take_add_one, Hk.out, He.out, Hf.out, show e = f by omega]
    clear Hca Hcb He Hf Hk
    go_wp2_with fail
    go_roundw
    case rel => exact ⟨k + 1, by go_num, by omega, by omega, Hst, hS⟩
    case measure => simp [intOf]; omega
  · have hor : k = a.length ∨ k = b.length := by omega
    have Hc := Lib.hid (cmpL_end Hk.out hor hk1 hk2)
    clear Hk
    have hka : ¬ ((k : Int) < (a.length : Int)) ∨ ¬ ((k : Int) < (b.length : Int)) := by omega
    have hfin : ∀ W, S W → True := fun _ _ => trivial
    clear hfin
    by_cases g1 : (k : Int) < (a.length : Int)
    · have g2 : ¬ ((k : Int) < (b.length : Int)) := by omega
      have g3 : ¬ ((a.length : Int) < (b.length : Int)) := by omega
      have g4 : (b.length : Int) < (a.length : Int) := by omega
      have hc : cmpI (a.length : Int) (b.length : Int) = 1 := by unfold cmpI; rw [if_neg (by omega), if_pos (by omega)]
      rw [hc] at Hc
      clear hkn hor hka hc
      go_wp2_with fail
      go_ret
      exact ⟨ret_i' Hc.out.symm, S2'.out _ hS⟩
    · by_cases g3 : (a.length : Int) < (b.length : Int)
      · have hc : cmpI (a.length : Int) (b.length : Int) = -1 := by unfold cmpI; rw [if_pos (by omega)]
        rw [hc] at Hc
        clear hkn hor hka hc
        go_wp2_with fail
        go_ret
        exact ⟨ret_i' Hc.out.symm, S2'.out _ hS⟩
      · have g4 : ¬ ((b.length : Int) < (a.length : Int)) := by omega
        have hc : cmpI (a.length : Int) (b.length : Int) = 0 := by unfold cmpI; rw [if_neg (by omega), if_neg (by omega)]
        rw [hc] at Hc
        clear hkn hor hka hc
        go_wp2_with fail
        go_ret
        exact ⟨ret_i' Hc.out.symm, S2'.out _ hS⟩
theorem less_any (a b : Int) (w : World) : Calls Tryz.prog 110 #[.int .i64 a, .int .i64 b] w fun e w' => e = .returned (.int .i64 (cmpI a b)) ∧ w = w' := by
 by_cases h1 : a < b
 · go_enter Tryz.func110, Tryz.ntmps110
   go_wp2
   go_ret
   exact ⟨ret_i' (by unfold cmpI; rw [if_pos (by omega)]), rfl⟩
 · by_cases h2 : b < a
   · go_enter Tryz.func110, Tryz.ntmps110
     go_wp2
     go_ret
     exact ⟨ret_i' (by unfold cmpI; rw [if_neg (by omega), if_pos (by omega)]), rfl⟩
   · go_enter Tryz.func110, Tryz.ntmps110
     go_wp2
     go_ret
     exact ⟨ret_i' (by unfold cmpI; rw [if_neg (by omega), if_neg (by omega)]), rfl⟩
end Go.Proofs.YtcgglolckkeeiaaGreat
namespace Go.Proofs.YtcgglolckkeeiaaGreat
open Go.RowKit Go.Deep
def orL : List Int → Int
 | [] => 0
 | x :: l => if x = 0 then orL l else x
theorem orL_drop {a : List Int} {k : Nat} {e : Int} (h : a[k]? = some e) : orL (a.drop k) = if e = 0 then orL (a.drop (k + 1)) else e := by
 obtain ⟨hl, rfl⟩ := List.getElem?_eq_some_iff.1 h
 rw [List.drop_eq_getElem_cons hl, orL]
set_option maxRecDepth 100000 in
set_option maxHeartbeats 2000000 in
theorem cmpOr_any (A : Option Addr) (c : Nat) (a : List Int) (w : World) (ha : Rd w A (ints a)) (hla : a.length ≤ 1000000) :
 Calls Tryz.prog 59 #[.slice A a.length c] w fun e w' => e = .returned (.int .i64 (orL a)) ∧ Below w.heap.size w w' := by
 obtain ⟨S, hSd⟩ : ∃ S, S = (fun W => Rd W A (ints a) ∧ Below w.heap.size w W) := ⟨_, rfl⟩
 have stS : St S := by rw [hSd]; infer_instance
 have S0' : Hid (∀ W, S W → Rd W A (ints a)) := by show ∀ W, _; rw [hSd]; exact fun W h => h.1
 have S2' : Hid (∀ W, S W → Below w.heap.size w W) := by show ∀ W, _; rw [hSd]; exact fun W h => h.2
 have hS : S w := by rw [hSd]; exact ⟨ha, Below.refl _ _⟩
 clear hSd ha
 go_enter Tryz.func59, Tryz.ntmps59
 go_wp2_with fail
 go_loopw [8] (fun i wr => ∃ k : Nat, i = .int .i64 (k : Int) ∧ k ≤ a.length ∧ Hid (orL a = orL (a.drop k)) ∧ S wr) (fun i _ => a.length - (intOf i).toNat)
 case atStart => exact ⟨0, by simp, Nat.zero_le _, by simp [Hid], hS⟩
 case round =>
  clear hS
  obtain ⟨k, rfl, hk, Hk, hS⟩ := hrel
  by_cases hkn : k < a.length
  · obtain ⟨e, he⟩ : ∃ e, a[k]? = some e := ⟨_, List.getElem?_eq_getElem (by omega)⟩
    obtain ⟨ad, had, _⟩ := int_at (S0'.out _ hS) he
    subst had
    have Hca : Hid (∀ W, S W → W.cell? (ad.add k) = some (.int .i64 e)) := fun W h => by
     obtain ⟨ad', h1, h2⟩ := int_at (S0'.out _ h) he
     injection h1 with h1; subst h1; exact h2
    have Hs := Lib.hid (orL_drop he)
    have hka : (k : Int) < (a.length : Int) := by omega
    have ewk : IntKind.i64.wrap ((k : Int) + 1) = (k : Int) + 1 := IntWalk.i64_in _ (by omega)
    clear he
    have hcl := Hca.out _ hS
    by_cases hef : e = 0
    · have hnn : (e != 0) = false := by simp [hef]
      have Hst : Hid (orL a = orL (a.drop (k + 1))) := by
       show _ = _
       rw [Hk.out, Hs.out, if_pos hef]
      clear Hca Hk Hs hef
      go_wp2_with fail
      go_roundw
      case rel => exact ⟨k + 1, by go_num, by omega, Hst, hS⟩
      case measure => simp [intOf]; omega
    · have hnn : (e != 0) = true := by simpa using hef
      have Hst : Hid (orL a = e) := by
       show _ = _
       rw [Hk.out, Hs.out, if_neg hef]
      clear Hca Hk Hs hef
      go_wp2_with fail
      go_ret
      exact ⟨ret_i' Hst.out.symm, S2'.out _ hS⟩
  · obtain rfl : k = a.length := by omega
    have Hc : Hid (orL a = 0) := by
     show _ = _
     rw [Hk.out, List.drop_length, orL]
    clear hkn hk Hk
    go_wp2_with fail
    go_ret
    exact ⟨ret_i' Hc.out.symm, S2'.out _ hS⟩
end Go.Proofs.YtcgglolckkeeiaaGreat
namespace Go.Proofs.YtcgglolckkeeiaaGreat
open Go.RowKit Go.Deep
structure DlV where
 A : Option Addr
 cap : Nat
 d : Dl
def DlV.cells (x : DlV) : Array Value := #[.slice x.A x.d.path.length x.cap, .int .i64 x.d.op, .int .i64 x.d.n]
structure DlOk (W : World) (x : DlV) : Prop where
 rd : Rd W x.A (ints x.d.path)
 len : x.d.path.length ≤ 1000000
theorem orL_three (a b c : Int) : orL [a, b, c] = orI a (orI b c) := by
 unfold orL orL orL orL orI
 repeat' split
 all_goals first | rfl | omega
set_option maxRecDepth 100000 in
set_option maxHeartbeats 2000000 in
theorem dlCmp_any (x y : DlV) (w : World) (hx : DlOk w x) (hy : DlOk w y) :
 Calls Tryz.prog 25 #[.agg x.cells, .agg y.cells] w fun e w' => e = .returned (.int .i64 (cmpD x.d y.d)) ∧ Below w.heap.size w w' := by
 obtain ⟨A, cA, ⟨a, op1, n1⟩⟩ := x
 obtain ⟨B, cB, ⟨b, op2, n2⟩⟩ := y
 obtain ⟨ha, hla⟩ := hx
 obtain ⟨hb, hlb⟩ := hy
 simp only at ha hla hb hlb
 unfold DlV.cells
 show Calls _ _ #[.agg #[.slice A a.length cA, .int .i64 op1, .int .i64 n1], .agg #[.slice B b.length cB, .int .i64 op2, .int .i64 n2]] _ _
 have Ha := Lib.hid ha
 have Hb := Lib.hid hb
 clear ha hb
 go_enter Tryz.func25, Tryz.ntmps25
 go_wp2_with (refine at_box _ _ rfl ?_)
 refine Stop.to ?_
 refine wpList_box_gen rfl 42 _ rfl #[.slice A a.length cA, .int .i64 op1, .int .i64 n1] rfl ?_
 intro G Gw Gh Gr Gb
 go_wp2_with (refine at_box _ _ rfl ?_)
 refine Stop.to ?_
 refine wpList_box_gen rfl 42 _ rfl #[.slice B b.length cB, .int .i64 op2, .int .i64 n2] rfl ?_
 intro J Jw Jh Jr Jb
 have rG := Gr.below Jb (Nat.lt_of_lt_of_le Gr.lt Jh)
 have b1 := (Below.refl w.heap.size w).trans (Gb.mono Gh)
 have b2 := b1.trans ((Jb.mono Jh).mono b1.size)
 obtain ⟨S, hSd⟩ : ∃ S, S = (fun W => (Row W G 42 #[.slice A a.length cA, .int .i64 op1, .int .i64 n1] ∧ Row W J 42 #[.slice B b.length cB, .int .i64 op2, .int .i64 n2]) ∧ (Rd W A (ints a) ∧ Rd W B (ints b)) ∧ Below w.heap.size w W) := ⟨_, rfl⟩
 have stS : St S := by rw [hSd]; infer_instance
 have T0 : Hid (∀ W, S W → Row W G 42 #[.slice A a.length cA, .int .i64 op1, .int .i64 n1]) := by show ∀ W, _; rw [hSd]; exact fun W h => h.1.1
 have T1 : Hid (∀ W, S W → Row W J 42 #[.slice B b.length cB, .int .i64 op2, .int .i64 n2]) := by show ∀ W, _; rw [hSd]; exact fun W h => h.1.2
 have T2 : Hid (∀ W, S W → Rd W A (ints a)) := by show ∀ W, _; rw [hSd]; exact fun W h => h.2.1.1
 have T3 : Hid (∀ W, S W → Rd W B (ints b)) := by show ∀ W, _; rw [hSd]; exact fun W h => h.2.1.2
 have T4 : Hid (∀ W, S W → Below w.heap.size w W) := by show ∀ W, _; rw [hSd]; exact fun W h => h.2.2
 have hS : S Jw := by rw [hSd]; exact ⟨⟨rG, Jr⟩, ⟨Rd.go Ha.out b2, Rd.go Hb.out b2⟩, b2⟩
 clear hSd rG Gr Jr Gb Jb b1 b2 Gh Jh Ha Hb
 go_wp2_with fail
 refine region_hold_tail S 15 (by kernel_rfl) (by kernel_rfl) (St.drew hS) ?_
 clear hS
 simp only [List.take_succ_cons, List.take_zero, List.drop_succ_cons, List.drop_zero]
 (refine hold_value rfl ?_ (fun W hW => ?_) ?_; rotate_left; (focus (go_simp; exact rfl)); simp only [Act.put, List.setIfInBounds_toArray, List.set_cons_zero, List.set_cons_succ])
 (refine hold_value rfl ?_ (fun W hW => ?_) ?_; rotate_left; (focus (have c := (T0.out W hW).cellv (i := 0) (v := .slice A a.length cA) rfl; go_simp; exact rfl)); simp only [Act.put, List.setIfInBounds_toArray, List.set_cons_zero, List.set_cons_succ])
 (refine hold_value rfl ?_ (fun W hW => ?_) ?_; rotate_left; (focus (go_simp; exact rfl)); simp only [Act.put, List.setIfInBounds_toArray, List.set_cons_zero, List.set_cons_succ])
 (refine hold_value rfl ?_ (fun W hW => ?_) ?_; rotate_left; (focus (have c := (T1.out W hW).cellv (i := 0) (v := .slice B b.length cB) rfl; go_simp; exact rfl)); simp only [Act.put, List.setIfInBounds_toArray, List.set_cons_zero, List.set_cons_succ])
 (refine hold_call_new rfl 60 _ (fun W => by (go_simp; try rfl)) (.int .i64 (cmpL a b)) (fun W hW => pathCmp_any A B cA cB a b W (T2.out W hW) (T3.out W hW) hla hlb) ?_; simp only [Act.put, List.setIfInBounds_toArray, List.set_cons_zero, List.set_cons_succ])
 (refine hold_value rfl ?_ (fun W hW => ?_) ?_; rotate_left; (focus (go_simp; exact rfl)); simp only [Act.put, List.setIfInBounds_toArray, List.set_cons_zero, List.set_cons_succ])
 (refine hold_value rfl ?_ (fun W hW => ?_) ?_; rotate_left; (focus (have c := (T0.out W hW).cellv (i := 1) (v := .int .i64 op1) rfl; go_simp; exact rfl)); simp only [Act.put, List.setIfInBounds_toArray, List.set_cons_zero, List.set_cons_succ])
 (refine hold_value rfl ?_ (fun W hW => ?_) ?_; rotate_left; (focus (go_simp; exact rfl)); simp only [Act.put, List.setIfInBounds_toArray, List.set_cons_zero, List.set_cons_succ])
 (refine hold_value rfl ?_ (fun W hW => ?_) ?_; rotate_left; (focus (have c := (T1.out W hW).cellv (i := 1) (v := .int .i64 op2) rfl; go_simp; exact rfl)); simp only [Act.put, List.setIfInBounds_toArray, List.set_cons_zero, List.set_cons_succ])
 (refine hold_call_new rfl 61 _ (fun W => by (go_simp; try rfl)) (.int .i64 (cmpI op1 op2)) (fun W hW => (cmpI_any op1 op2 W).mono fun e w' h => ⟨h.1, by rw [← h.2]; exact Below.refl _ _⟩) ?_; simp only [Act.put, List.setIfInBounds_toArray, List.set_cons_zero, List.set_cons_succ])
 (refine hold_value rfl ?_ (fun W hW => ?_) ?_; rotate_left; (focus (go_simp; exact rfl)); simp only [Act.put, List.setIfInBounds_toArray, List.set_cons_zero, List.set_cons_succ])
 (refine hold_value rfl ?_ (fun W hW => ?_) ?_; rotate_left; (focus (have c := (T0.out W hW).cellv (i := 2) (v := .int .i64 n1) rfl; go_simp; exact rfl)); simp only [Act.put, List.setIfInBounds_toArray, List.set_cons_zero, List.set_cons_succ])
 (refine hold_value rfl ?_ (fun W hW => ?_) ?_; rotate_left; (focus (go_simp; exact rfl)); simp only [Act.put, List.setIfInBounds_toArray, List.set_cons_zero, List.set_cons_succ])
 (refine hold_value rfl ?_ (fun W hW => ?_) ?_; rotate_left; (focus (have c := (T1.out W hW).cellv (i := 2) (v := .int .i64 n2) rfl; go_simp; exact rfl)); simp only [Act.put, List.setIfInBounds_toArray, List.set_cons_zero, List.set_cons_succ])
 (refine hold_call_new rfl 61 _ (fun W => by (go_simp; try rfl)) (.int .i64 (cmpI n1 n2)) (fun W hW => (cmpI_any n1 n2 W).mono fun e w' h => ⟨h.1, by rw [← h.2]; exact Below.refl _ _⟩) ?_; simp only [Act.put, List.setIfInBounds_toArray, List.set_cons_zero, List.set_cons_succ])
 refine wpHold_nil fun W hW => ?_
 go_wp2_with (refine at_slice _ _ _ rfl ?_)
 refine Stop.to ?_
 refine wpList_slice_gen rfl 22 3 _ rfl 3 #[.int .i64 (cmpL a b), .int .i64 (cmpI op1 op2), .int .i64 (cmpI n1 n2)] (fun W => by kernel_rfl) ?_
 intro M Mw Mh Mr Mb
 have bM := (T4.out _ hW).trans ((Mb.mono Mh).mono (T4.out _ hW).size)
 go_wp2_with fail
 refine (cmpOr_any _ 3 [cmpL a b, cmpI op1 op2, cmpI n1 n2] _ ?_ (by simp)).mono ?_
 · intro j u hj
   refine ⟨_, rfl, ?_⟩
   have h0 := Mr.cellv (i := 0) (v := .int .i64 (cmpL a b)) rfl
   have h1 := Mr.cellv (i := 1) (v := .int .i64 (cmpI op1 op2)) rfl
   have h2 := Mr.cellv (i := 2) (v := .int .i64 (cmpI n1 n2)) rfl
   match j, hj with
   | 0, hj => injection hj with hj; subst hj; exact h0
   | 1, hj => injection hj with hj; subst hj; exact h1
   | 2, hj => injection hj with hj; subst hj; exact h2
   | k + 3, hj => simp [ints] at hj
 rintro e w1 ⟨rfl, bO⟩
 go_wp2_with fail
 go_ret
 exact ⟨ret_i' (orL_three _ _ _), bM.trans (bO.mono bM.size)⟩
end Go.Proofs.YtcgglolckkeeiaaGreat
