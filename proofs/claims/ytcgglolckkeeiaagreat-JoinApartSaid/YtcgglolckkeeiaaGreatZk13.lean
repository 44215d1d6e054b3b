/- Lemmas for JnBll. -/
import Derived.Test.YtcgglolckkeeiaaGreatZk5
import Derived.Test.YtcgglolckkeeiaaGreatZk2
import Derived.Test.YtcgglolckkeeiaaGreatZk9
namespace Go.Proofs.YtcgglolckkeeiaaGreat
set_option linter.unusedVariables false
open Go.RowKit Go.Deep
theorem ret_i' {a b : Int} (h : a = b) : Ending.returned (.int .i64 a) = .returned (.int .i64 b) := by rw [h]
theorem nan_any (a : Int) (w : World) : Calls Tryz.prog 111 #[.int .i64 a] w fun e w' => e = .returned (.bool false) ∧ w = w' := by
 have h : (a != a) = false := by simp
 go_enter Tryz.func111, Tryz.ntmps111
 go_wp2
 go_ret
 exact ⟨ret_b (by simp), rfl⟩
set_option maxRecDepth 100000 in
theorem cmpI_any (a b : Int) (w : World) : Calls Tryz.prog 61 #[.int .i64 a, .int .i64 b] w fun e w' => e = .returned (.int .i64 (cmpI a b)) ∧ w = w' := by
 go_enter Tryz.func61, Tryz.ntmps61
 go_wp2_with fail
 refine (nan_any _ _).mono ?_
 rintro e w1 ⟨rfl, rfl⟩
 go_wp2_with fail
 refine (nan_any _ _).mono ?_
 rintro e w1 ⟨rfl, rfl⟩
 by_cases h1 : a < b
 · go_wp2
   go_ret
   exact ⟨ret_i' (by unfold cmpI; rw [if_pos h1]), rfl⟩
 · by_cases h2 : b < a
   · go_wp2
     go_ret
     exact ⟨ret_i' (by unfold cmpI; rw [if_neg (show ¬ a < b by omega), if_pos (show b < a by omega)]), rfl⟩
   · go_wp2
     go_ret
     exact ⟨ret_i' (by unfold cmpI; rw [if_neg (show ¬ a < b by omega), if_neg (show ¬ b < a by omega)]), rfl⟩
theorem cmpL_step {a b : List Int} {k : Nat} {x y : Int} (h : a.take k = b.take k) (hx : a[k]? = some x) (hy : b[k]? = some y) (hc : cmpI x y ≠ 0) : cmpL a b = cmpI x y := by
 have ha : a = a.take k ++ x :: a.drop (k + 1) := by
  obtain ⟨hl, e⟩ := List.getElem?_eq_some_iff.1 hx
  rw [← e, ← List.drop_eq_getElem_cons hl, List.take_append_drop]
 have hb : b = b.take k ++ y :: b.drop (k + 1) := by
  obtain ⟨hl, e⟩ := List.getElem?_eq_some_iff.1 hy
  rw [← e, ← List.drop_eq_getElem_cons hl, List.take_append_drop]
 rw [ha, hb, h]
 generalize b.take k = c
 clear h ha hb hx hy
 induction c with
 | nil => rw [List.nil_append, List.nil_append, cmpL, if_pos hc]
 | cons z c ih => rw [List.cons_append, List.cons_append, cmpL, cmpI_self, if_neg (by simp)]; exact ih
theorem cmpL_end : ∀ {a b : List Int} {k : Nat}, a.take k = b.take k → (k = a.length ∨ k = b.length) → k ≤ a.length → k ≤ b.length → cmpL a b = cmpI (a.length : Int) (b.length : Int)
 | [], [], _, _, _, _, _ => by simp [cmpL, cmpI]
 | [], _ :: _, _, _, _, _, _ => by simp [cmpL, cmpI] <;> omega
 | _ :: _, [], _, _, _, _, _ => by simp [cmpL, cmpI] <;> omega
 | x :: xs, y :: ys, 0, h, hk, _, _ => by simp at hk
 | x :: xs, y :: ys, k + 1, h, hk, h1, h2 => by
  simp only [List.take_succ_cons, List.cons.injEq] at h
  obtain ⟨rfl, h⟩ := h
  rw [cmpL, cmpI_self, if_neg (by simp), cmpL_end h (by simpa using hk) (by simpa using h1) (by simpa using h2)]
  unfold cmpI
  simp only [List.length_cons]
  repeat' split
  all_goals omega
set_option maxRecDepth 100000 in
set_option maxHeartbeats 2000000 in
theorem pathCmp_any (A B : Option Addr) (c d : Nat) (a b : List Int) (w : World) (ha : Rd w A (ints a)) (hb : Rd w B (ints b)) (hla : a.length ≤ 1000000) (hlb : b.length ≤ 1000000) :
 Calls Tryz.prog 60 #[.slice A a.length c, .slice B b.length d] w fun e w' => e = .returned (.int .i64 (cmpL a b)) ∧ Below w.heap.size w w' := by
 obtain ⟨S, hSd⟩ : ∃ S, S = (fun W => Rd W A (ints a) ∧ Rd W B (ints b) ∧ Below w.heap.size w W) := ⟨_, rfl⟩
 have stS : St S := by rw [hSd]; infer_instance
 have S0' : Hid (∀ W, S W → Rd W A (ints a)) := by show ∀ W, _; rw [hSd]; exact fun W h => h.1
 have S1' : Hid (∀ W, S W → Rd W B (ints b)) := by show ∀ W, _; rw [hSd]; exact fun W h => h.2.1
 have S2' : Hid (∀ W, S W → Below w.heap.size w W) := by show ∀ W, _; rw [hSd]; exact fun W h => h.2.2
 have hS : S w := by rw [hSd]; exact ⟨ha, hb, Below.refl _ _⟩
 clear hSd ha hb
 obtain ⟨m, hm⟩ : ∃ m : Nat, m = Nat.min a.length b.length := ⟨_, rfl⟩
 have hm1 : m ≤ a.length ∧ m ≤ b.length ∧ (m = a.length ∨ m = b.length) := by
  have h : m = min a.length b.length := hm
  omega
 clear hm
 go_enter Tryz.func60, Tryz.ntmps60
 go_wp2_with fail
 all_goals
  go_loopw [12] (fun i wr => ∃ k : Nat, i = .int .i64 (k : Int) ∧ k ≤ m ∧ Hid (a.take k = b.take k) ∧ S wr) (fun i _ => m - (intOf i).toNat)
  case atStart => exact ⟨0, by simp, Nat.zero_le _, by simp [Hid], hS⟩
  case round =>
   clear hS
   obtain ⟨k, rfl, hk, Hk, hS⟩ := hrel
   by_cases hkn : k < m
   · have hkn' : (k : Int) < (m : Int) := by omega
     obtain ⟨e, he⟩ : ∃ e, a[k]? = some e := ⟨_, List.getElem?_eq_getElem (by omega)⟩
     obtain ⟨f, hf⟩ : ∃ f, b[k]? = some f := ⟨_, List.getElem?_eq_getElem (by omega)⟩
     obtain ⟨ad, had, _⟩ := int_at (S0'.out _ hS) he
     obtain ⟨bd, hbd, _⟩ := int_at (S1'.out _ hS) hf
     subst had hbd
     have Hca : Hid (∀ W, S W → W.cell? (ad.add k) = some (.int .i64 e)) := fun W h => by
      obtain ⟨ad', h1, h2⟩ := int_at (S0'.out _ h) he
      injection h1 with h1; subst h1; exact h2
     have Hcb : Hid (∀ W, S W → W.cell? (bd.add k) = some (.int .i64 f)) := fun W h => by
      obtain ⟨ad', h1, h2⟩ := int_at (S1'.out _ h) hf
      injection h1 with h1; subst h1; exact h2
     have He := Lib.hid he
     have Hf := Lib.hid hf
     have hka : (k : Int) < (a.length : Int) := by omega
     have hkb : (k : Int) < (b.length : Int) := by omega
     have ewk : IntKind.i64.wrap ((k : Int) + 1) = (k : Int) + 1 := IntWalk.i64_in _ (by omega)
     clear he hf
     go_wp2_with fail
     refine region_hold S (by kernel_rfl) (by kernel_rfl) (St.drew hS) ?_
     clear hS
     iterate 3 (refine hold_value rfl ?_ (fun W hW => ?_) ?_; rotate_left; (focus (go_simp; exact rfl)); simp only [Act.put, List.setIfInBounds_toArray, List.set_cons_zero, List.set_cons_succ])
     (refine hold_value rfl ?_ (fun W hW => ?_) ?_; rotate_left; (focus (have c := Hca.out W hW; go_simp; exact rfl)); simp only [Act.put, List.setIfInBounds_toArray, List.set_cons_zero, List.set_cons_succ])
     iterate 3 (refine hold_value rfl ?_ (fun W hW => ?_) ?_; rotate_left; (focus (go_simp; exact rfl)); simp only [Act.put, List.setIfInBounds_toArray, List.set_cons_zero, List.set_cons_succ])
     (refine hold_value rfl ?_ (fun W hW => ?_) ?_; rotate_left; (focus (have c := Hcb.out W hW; go_simp; exact rfl)); simp only [Act.put, List.setIfInBounds_toArray, List.set_cons_zero, List.set_cons_succ])
     (refine hold_call_new rfl 61 _ (fun W => by (go_simp; try rfl)) (.int .i64 (cmpI e f)) (fun W hW => (cmpI_any e f W).mono fun e w' h => ⟨h.1, by rw [← h.2]; exact Below.refl _ _⟩) ?_; simp only [Act.put, List.setIfInBounds_toArray, List.set_cons_zero, List.set_cons_succ])
     (refine hold_value rfl ?_ (fun W hW => ?_) ?_; rotate_left; (focus (go_simp; exact rfl)); simp only [Act.put, List.setIfInBounds_toArray, List.set_cons_zero, List.set_cons_succ])
     refine wpHold_nil fun W hS => ?_
     by_cases hef : cmpI e f = 0
     · have hnn : (cmpI e f != 0) = false := by simp [hef]
       have Hst : Hid (a.take (k + 1) = b.take (k + 1)) := by
        show _ = _
        rw [List.take_add_one, List.take_add_one, Hk.out, He.out, Hf.out, cmpI_eq.1 hef]
       clear Hca Hcb He Hf Hk hef
       go_wp2_with fail
       go_roundw
       case rel => exact ⟨k + 1, by go_num, by omega, Hst, hS⟩
       case measure => simp [intOf]; omega
     · have hnn : (cmpI e f != 0) = true := by simpa using hef
       have Hc := Lib.hid (cmpL_step Hk.out He.out Hf.out hef)
       clear Hca Hcb He Hf Hk hef
       go_wp2_with fail
       go_ret
       exact ⟨ret_i' Hc.out.symm, S2'.out _ hS⟩
   · obtain rfl : k = m := by omega
     have Hc := Lib.hid (cmpL_end Hk.out hm1.2.2 hm1.1 hm1.2.1)
     (first | have hkm : ¬ ((k : Int) < (b.length : Int)) := by omega | have hkm : ¬ ((k : Int) < (a.length : Int)) := by omega)
     clear hkn hk Hk
     go_wp2_with fail
     refine (cmpI_any _ _ _).mono ?_
     rintro e w1 ⟨rfl, rfl⟩
     go_wp2_with fail
     go_ret
     exact ⟨ret_i' Hc.out.symm, S2'.out _ hS⟩
end Go.Proofs.YtcgglolckkeeiaaGreat
namespace Go.Proofs.YtcgglolckkeeiaaGreat
set_option linter.unusedVariables false
open Go.RowKit Go.Deep
set_option maxRecDepth 100000 in
set_option maxHeartbeats 2000000 in
theorem refCmp_any (A B : Option Addr) (c d : Nat) (a b : List Int) (w : World) (ha : Rd w A (ints a)) (hb : Rd w B (ints b)) (hla : a.length ≤ 1000000) (hlb : b.length ≤ 1000000) :
 Calls Tryz.prog 109 #[.slice A a.length c, .slice B b.length d] w fun e w' => e = .returned (.int .i64 (cmpL a b)) ∧ Below w.heap.size w w' := by
 obtain ⟨S, hSd⟩ : ∃ S, S = (fun W => Rd W A (ints a) ∧ Rd W B (ints b) ∧ Below w.heap.size w W) := ⟨_, rfl⟩
 have stS : St S := by rw [hSd]; infer_instance
 have S0' : Hid (∀ W, S W → Rd W A (ints a)) := by show ∀ W, _; rw [hSd]; exact fun W h => h.1
 have S1' : Hid (∀ W, S W → Rd W B (ints b)) := by show ∀ W, _; rw [hSd]; exact fun W h => h.2.1
 have S2' : Hid (∀ W, S W → Below w.heap.size w W) := by show ∀ W, _; rw [hSd]; exact fun W h => h.2.2
 have hS : S w := by rw [hSd]; exact ⟨ha, hb, Below.refl _ _⟩
 clear hSd ha hb
 go_enter Tryz.func109, Tryz.ntmps109
 go_wp2_with fail
 go_loopw [5] (fun i wr => ∃ k : Nat, i = .int .i64 (k : Int) ∧ k ≤ a.length ∧ k ≤ b.length ∧ Hid (a.take k = b.take k) ∧ S wr) (fun i _ => a.length - (intOf i).toNat)
 case atStart => exact ⟨0, by simp, Nat.zero_le _, Nat.zero_le _, by simp [Hid], hS⟩
 case round =>
  clear hS
  obtain ⟨k, rfl, hk1, hk2, Hk, hS⟩ := hrel
  by_cases hkn : k < a.length ∧ k < b.length
  · obtain ⟨hk3, hk4⟩ := hkn
    obtain ⟨e, he⟩ : ∃ e, a[k]? = some e := ⟨_, List.getElem?_eq_getElem (by omega)⟩
    obtain ⟨f, hf⟩ : ∃ f, b[k]? = some f := ⟨_, List.getElem?_eq_getElem (by omega)⟩
    obtain ⟨ad, had, _⟩ := int_at (S0'.out _ hS) he
    obtain ⟨bd, hbd, _⟩ := int_at (S1'.out _ hS) hf
    subst had hbd
    have Hca : Hid (∀ W, S W → W.cell? (ad.add k) = some (.int .i64 e)) := fun W h => by
     obtain ⟨ad', h1, h2⟩ := int_at (S0'.out _ h) he
     injection h1 with h1; subst h1; exact h2
    have Hcb : Hid (∀ W, S W → W.cell? (bd.add k) = some (.int .i64 f)) := fun W h => by
     obtain ⟨ad', h1, h2⟩ := int_at (S1'.out _ h) hf
     injection h1 with h1; subst h1; exact h2
    have He := Lib.hid he
    have Hf := Lib.hid hf
    have hka : (k : Int) < (a.length : Int) := by omega
    have hkb : (k : Int) < (b.length : Int) := by omega
    have ewk : IntKind.i64.wrap ((k : Int) + 1) = (k : Int) + 1 := IntWalk.i64_in _ (by omega)
    clear he hf
    go_wp2_with fail
    refine region_hold S (by kernel_rfl) (by kernel_rfl) (St.drew hS) ?_
    clear hS
    iterate 3 (refine hold_value rfl ?_ (fun W hW => ?_) ?_; rotate_left; (focus (go_simp; exact rfl)); simp only [Act.put, List.setIfInBounds_toArray, List.set_cons_zero, List.set_cons_succ])
    (refine hold_value rfl ?_ (fun W hW => ?_) ?_; rotate_left; (focus (have c := Hca.out W hW; go_simp; exact rfl)); simp only [Act.put, List.setIfInBounds_toArray, List.set_cons_zero, List.set_cons_succ])
    iterate 3 (refine hold_value rfl ?_ (fun W hW => ?_) ?_; rotate_left; (focus (go_simp; exact rfl)); simp only [Act.put, List.setIfInBounds_toArray, List.set_cons_zero, List.set_cons_succ])
    (refine hold_value rfl ?_ (fun W hW => ?_) ?_; rotate_left; (focus (have c := Hcb.out W hW; go_simp; exact rfl)); simp only [Act.put, List.setIfInBounds_toArray, List.set_cons_zero, List.set_cons_succ])
    (refine hold_value rfl ?_ (fun W hW => ?_) ?_; rotate_left; (focus (go_simp; exact rfl)); simp only [Act.put, List.setIfInBounds_toArray, List.set_cons_zero, List.set_cons_succ])
    refine wpHold_nil fun W hS => ?_
    by_cases h1 : e < f
    · have hc : cmpI e f = -1 := by unfold cmpI; rw [if_pos (by omega)]
      have Hc := Lib.hid (cmpL_step Hk.out He.out Hf.out (by omega))
      rw [hc] at Hc
      clear Hca Hcb He Hf Hk hc
      go_wp2_with fail
      go_ret
      exact ⟨ret_i' Hc.out.symm, S2'.out _ hS⟩
    have h1' : f ≤ e := by omega
    go_wp2_with fail
    refine region_hold S (by kernel_rfl) (by kernel_rfl) (St.drew hS) ?_
    clear hS
    iterate 3 (refine hold_value rfl ?_ (fun W hW => ?_) ?_; rotate_left; (focus (go_simp; exact rfl)); simp only [Act.put, List.setIfInBounds_toArray, List.set_cons_zero, List.set_cons_succ])
    (refine hold_value rfl ?_ (fun W hW => ?_) ?_; rotate_left; (focus (have c := Hca.out W hW; go_simp; exact rfl)); simp only [Act.put, List.setIfInBounds_toArray, List.set_cons_zero, List.set_cons_succ])
    iterate 3 (refine hold_value rfl ?_ (fun W hW => ?_) ?_; rotate_left; (focus (go_simp; exact rfl)); simp only [Act.put, List.setIfInBounds_toArray, List.set_cons_zero, List.set_cons_succ])
    (refine hold_value rfl ?_ (fun W hW => ?_) ?_; rotate_left; (focus (have c := Hcb.out W hW; go_simp; exact rfl)); simp only [Act.put, List.setIfInBounds_toArray, List.set_cons_zero, List.set_cons_succ])
    (refine hold_value rfl ?_ (fun W hW => ?_) ?_; rotate_left; (focus (go_simp; exact rfl)); simp only [Act.put, List.setIfInBounds_toArray, List.set_cons_zero, List.set_cons_succ])
    refine wpHold_nil fun W hS => ?_
    by_cases h2 : f < e
    · have hc : cmpI e f = 1 := by unfold cmpI; rw [if_neg (by omega), if_pos (by omega)]
      have Hc := Lib.hid (cmpL_step Hk.out He.out Hf.out (by omega))
      rw [hc] at Hc
      clear Hca Hcb He Hf Hk hc
      go_wp2_with fail
      go_ret
      exact ⟨ret_i' Hc.out.symm, S2'.out _ hS⟩
    have Hst : Hid (a.take (k + 1) = b.take (k + 1)) := by
     show _ = _
     rw [List.take_add_one, List.take_add_one, Hk.out, He.out, Hf.out, show e = f by omega]
    clear Hca Hcb He Hf Hk
    go_wp2_with fail
    go_roundw
    case rel => exact ⟨k + 1, by go_num, by omega, by omega, Hst, hS⟩
    case measure => simp [intOf]; omega
  · have hor : k = a.length ∨ k = b.length := by omega
    have Hc := Lib.hid (cmpL_end Hk.out hor hk1 hk2)
    clear Hk
    have hka : ¬ ((k : Int) < (a.length : Int)) ∨ ¬ ((k : Int) < (b.length : Int)) := by omega
    have hfin : ∀ W, S W → True := fun _ _ => trivial
    clear hfin
    by_cases g1 : (k : Int) < (a.length : Int)
    · have g2 : ¬ ((k : Int) < (b.length : Int)) := by omega
      have g3 : ¬ ((a.length : Int) < (b.length : Int)) := by omega
      have g4 : (b.length : Int) < (a.length : Int) := by omega
      have hc : cmpI (a.length : Int) (b.length : Int) = 1 := by unfold cmpI; rw [if_neg (by omega), if_pos (by omega)]
      rw [hc] at Hc
      clear hkn hor hka hc
      go_wp2_with fail
      go_ret
      exact ⟨ret_i' Hc.out.symm, S2'.out _ hS⟩
    · by_cases g3 : (a.length : Int) < (b.length : Int)
      · have hc : cmpI (a.length : Int) (b.length : Int) = -1 := by unfold cmpI; rw [if_pos (by omega)]
        rw [hc] at Hc
        clear hkn hor hka hc
        go_wp2_with fail
        go_ret
        exact ⟨ret_i' Hc.out.symm, S2'.out _ hS⟩
      · have g4 : ¬ ((b.length : Int) < (a.length : Int)) := by omega
        have hc : cmpI (a.length : Int) (b.length : Int) = 0 := by unfold cmpI; rw [if_neg (by omega), if_neg (by omega)]
        rw [hc] at Hc
        clear hkn hor hka hc
        go_wp2_with fail
        go_ret
        exact ⟨ret_i' Hc.out.symm, S2'.out _ hS⟩
theorem less_any (a b : Int) (w : World) : Calls Tryz.prog 110 #[.int .i64 a, .int .i64 b] w fun e w' => e = .returned (.int .i64 (cmpI a b)) ∧ w = w' := by
 by_cases h1 : a < b
 · go_enter Tryz.func110, Tryz.ntmps110
   go_wp2
   go_ret
   exact ⟨ret_i' (by unfold cmpI; rw [if_pos (by omega)]), rfl⟩
 · by_cases h2 : b < a
   · go_enter Tryz.func110, Tryz.ntmps110
     go_wp2
     go_ret
     exact ⟨ret_i' (by unfold cmpI; rw [if_neg (by omega), if_pos (by omega)]), rfl⟩
   · go_enter Tryz.func110, Tryz.ntmps110
     go_wp2
     go_ret
     exact ⟨ret_i' (by unfold cmpI; rw [if_neg (by omega), if_neg (by omega)]), rfl⟩
end Go.Proofs.YtcgglolckkeeiaaGreat
namespace Go.Proofs.YtcgglolckkeeiaaGreat
set_option linter.unusedVariables false
open Go.RowKit Go.Deep
def orL : List Int → Int
 | [] => 0
 | x :: l => if x = 0 then orL l else x
theorem orL_drop {a : List Int} {k : Nat} {e : Int} (h : a[k]? = some e) : orL (a.drop k) = if e = 0 then orL (a.drop (k + 1)) else e := by
 obtain ⟨hl, rfl⟩ := List.getElem?_eq_some_iff.1 h
 rw [List.drop_eq_getElem_cons hl, orL]
set_option maxRecDepth 100000 in
set_option maxHeartbeats 2000000 in
theorem cmpOr_any (A : Option Addr) (c : Nat) (a : List Int) (w : World) (ha : Rd w A (ints a)) (hla : a.length ≤ 1000000) :
 Calls Tryz.prog 59 #[.slice A a.length c] w fun e w' => e = .returned (.int .i64 (orL a)) ∧ Below w.heap.size w w' := by
 obtain ⟨S, hSd⟩ : ∃ S, S = (fun W => Rd W A (ints a) ∧ Below w.heap.size w W) := ⟨_, rfl⟩
 have stS : St S := by rw [hSd]; infer_instance
 have S0' : Hid (∀ W, S W → Rd W A (ints a)) := by show ∀ W, _; rw [hSd]; exact fun W h => h.1
 have S2' : Hid (∀ W, S W → Below w.heap.size w W) := by show ∀ W, _; rw [hSd]; exact fun W h => h.2
 have hS : S w := by rw [hSd]; exact ⟨ha, Below.refl _ _⟩
 clear hSd ha
 go_enter Tryz.func59, Tryz.ntmps59
 go_wp2_with fail
 go_loopw [8] (fun i wr => ∃ k : Nat, i = .int .i64 (k : Int) ∧ k ≤ a.length ∧ Hid (orL a = orL (a.drop k)) ∧ S wr) (fun i _ => a.length - (intOf i).toNat)
 case atStart => exact ⟨0, by simp, Nat.zero_le _, by simp [Hid], hS⟩
 case round =>
  clear hS
  obtain ⟨k, rfl, hk, Hk, hS⟩ := hrel
  by_cases hkn : k < a.length
  · obtain ⟨e, he⟩ : ∃ e, a[k]? = some e := ⟨_, List.getElem?_eq_getElem (by omega)⟩
    obtain ⟨ad, had, _⟩ := int_at (S0'.out _ hS) he
    subst had
    have Hca : Hid (∀ W, S W → W.cell? (ad.add k) = some (.int .i64 e)) := fun W h => by
     obtain ⟨ad', h1, h2⟩ := int_at (S0'.out _ h) he
     injection h1 with h1; subst h1; exact h2
    have Hs := Lib.hid (orL_drop he)
    have hka : (k : Int) < (a.length : Int) := by omega
    have ewk : IntKind.i64.wrap ((k : Int) + 1) = (k : Int) + 1 := IntWalk.i64_in _ (by omega)
    clear he
    have hcl := Hca.out _ hS
    by_cases hef : e = 0
    · have hnn : (e != 0) = false := by simp [hef]
      have Hst : Hid (orL a = orL (a.drop (k + 1))) := by
       show _ = _
       rw [Hk.out, Hs.out, if_pos hef]
      clear Hca Hk Hs hef
      go_wp2_with fail
      go_roundw
      case rel => exact ⟨k + 1, by go_num, by omega, Hst, hS⟩
      case measure => simp [intOf]; omega
    · have hnn : (e != 0) = true := by simpa using hef
      have Hst : Hid (orL a = e) := by
       show _ = _
       rw [Hk.out, Hs.out, if_neg hef]
      clear Hca Hk Hs hef
      go_wp2_with fail
      go_ret
      exact ⟨ret_i' Hst.out.symm, S2'.out _ hS⟩
  · obtain rfl : k = a.length := by omega
    have Hc : Hid (orL a = 0) := by
     show _ = _
     rw [Hk.out, List.drop_length, orL]
    clear hkn hk Hk
    go_wp2_with fail
    go_ret
    exact ⟨ret_i' Hc.out.symm, S2'.out _ hS⟩
end Go.Proofs.YtcgglolckkeeiaaGreat
namespace Go.Proofs.YtcgglolckkeeiaaGreat
set_option linter.unusedVariables false
open Go.RowKit Go.Deep
structure DlV where
 A : Option Addr
 cap : Nat
 d : Dl
def DlV.cells (x : DlV) : Array Value := #[.slice x.A x.d.path.length x.cap, .int .i64 x.d.op, .int .i64 x.d.n]
structure DlOk (W : World) (x : DlV) : Prop where
 rd : Rd W x.A (ints x.d.path)
 len : x.d.path.length ≤ 1000000
theorem orL_three (a b c : Int) : orL [a, b, c] = orI a (orI b c) := by
 unfold orL orL orL orL orI
 repeat' split
 all_goals first | rfl | omega
set_option maxRecDepth 100000 in
set_option maxHeartbeats 2000000 in
theorem dlCmp_any (x y : DlV) (w : World) (hx : DlOk w x) (hy : DlOk w y) :
 Calls Tryz.prog 25 #[.agg x.cells, .agg y.cells] w fun e w' => e = .returned (.int .i64 (cmpD x.d y.d)) ∧ Below w.heap.size w w' := by
 obtain ⟨A, cA, ⟨a, op1, n1⟩⟩ := x
 obtain ⟨B, cB, ⟨b, op2, n2⟩⟩ := y
 obtain ⟨ha, hla⟩ := hx
 obtain ⟨hb, hlb⟩ := hy
 simp only at ha hla hb hlb
 unfold DlV.cells
 show Calls _ _ #[.agg #[.slice A a.length cA, .int .i64 op1, .int .i64 n1], .agg #[.slice B b.length cB, .int .i64 op2, .int .i64 n2]] _ _
 have Ha := Lib.hid ha
 have Hb := Lib.hid hb
 clear ha hb
 go_enter Tryz.func25, Tryz.ntmps25
 go_wp2_with (refine at_box _ _ rfl ?_)
 refine Stop.to ?_
 refine wpList_box_gen rfl 42 _ rfl #[.slice A a.length cA, .int .i64 op1, .int .i64 n1] rfl ?_
 intro G Gw Gh Gr Gb
 go_wp2_with (refine at_box _ _ rfl ?_)
 refine Stop.to ?_
 refine wpList_box_gen rfl 42 _ rfl #[.slice B b.length cB, .int .i64 op2, .int .i64 n2] rfl ?_
 intro J Jw Jh Jr Jb
 have rG := Gr.below Jb (Nat.lt_of_lt_of_le Gr.lt Jh)
 have b1 := (Below.refl w.heap.size w).trans (Gb.mono Gh)
 have b2 := b1.trans ((Jb.mono Jh).mono b1.size)
 obtain ⟨S, hSd⟩ : ∃ S, S = (fun W => (Row W G 42 #[.slice A a.length cA, .int .i64 op1, .int .i64 n1] ∧ Row W J 42 #[.slice B b.length cB, .int .i64 op2, .int .i64 n2]) ∧ (Rd W A (ints a) ∧ Rd W B (ints b)) ∧ Below w.heap.size w W) := ⟨_, rfl⟩
 have stS : St S := by rw [hSd]; infer_instance
 have T0 : Hid (∀ W, S W → Row W G 42 #[.slice A a.length cA, .int .i64 op1, .int .i64 n1]) := by show ∀ W, _; rw [hSd]; exact fun W h => h.1.1
 have T1 : Hid (∀ W, S W → Row W J 42 #[.slice B b.length cB, .int .i64 op2, .int .i64 n2]) := by show ∀ W, _; rw [hSd]; exact fun W h => h.1.2
 have T2 : Hid (∀ W, S W → Rd W A (ints a)) := by show ∀ W, _; rw [hSd]; exact fun W h => h.2.1.1
 have T3 : Hid (∀ W, S W → Rd W B (ints b)) := by show ∀ W, _; rw [hSd]; exact fun W h => h.2.1.2
 have T4 : Hid (∀ W, S W → Below w.heap.size w W) := by show ∀ W, _; rw [hSd]; exact fun W h => h.2.2
 have hS : S Jw := by rw [hSd]; exact ⟨⟨rG, Jr⟩, ⟨Rd.go Ha.out b2, Rd.go Hb.out b2⟩, b2⟩
 clear hSd rG Gr Jr Gb Jb b1 b2 Gh Jh Ha Hb
 go_wp2_with fail
 refine region_hold_tail S 15 (by kernel_rfl) (by kernel_rfl) (St.drew hS) ?_
 clear hS
 simp only [List.take_succ_cons, List.take_zero, List.drop_succ_cons, List.drop_zero]
 (refine hold_value rfl ?_ (fun W hW => ?_) ?_; rotate_left; (focus (go_simp; exact rfl)); simp only [Act.put, List.setIfInBounds_toArray, List.set_cons_zero, List.set_cons_succ])
 (refine hold_value rfl ?_ (fun W hW => ?_) ?_; rotate_left; (focus (have c := (T0.out W hW).cellv (i := 0) (v := .slice A a.length cA) rfl; go_simp; exact rfl)); simp only [Act.put, List.setIfInBounds_toArray, List.set_cons_zero, List.set_cons_succ])
 (refine hold_value rfl ?_ (fun W hW => ?_) ?_; rotate_left; (focus (go_simp; exact rfl)); simp only [Act.put, List.setIfInBounds_toArray, List.set_cons_zero, List.set_cons_succ])
 (refine hold_value rfl ?_ (fun W hW => ?_) ?_; rotate_left; (focus (have c := (T1.out W hW).cellv (i := 0) (v := .slice B b.length cB) rfl; go_simp; exact rfl)); simp only [Act.put, List.setIfInBounds_toArray, List.set_cons_zero, List.set_cons_succ])
 (refine hold_call_new rfl 60 _ (fun W => by (go_simp; try rfl)) (.int .i64 (cmpL a b)) (fun W hW => pathCmp_any A B cA cB a b W (T2.out W hW) (T3.out W hW) hla hlb) ?_; simp only [Act.put, List.setIfInBounds_toArray, List.set_cons_zero, List.set_cons_succ])
 (refine hold_value rfl ?_ (fun W hW => ?_) ?_; rotate_left; (focus (go_simp; exact rfl)); simp only [Act.put, List.setIfInBounds_toArray, List.set_cons_zero, List.set_cons_succ])
 (refine hold_value rfl ?_ (fun W hW => ?_) ?_; rotate_left; (focus (have c := (T0.out W hW).cellv (i := 1) (v := .int .i64 op1) rfl; go_simp; exact rfl)); simp only [Act.put, List.setIfInBounds_toArray, List.set_cons_zero, List.set_cons_succ])
 (refine hold_value rfl ?_ (fun W hW => ?_) ?_; rotate_left; (focus (go_simp; exact rfl)); simp only [Act.put, List.setIfInBounds_toArray, List.set_cons_zero, List.set_cons_succ])
 (refine hold_value rfl ?_ (fun W hW => ?_) ?_; rotate_left; (focus (have c := (T1.out W hW).cellv (i := 1) (v := .int .i64 op2) rfl; go_simp; exact rfl)); simp only [Act.put, List.setIfInBounds_toArray, List.set_cons_zero, List.set_cons_succ])
 (refine hold_call_new rfl 61 _ (fun W => by (go_simp; try rfl)) (.int .i64 (cmpI op1 op2)) (fun W hW => (cmpI_any op1 op2 W).mono fun e w' h => ⟨h.1, by rw [← h.2]; exact Below.refl _ _⟩) ?_; simp only [Act.put, List.setIfInBounds_toArray, List.set_cons_zero, List.set_cons_succ])
 (refine hold_value rfl ?_ (fun W hW => ?_) ?_; rotate_left; (focus (go_simp; exact rfl)); simp only [Act.put, List.setIfInBounds_toArray, List.set_cons_zero, List.set_cons_succ])
 (refine hold_value rfl ?_ (fun W hW => ?_) ?_; rotate_left; (focus (have c := (T0.out W hW).cellv (i := 2) (v := .int .i64 n1) rfl; go_simp; exact rfl)); simp only [Act.put, List.setIfInBounds_toArray, List.set_cons_zero, List.set_cons_succ])
 (refine hold_value rfl ?_ (fun W hW => ?_) ?_; rotate_left; (focus (go_simp; exact rfl)); simp only [Act.put, List.setIfInBounds_toArray, List.set_cons_zero, List.set_cons_succ])
 (refine hold_value rfl ?_ (fun W hW => ?_) ?_; rotate_left; (focus (have c := (T1.out W hW).cellv (i := 2) (v := .int .i64 n2) rfl; go_simp; exact rfl)); simp only [Act.put, List.setIfInBounds_toArray, List.set_cons_zero, List.set_cons_succ])
 (refine hold_call_new rfl 61 _ (fun W => by (go_simp; try rfl)) (.int .i64 (cmpI n1 n2)) (fun W hW => (cmpI_any n1 n2 W).mono fun e w' h => ⟨h.1, by rw [← h.2]; exact Below.refl _ _⟩) ?_; simp only [Act.put, List.setIfInBounds_toArray, List.set_cons_zero, List.set_cons_succ])
 refine wpHold_nil fun W hW => ?_
 go_wp2_with (refine at_slice _ _ _ rfl ?_)
 refine Stop.to ?_
 refine wpList_slice_gen rfl 22 3 _ rfl 3 #[.int .i64 (cmpL a b), .int .i64 (cmpI op1 op2), .int .i64 (cmpI n1 n2)] (fun W => by kernel_rfl) ?_
 intro M Mw Mh Mr Mb
 have bM := (T4.out _ hW).trans ((Mb.mono Mh).mono (T4.out _ hW).size)
 go_wp2_with fail
 refine (cmpOr_any _ 3 [cmpL a b, cmpI op1 op2, cmpI n1 n2] _ ?_ (by simp)).mono ?_
 · intro j u hj
   refine ⟨_, rfl, ?_⟩
   have h0 := Mr.cellv (i := 0) (v := .int .i64 (cmpL a b)) rfl
   have h1 := Mr.cellv (i := 1) (v := .int .i64 (cmpI op1 op2)) rfl
   have h2 := Mr.cellv (i := 2) (v := .int .i64 (cmpI n1 n2)) rfl
   match j, hj with
   | 0, hj => injection hj with hj; subst hj; exact h0
   | 1, hj => injection hj with hj; subst hj; exact h1
   | 2, hj => injection hj with hj; subst hj; exact h2
   | k + 3, hj => simp [ints] at hj
 rintro e w1 ⟨rfl, bO⟩
 go_wp2_with fail
 go_ret
 exact ⟨ret_i' (orL_three _ _ _), bM.trans (bO.mono bM.size)⟩
end Go.Proofs.YtcgglolckkeeiaaGreat
namespace Go.Proofs.YtcgglolckkeeiaaGreat
set_option linter.unusedVariables false
open Go.RowKit Go.Deep
theorem DlOk.go {W W' : World} {x : DlV} (h : DlOk W x) (b : Below W.heap.size W W') : DlOk W' x := ⟨Rd.go h.rd b, h.len⟩
set_option maxRecDepth 100000 in
set_option maxHeartbeats 2000000 in
theorem dlSame_any (x y : DlV) (w : World) (hx : DlOk w x) (hy : DlOk w y) :
 Calls Tryz.prog 23 #[.agg x.cells, .agg y.cells] w fun e w' => e = .returned (.bool (decide (cmpD x.d y.d = 0))) ∧ Below w.heap.size w w' := by
 have Ha := Lib.hid hx.rd
 have Hb := Lib.hid hy.rd
 have hla := hx.len
 have hlb := hy.len
 clear hx hy
 go_enter Tryz.func23, Tryz.ntmps23
 go_wp2_with (refine at_box _ _ rfl ?_)
 refine Stop.to ?_
 refine wpList_box_gen rfl 42 _ rfl x.cells rfl ?_
 intro G Gw Gh Gr Gb
 go_wp2_with (refine at_box _ _ rfl ?_)
 refine Stop.to ?_
 refine wpList_box_gen rfl 42 _ rfl y.cells rfl ?_
 intro J Jw Jh Jr Jb
 have rG := Gr.below Jb (Nat.lt_of_lt_of_le Gr.lt Jh)
 have b1 := (Below.refl w.heap.size w).trans (Gb.mono Gh)
 have b2 := b1.trans ((Jb.mono Jh).mono b1.size)
 obtain ⟨S, hSd⟩ : ∃ S, S = (fun W => (Row W G 42 x.cells ∧ Row W J 42 y.cells) ∧ (Rd W x.A (ints x.d.path) ∧ Rd W y.A (ints y.d.path)) ∧ Below w.heap.size w W) := ⟨_, rfl⟩
 have stS : St S := by rw [hSd]; infer_instance
 have T0 : Hid (∀ W, S W → Row W G 42 x.cells) := by show ∀ W, _; rw [hSd]; exact fun W h => h.1.1
 have T1 : Hid (∀ W, S W → Row W J 42 y.cells) := by show ∀ W, _; rw [hSd]; exact fun W h => h.1.2
 have T2 : Hid (∀ W, S W → Rd W x.A (ints x.d.path)) := by show ∀ W, _; rw [hSd]; exact fun W h => h.2.1.1
 have T3 : Hid (∀ W, S W → Rd W y.A (ints y.d.path)) := by show ∀ W, _; rw [hSd]; exact fun W h => h.2.1.2
 have T4 : Hid (∀ W, S W → Below w.heap.size w W) := by show ∀ W, _; rw [hSd]; exact fun W h => h.2.2
 have hS : S Jw := by rw [hSd]; exact ⟨⟨rG, Jr⟩, ⟨Rd.go Ha.out b2, Rd.go Hb.out b2⟩, b2⟩
 clear hSd rG Gr Jr Gb Jb b1 b2 Gh Jh Ha Hb
 go_wp2_with (refine at_load _ _ rfl ?_)
 refine Stop.to ?_
 refine wpList_holdN S 4 hS ?_
 clear hS
 simp only [List.take_succ_cons, List.take_zero, List.drop_succ_cons, List.drop_zero]
 (refine hold_load_row rfl 42 _ rfl (G) rfl 42 _ _ (fun W hW => T0.out W hW) Tryz.underlying42 rfl (by kernel_rfl) ?_; simp only [Act.put, List.setIfInBounds_toArray, List.set_cons_zero, List.set_cons_succ])
 (refine hold_load_row rfl 42 _ rfl (J) rfl 42 _ _ (fun W hW => T1.out W hW) Tryz.underlying42 rfl (by kernel_rfl) ?_; simp only [Act.put, List.setIfInBounds_toArray, List.set_cons_zero, List.set_cons_succ])
 (refine hold_call_new rfl 25 _ (fun W => by (go_simp; try rfl)) (.int .i64 (cmpD x.d y.d)) (fun W hW => dlCmp_any x y W ⟨T2.out W hW, hla⟩ ⟨T3.out W hW, hlb⟩) ?_; simp only [Act.put, List.setIfInBounds_toArray, List.set_cons_zero, List.set_cons_succ])
 (refine hold_value rfl ?_ (fun W hW => ?_) ?_; rotate_left; (focus (go_simp; exact rfl)); simp only [Act.put, List.setIfInBounds_toArray, List.set_cons_zero, List.set_cons_succ])
 refine wpHold_nil fun W hS => ?_
 go_wp2_with fail
 go_ret
 exact ⟨ret_b (by by_cases h : cmpD x.d y.d = 0 <;> simp [h]), T4.out _ hS⟩
set_option maxRecDepth 100000 in
set_option maxHeartbeats 2000000 in
theorem refDlCmp_any (x y : DlV) (w : World) (hx : DlOk w x) (hy : DlOk w y) :
 Calls Tryz.prog 57 #[.agg x.cells, .agg y.cells] w fun e w' => e = .returned (.int .i64 (cmpD x.d y.d)) ∧ Below w.heap.size w w' := by
 have Ha := Lib.hid hx.rd
 have Hb := Lib.hid hy.rd
 have hla := hx.len
 have hlb := hy.len
 clear hx hy
 go_enter Tryz.func57, Tryz.ntmps57
 go_wp2_with (refine at_box _ _ rfl ?_)
 refine Stop.to ?_
 refine wpList_box_gen rfl 42 _ rfl x.cells rfl ?_
 intro G Gw Gh Gr Gb
 go_wp2_with (refine at_box _ _ rfl ?_)
 refine Stop.to ?_
 refine wpList_box_gen rfl 42 _ rfl y.cells rfl ?_
 intro J Jw Jh Jr Jb
 have rG := Gr.below Jb (Nat.lt_of_lt_of_le Gr.lt Jh)
 have b1 := (Below.refl w.heap.size w).trans (Gb.mono Gh)
 have b2 := b1.trans ((Jb.mono Jh).mono b1.size)
 obtain ⟨S, hSd⟩ : ∃ S, S = (fun W => (Row W G 42 x.cells ∧ Row W J 42 y.cells) ∧ (Rd W x.A (ints x.d.path) ∧ Rd W y.A (ints y.d.path)) ∧ Below w.heap.size w W) := ⟨_, rfl⟩
 have stS : St S := by rw [hSd]; infer_instance
 have T0 : Hid (∀ W, S W → Row W G 42 x.cells) := by show ∀ W, _; rw [hSd]; exact fun W h => h.1.1
 have T1 : Hid (∀ W, S W → Row W J 42 y.cells) := by show ∀ W, _; rw [hSd]; exact fun W h => h.1.2
 have T2 : Hid (∀ W, S W → Rd W x.A (ints x.d.path)) := by show ∀ W, _; rw [hSd]; exact fun W h => h.2.1.1
 have T3 : Hid (∀ W, S W → Rd W y.A (ints y.d.path)) := by show ∀ W, _; rw [hSd]; exact fun W h => h.2.1.2
 have T4 : Hid (∀ W, S W → Below w.heap.size w W) := by show ∀ W, _; rw [hSd]; exact fun W h => h.2.2
 have hS : S Jw := by rw [hSd]; exact ⟨⟨rG, Jr⟩, ⟨Rd.go Ha.out b2, Rd.go Hb.out b2⟩, b2⟩
 clear hSd rG Gr Jr Gb Jb b1 b2 Gh Jh Ha Hb
 go_wp2_with (refine at_any ?_)
 refine Stop.to ?_
 refine wpList_holdN S 6 hS ?_
 clear hS
 simp only [List.take_succ_cons, List.drop_succ_cons, List.drop_zero, List.take_nil]
 (refine hold_value rfl ?_ (fun W hW => ?_) ?_; rotate_left; (focus (go_simp; exact rfl)); simp only [Act.put, List.setIfInBounds_toArray, List.set_cons_zero, List.set_cons_succ])
 (refine hold_value rfl ?_ (fun W hW => ?_) ?_; rotate_left; (focus (have c := (T0.out W hW).cellv (i := 0) (v := .slice x.A x.d.path.length x.cap) rfl; go_simp; exact rfl)); simp only [Act.put, List.setIfInBounds_toArray, List.set_cons_zero, List.set_cons_succ])
 (refine hold_value rfl ?_ (fun W hW => ?_) ?_; rotate_left; (focus (go_simp; exact rfl)); simp only [Act.put, List.setIfInBounds_toArray, List.set_cons_zero, List.set_cons_succ])
 (refine hold_value rfl ?_ (fun W hW => ?_) ?_; rotate_left; (focus (have c := (T1.out W hW).cellv (i := 0) (v := .slice y.A y.d.path.length y.cap) rfl; go_simp; exact rfl)); simp only [Act.put, List.setIfInBounds_toArray, List.set_cons_zero, List.set_cons_succ])
 (refine hold_call_new rfl 109 _ (fun W => by (go_simp; try rfl)) (.int .i64 (cmpL x.d.path y.d.path)) (fun W hW => refCmp_any x.A y.A x.cap y.cap _ _ W (T2.out W hW) (T3.out W hW) hla hlb) ?_; simp only [Act.put, List.setIfInBounds_toArray, List.set_cons_zero, List.set_cons_succ])
 (refine hold_value rfl ?_ (fun W hW => ?_) ?_; rotate_left; (focus (go_simp; exact rfl)); simp only [Act.put, List.setIfInBounds_toArray, List.set_cons_zero, List.set_cons_succ])
 refine wpHold_nil fun W hS => ?_
 have c1 := (T0.out _ hS).cellv (i := 1) (v := .int .i64 x.d.op) rfl
 have c2 := (T0.out _ hS).cellv (i := 2) (v := .int .i64 x.d.n) rfl
 have d1 := (T1.out _ hS).cellv (i := 1) (v := .int .i64 y.d.op) rfl
 have d2 := (T1.out _ hS).cellv (i := 2) (v := .int .i64 y.d.n) rfl
 by_cases h1 : cmpL x.d.path y.d.path = 0
 · have hb1 : (cmpL x.d.path y.d.path != 0) = false := by simp [h1]
   by_cases h2 : x.d.op = y.d.op
   · have hb2 : (x.d.op != y.d.op) = false := by simp [h2]
     have he : cmpI x.d.n y.d.n = cmpD x.d y.d := by unfold cmpD orI; rw [h1, if_neg (by simp), cmpI_eq.2 h2, if_neg (by simp)]
     clear h1 h2
     go_wp2_with fail
     refine (less_any _ _ _).mono ?_
     rintro e w1 ⟨rfl, rfl⟩
     go_wp2_with fail
     go_ret
     exact ⟨ret_i' (by first | exact he | rfl), T4.out _ hS⟩
   · have hb2 : (x.d.op != y.d.op) = true := by simpa using h2
     have he : cmpI x.d.op y.d.op = cmpD x.d y.d := by unfold cmpD orI; rw [h1, if_neg (by simp), if_pos (fun h => h2 (cmpI_eq.1 h))]
     clear h1 h2
     go_wp2_with fail
     refine (less_any _ _ _).mono ?_
     rintro e w1 ⟨rfl, rfl⟩
     go_wp2_with fail
     go_ret
     exact ⟨ret_i' (by first | exact he | rfl), T4.out _ hS⟩
 · have hb1 : (cmpL x.d.path y.d.path != 0) = true := by simpa using h1
   have he : cmpL x.d.path y.d.path = cmpD x.d y.d := by unfold cmpD orI; rw [if_pos h1]
   clear h1
   go_wp2_with fail
   go_ret
   exact ⟨ret_i' he, T4.out _ hS⟩
end Go.Proofs.YtcgglolckkeeiaaGreat
namespace Go.Proofs.YtcgglolckkeeiaaGreat
set_option linter.unusedVariables false
open Go.RowKit Go.Deep
def Sc.cells (s : Sc) : Array Value := #[.int .i64 s.alive, .int .i64 s.killed, .int .i64 s.timeout]
theorem zero_counts (w : World) : (zeroValue 89).run Tryz.prog w = .ok (.agg #[.int .i64 0, .int .i64 0, .int .i64 0]) w := by kernel_rfl
theorem zero_score (w : World) : (zeroValue 29).run Tryz.prog w = .ok (.agg #[.int .i64 0, .int .i64 0, .int .i64 0]) w := by kernel_rfl
set_option maxHeartbeats 2000000 in
theorem scBack_any (s : Sc) (w : World) : Calls Tryz.prog 58 #[.agg s.cells] w fun e w' => e = .returned (.agg s.cells) ∧ Below w.heap.size w w' := by
 have zc := zero_score
 go_enter Tryz.func58, Tryz.ntmps58
 go_wp2_with (refine at_box _ _ rfl ?_)
 refine Stop.to ?_
 refine wpList_box_gen rfl 89 _ rfl s.cells rfl ?_
 intro G Gw Gh Gr Gb
 go_wp2_with (refine at_alloc _ rfl ?_)
 refine Stop.to ?_
 refine wpList_alloc_gen rfl 29 rfl _ _ (zc _) rfl ?_
 intro J Jw Jh Jr Jb
 have rG := Gr.below Jb (Nat.lt_of_lt_of_le Gr.lt Jh)
 have b1 := (Below.refl w.heap.size w).trans (Gb.mono Gh)
 have b2 := b1.trans ((Jb.mono Jh).mono b1.size)
 have hJ : w.heap.size ≤ J := Nat.le_trans b1.size Jh
 have c0 := rG.cellv (i := 0) (v := .int .i64 s.alive) rfl
 have c1 := rG.cellv (i := 1) (v := .int .i64 s.killed) rfl
 have c2 := rG.cellv (i := 2) (v := .int .i64 s.timeout) rfl
 clear Gr Gb Jb b1 Gh Jh
 go_wp2_with (refine at_store _ _ _ rfl ?_)
 refine Stop.to ?_
 refine wpList_store_gen rfl 29 _ _ rfl J s.cells rfl rfl 29 _ Jr (by kernel_rfl) rfl (by simp [Value.oneCell', Sc.cells]) ?_
 intro W9 r9 o9
 go_wp2_with fail
 refine bodyPost_ret (results_cell_row Tryz.results58 _ _ J 29 _ (0, 0) _ rfl r9 Tryz.underlying29 rfl (by kernel_rfl)) rfl ?_
 exact ⟨rfl, b2.trans (o9.below hJ)⟩
end Go.Proofs.YtcgglolckkeeiaaGreat
namespace Go.Proofs.YtcgglolckkeeiaaGreat
set_option linter.unusedVariables false
open Go.RowKit Go.Deep
structure MtV where
 A : Option Addr
 cap : Nat
 m : Mt
def MtV.dl (x : MtV) : DlV := ⟨x.A, x.cap, x.m.d⟩
def MtV.cells (x : MtV) : List Value := [.slice x.A x.m.d.path.length x.cap, .int .i64 x.m.d.op, .int .i64 x.m.d.n, .int .i64 x.m.verdict, .int .i64 x.m.test, .int .i64 x.m.kind, .int .i64 x.m.value, .string ⟨x.m.digest.toArray⟩]
structure MtOk (W : World) (x : MtV) : Prop where
 rd : Rd W x.A (ints x.m.d.path)
 len : x.m.d.path.length ≤ 1000000
 nil : x.A = none → x.m.d.path = []
 dig : x.m.digest.length ≤ 1000000
theorem MtOk.go {W W' : World} {x : MtV} (h : MtOk W x) (b : Below W.heap.size W W') : MtOk W' x := ⟨Rd.go h.rd b, h.len, h.nil, h.dig⟩
theorem MtOk.dl {W : World} {x : MtV} (h : MtOk W x) : DlOk W x.dl := ⟨h.rd, h.len⟩
instance St.mtok {x : MtV} : St (fun W => MtOk W x) := ⟨fun h b => h.go b⟩
instance St.mtsok {l : List MtV} : St (fun W => ∀ x ∈ l, MtOk W x) := ⟨fun h b x hx => (h x hx).go b⟩
theorem mt_dl {W : World} {G : Nat} {t : TypeId} {x : MtV} (h : Row W G t x.cells.toArray) : ∀ j v, x.dl.cells.toList[j]? = some v → W.cell? ((⟨G, 0, none⟩ : Addr).add j) = some v :=
 Row.from_ (cur := x.cells.toArray) h 0 (fun j v hj => by
  match j, hj with
  | 0, hj | 1, hj | 2, hj => exact hj
  | j + 3, hj => simp [DlV.cells] at hj)
theorem sameM_cases (a b : Mt) : (¬ cmpD a.d b.d = 0 → sameM a b = false) ∧ (¬ a.verdict = b.verdict → sameM a b = false) ∧ (¬ a.test = b.test → sameM a b = false) ∧ (¬ a.kind = b.kind → sameM a b = false) ∧ (¬ a.value = b.value → sameM a b = false) ∧ (cmpD a.d b.d = 0 → a.verdict = b.verdict → a.test = b.test → a.kind = b.kind → a.value = b.value → sameM a b = (a.digest == b.digest)) := by
 unfold sameM
 refine ⟨fun h => ?_, fun h => ?_, fun h => ?_, fun h => ?_, fun h => ?_, fun h1 h2 h3 h4 h5 => ?_⟩
 all_goals (first | simp [h]; done | (simp [h1, h2, h3, h4, h5]; by_cases e : a.digest = b.digest <;> simp [e]))
set_option maxRecDepth 100000 in
set_option maxHeartbeats 4000000 in
theorem mtSame_any (x y : MtV) (w : World) (hx : MtOk w x) (hy : MtOk w y) :
 Calls Tryz.prog 47 #[.agg x.cells.toArray, .agg y.cells.toArray] w fun e w' => e = .returned (.bool (sameM x.m y.m)) ∧ Below w.heap.size w w' := by
 have Ha := Lib.hid hx
 have Hb := Lib.hid hy
 clear hx hy
 go_enter Tryz.func47, Tryz.ntmps47
 go_wp2_with (refine at_box _ _ rfl ?_)
 refine Stop.to ?_
 refine wpList_box_gen rfl 47 _ rfl x.cells.toArray rfl ?_
 intro G Gw Gh Gr Gb
 go_wp2_with (refine at_box _ _ rfl ?_)
 refine Stop.to ?_
 refine wpList_box_gen rfl 47 _ rfl y.cells.toArray rfl ?_
 intro J Jw Jh Jr Jb
 have rG := Gr.below Jb (Nat.lt_of_lt_of_le Gr.lt Jh)
 have b1 := (Below.refl w.heap.size w).trans (Gb.mono Gh)
 have b2 := b1.trans ((Jb.mono Jh).mono b1.size)
 have Hs := Lib.hid (dlSame_any x.dl y.dl Jw (Ha.out.go b2).dl (Hb.out.go b2).dl)
 go_wp2_with (first | (refine wpList_load_at rfl 42 _ rfl ⟨G, 0, none⟩ rfl x.dl.cells.toList _ (mt_dl rG) Tryz.underlying42 rfl (by kernel_rfl) ?_) | (refine wpList_load_at rfl 42 _ rfl ⟨J, 0, none⟩ rfl y.dl.cells.toList _ (mt_dl Jr) Tryz.underlying42 rfl (by kernel_rfl) ?_))
 refine Hs.out.mono ?_
 rintro e w1 ⟨rfl, b3⟩
 have rG' := rG.below b3 (by have := rG.lt; exact rG.lt)
 have rJ' := Jr.below b3 Jr.lt
 have c1 := rG'.cellv (i := 3) (v := .int .i64 x.m.verdict) rfl
 have c2 := rG'.cellv (i := 4) (v := .int .i64 x.m.test) rfl
 have c3 := rG'.cellv (i := 7) (v := .string ⟨x.m.digest.toArray⟩) rfl
 have d1 := rJ'.cellv (i := 3) (v := .int .i64 y.m.verdict) rfl
 have d2 := rJ'.cellv (i := 4) (v := .int .i64 y.m.test) rfl
 have d3 := rJ'.cellv (i := 7) (v := .string ⟨y.m.digest.toArray⟩) rfl
 have c5 := rG'.cellv (i := 5) (v := .int .i64 x.m.kind) rfl
 have c6 := rG'.cellv (i := 6) (v := .int .i64 x.m.value) rfl
 have d5 := rJ'.cellv (i := 5) (v := .int .i64 y.m.kind) rfl
 have d6 := rJ'.cellv (i := 6) (v := .int .i64 y.m.value) rfl
 have hbb := b2.trans (b3.mono b2.size)
 clear Ha Hb Hs rG Gr Gb Jr Jb b1 b2 b3 Gh Jh rG' rJ'
 have Hall := Lib.hid (sameM_cases x.m y.m)
 by_cases h1 : cmpD x.dl.d y.dl.d = 0
 rotate_left
 · go_wp2_with fail
   go_ret
   exact ⟨ret_b (Hall.out.1 h1), hbb⟩
 by_cases h2 : x.m.verdict = y.m.verdict
 rotate_left
 · go_wp2_with fail
   go_ret
   exact ⟨ret_b (Hall.out.2.1 h2), hbb⟩
 by_cases h3 : x.m.test = y.m.test
 rotate_left
 · go_wp2_with fail
   go_ret
   exact ⟨ret_b (Hall.out.2.2.1 h3), hbb⟩
 by_cases h4 : x.m.kind = y.m.kind
 rotate_left
 · have h4' := Lib.hid h4
   have h5 : (x.m.kind == y.m.kind) = false := by simpa using h4
   clear h4
   go_wp2_with fail
   go_ret
   exact ⟨ret_b (Hall.out.2.2.2.1 h4'.out), hbb⟩
 by_cases h5 : x.m.value = y.m.value
 rotate_left
 · have h5' := Lib.hid h5
   have h6 : (x.m.value == y.m.value) = false := by simpa using h5
   clear h5
   go_wp2_with fail
   go_ret
   exact ⟨ret_b (Hall.out.2.2.2.2.1 h5'.out), hbb⟩
 · go_wp2_with fail
   go_ret
   exact ⟨ret_b (Hall.out.2.2.2.2.2 h1 h2 h3 h4 h5), hbb⟩
set_option maxRecDepth 100000 in
set_option maxHeartbeats 4000000 in
theorem refMtSame_any (x y : MtV) (w : World) (hx : MtOk w x) (hy : MtOk w y) :
 Calls Tryz.prog 52 #[.agg x.cells.toArray, .agg y.cells.toArray] w fun e w' => e = .returned (.bool (sameM x.m y.m)) ∧ Below w.heap.size w w' := by
 have Ha := Lib.hid hx
 have Hb := Lib.hid hy
 clear hx hy
 go_enter Tryz.func52, Tryz.ntmps52
 go_wp2_with (refine at_box _ _ rfl ?_)
 refine Stop.to ?_
 refine wpList_box_gen rfl 47 _ rfl x.cells.toArray rfl ?_
 intro G Gw Gh Gr Gb
 go_wp2_with (refine at_box _ _ rfl ?_)
 refine Stop.to ?_
 refine wpList_box_gen rfl 47 _ rfl y.cells.toArray rfl ?_
 intro J Jw Jh Jr Jb
 have rG := Gr.below Jb (Nat.lt_of_lt_of_le Gr.lt Jh)
 have b1 := (Below.refl w.heap.size w).trans (Gb.mono Gh)
 have b2 := b1.trans ((Jb.mono Jh).mono b1.size)
 have Hs := Lib.hid (refDlCmp_any x.dl y.dl Jw (Ha.out.go b2).dl (Hb.out.go b2).dl)
 go_wp2_with (first | (refine wpList_load_at rfl 42 _ rfl ⟨G, 0, none⟩ rfl x.dl.cells.toList _ (mt_dl rG) Tryz.underlying42 rfl (by kernel_rfl) ?_) | (refine wpList_load_at rfl 42 _ rfl ⟨J, 0, none⟩ rfl y.dl.cells.toList _ (mt_dl Jr) Tryz.underlying42 rfl (by kernel_rfl) ?_))
 refine Hs.out.mono ?_
 rintro e w1 ⟨rfl, b3⟩
 have rG' := rG.below b3 (by have := rG.lt; exact rG.lt)
 have rJ' := Jr.below b3 Jr.lt
 have c1 := rG'.cellv (i := 3) (v := .int .i64 x.m.verdict) rfl
 have c2 := rG'.cellv (i := 4) (v := .int .i64 x.m.test) rfl
 have c3 := rG'.cellv (i := 7) (v := .string ⟨x.m.digest.toArray⟩) rfl
 have d1 := rJ'.cellv (i := 3) (v := .int .i64 y.m.verdict) rfl
 have d2 := rJ'.cellv (i := 4) (v := .int .i64 y.m.test) rfl
 have d3 := rJ'.cellv (i := 7) (v := .string ⟨y.m.digest.toArray⟩) rfl
 have c5 := rG'.cellv (i := 5) (v := .int .i64 x.m.kind) rfl
 have c6 := rG'.cellv (i := 6) (v := .int .i64 x.m.value) rfl
 have d5 := rJ'.cellv (i := 5) (v := .int .i64 y.m.kind) rfl
 have d6 := rJ'.cellv (i := 6) (v := .int .i64 y.m.value) rfl
 have hbb := b2.trans (b3.mono b2.size)
 clear Ha Hb Hs rG Gr Gb Jr Jb b1 b2 b3 Gh Jh rG' rJ'
 have Hall := Lib.hid (sameM_cases x.m y.m)
 by_cases h1 : cmpD x.dl.d y.dl.d = 0
 rotate_left
 · have h1' : (cmpD x.dl.d y.dl.d == 0) = false := by simpa using h1
   go_wp2_with fail
   go_ret
   exact ⟨ret_b (Hall.out.1 h1), hbb⟩
 by_cases h2 : x.m.verdict = y.m.verdict
 rotate_left
 · go_wp2_with fail
   go_ret
   exact ⟨ret_b (Hall.out.2.1 h2), hbb⟩
 by_cases h3 : x.m.test = y.m.test
 rotate_left
 · go_wp2_with fail
   go_ret
   exact ⟨ret_b (Hall.out.2.2.1 h3), hbb⟩
 by_cases h4 : x.m.kind = y.m.kind
 rotate_left
 · have h4' := Lib.hid h4
   have h5 : (x.m.kind == y.m.kind) = false := by simpa using h4
   clear h4
   go_wp2_with fail
   go_ret
   exact ⟨ret_b (Hall.out.2.2.2.1 h4'.out), hbb⟩
 by_cases h5 : x.m.value = y.m.value
 rotate_left
 · have h5' := Lib.hid h5
   have h6 : (x.m.value == y.m.value) = false := by simpa using h5
   clear h5
   go_wp2_with fail
   go_ret
   exact ⟨ret_b (Hall.out.2.2.2.2.1 h5'.out), hbb⟩
 · go_wp2_with fail
   go_ret
   exact ⟨ret_b (Hall.out.2.2.2.2.2 h1 h2 h3 h4 h5), hbb⟩
end Go.Proofs.YtcgglolckkeeiaaGreat
