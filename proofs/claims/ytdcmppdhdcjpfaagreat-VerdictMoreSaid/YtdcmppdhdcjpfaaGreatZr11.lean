/- Lemmas for VerdictMoreP. -/
import Derived.Test.YtdcmppdhdcjpfaaGreatZr1
import Derived.Test.YtdcmppdhdcjpfaaGreatZr4
import Derived.Test.YtdcmppdhdcjpfaaGreatZr3
import Derived.Test.YtdcmppdhdcjpfaaGreatZr7
set_option linter.unusedVariables false
set_option linter.unusedSimpArgs false
set_option maxRecDepth 100000
set_option maxHeartbeats 16000000
namespace Go.Proofs.YtdcmppdhdcjpfaaGreat
open Go.RowKit Go.Deep
theorem ZF {a b : Int} (h : a = b) : Ending.returned (.int .i64 a) = .returned (.int .i64 b) := by rw [h]
theorem Aes (a : Int) (w : World) : Calls Tryz.prog 236 #[.int .i64 a] w fun e w' => e = .returned (.bool false) ∧ w = w' := by
 have h : (a != a) = false := by simp
 go_enter Tryz.func236, Tryz.ntmps236
 go_wp2
 go_ret
 exact ⟨Z9 (by simp), rfl⟩
theorem YA (a b : Int) (w : World) : Calls Tryz.prog 162 #[.int .i64 a, .int .i64 b] w fun e w' => e = .returned (.int .i64 (Zy a b)) ∧ w = w' := by
 go_enter Tryz.func162, Tryz.ntmps162
 go_wp2_with fail
 refine (Aes _ _).mono ?_
 rintro e w1 ⟨rfl, rfl⟩
 go_wp2_with fail
 refine (Aes _ _).mono ?_
 rintro e w1 ⟨rfl, rfl⟩
 by_cases h1 : a < b
 · go_wp2
   go_ret
   exact ⟨ZF (by unfold Zy; rw [if_pos h1]), rfl⟩
 · by_cases h2 : b < a
   · go_wp2
     go_ret
     exact ⟨ZF (by unfold Zy; rw [if_neg (show ¬ a < b by omega), if_pos (show b < a by omega)]), rfl⟩
   · go_wp2
     go_ret
     exact ⟨ZF (by unfold Zy; rw [if_neg (show ¬ a < b by omega), if_neg (show ¬ b < a by omega)]), rfl⟩
theorem AeO {a b : List Int} {k : Nat} {x y : Int} (h : a.take k = b.take k) (hx : a[k]? = some x) (hy : b[k]? = some y) (hc : Zy x y ≠ 0) : Zn a b = Zy x y := by
 have ha : a = a.take k ++ x :: a.drop (k + 1) := by
  obtain ⟨hl, e⟩ := List.getElem?_eq_some_iff.1 hx
  rw [← e, ← List.drop_eq_getElem_cons hl, List.take_append_drop]
 have hb : b = b.take k ++ y :: b.drop (k + 1) := by
  obtain ⟨hl, e⟩ := List.getElem?_eq_some_iff.1 hy
  rw [← e, ← List.drop_eq_getElem_cons hl, List.take_append_drop]
 rw [ha, hb, h]
 generalize b.take k = c
 clear h ha hb hx hy
 induction c with
 | nil => rw [List.nil_append, List.nil_append, Zn, if_pos hc]
 | cons z c ih => rw [List.cons_append, List.cons_append, Zn, X5, if_neg (by simp)]; exact ih
theorem AbK : ∀ {a b : List Int} {k : Nat}, a.take k = b.take k → (k = a.length ∨ k = b.length) → k ≤ a.length → k ≤ b.length → Zn a b = Zy (a.length : Int) (b.length : Int)
 | [], [], _, _, _, _, _ => by simp [Zn, Zy]
 | [], _ :: _, _, _, _, _, _ => by simp [Zn, Zy] <;> omega
 | _ :: _, [], _, _, _, _, _ => by simp [Zn, Zy] <;> omega
 | x :: xs, y :: ys, 0, h, hk, _, _ => by simp at hk
 | x :: xs, y :: ys, k + 1, h, hk, h1, h2 => by
  simp only [List.take_succ_cons, List.cons.injEq] at h
  obtain ⟨rfl, h⟩ := h
  rw [Zn, X5, if_neg (by simp), AbK h (by simpa using hk) (by simpa using h1) (by simpa using h2)]
  unfold Zy
  simp only [List.length_cons]
  repeat' split
  all_goals omega
theorem Acz (A B : Option Addr) (c d : Nat) (a b : List Int) (w : World) (ha : Rd w A (Qi a)) (hb : Rd w B (Qi b)) (hla : a.length ≤ 1000000) (hlb : b.length ≤ 1000000) :
 Calls Tryz.prog 161 #[.slice A a.length c, .slice B b.length d] w fun e w' => e = .returned (.int .i64 (Zn a b)) ∧ Below w.heap.size w w' := by
 obtain ⟨S, hSd⟩ : ∃ S, S = (fun W => Rd W A (Qi a) ∧ Rd W B (Qi b) ∧ Below w.heap.size w W) := ⟨_, rfl⟩
 have stS : St S := by rw [hSd]; infer_instance
 have S0' : Hid (∀ W, S W → Rd W A (Qi a)) := by show ∀ W, _; rw [hSd]; exact fun W h => h.1
 have S1' : Hid (∀ W, S W → Rd W B (Qi b)) := by show ∀ W, _; rw [hSd]; exact fun W h => h.2.1
 have S2' : Hid (∀ W, S W → Below w.heap.size w W) := by show ∀ W, _; rw [hSd]; exact fun W h => h.2.2
 have hS : S w := by rw [hSd]; exact ⟨ha, hb, Below.refl _ _⟩
 clear hSd ha hb
 obtain ⟨m, hm⟩ : ∃ m : Nat, m = Nat.min a.length b.length := ⟨_, rfl⟩
 have hm1 : m ≤ a.length ∧ m ≤ b.length ∧ (m = a.length ∨ m = b.length) := by
  have h : m = min a.length b.length := hm
  omega
 clear hm
 go_enter Tryz.func161, Tryz.ntmps161
 go_wp2_with fail
 all_goals
  go_loopw [12] (fun i wr => ∃ k : Nat, i = .int .i64 (k : Int) ∧ k ≤ m ∧ Hid (a.take k = b.take k) ∧ S wr) (fun i _ => m - (intOf i).toNat)
  case atStart => exact ⟨0, by simp, Nat.zero_le _, by simp [Hid], hS⟩
  case round =>
   clear hS
   obtain ⟨k, rfl, hk, Hk, hS⟩ := hrel
   by_cases hkn : k < m
   · have hkn' : (k : Int) < (m : Int) := by omega
     obtain ⟨e, he⟩ : ∃ e, a[k]? = some e := ⟨_, List.getElem?_eq_getElem (by omega)⟩
     obtain ⟨f, hf⟩ : ∃ f, b[k]? = some f := ⟨_, List.getElem?_eq_getElem (by omega)⟩
     obtain ⟨ad, had, _⟩ := Zf (S0'.out _ hS) he
     obtain ⟨bd, hbd, _⟩ := Zf (S1'.out _ hS) hf
     subst had hbd
     have Hca : Hid (∀ W, S W → W.cell? (ad.add k) = some (.int .i64 e)) := fun W h => by
      obtain ⟨ad', h1, h2⟩ := Zf (S0'.out _ h) he
      injection h1 with h1; subst h1; exact h2
     have Hcb : Hid (∀ W, S W → W.cell? (bd.add k) = some (.int .i64 f)) := fun W h => by
      obtain ⟨ad', h1, h2⟩ := Zf (S1'.out _ h) hf
      injection h1 with h1; subst h1; exact h2
     have He := Lh he
     have Hf := Lh hf
     have hka : (k : Int) < (a.length : Int) := by omega
     have hkb : (k : Int) < (b.length : Int) := by omega
     have ewk : IntKind.i64.wrap ((k : Int) + 1) = (k : Int) + 1 := IntWalk.i64_in _ (by omega)
     clear he hf
     go_wp2_with fail
     refine ZX S (by kernel_rfl) (by kernel_rfl) (St.drew hS) ?_
     clear hS
     iterate 3 (refine Qg rfl ?_ (fun W hW => ?_) ?_; rotate_left; (focus (go_simp; exact rfl)); simp only [Act.put, Qa, Qb, Qc])
     (refine Qg rfl ?_ (fun W hW => ?_) ?_; rotate_left; (focus (have c := Hca.out W hW; go_simp; exact rfl)); simp only [Act.put, Qa, Qb, Qc])
     iterate 3 (refine Qg rfl ?_ (fun W hW => ?_) ?_; rotate_left; (focus (go_simp; exact rfl)); simp only [Act.put, Qa, Qb, Qc])
     (refine Qg rfl ?_ (fun W hW => ?_) ?_; rotate_left; (focus (have c := Hcb.out W hW; go_simp; exact rfl)); simp only [Act.put, Qa, Qb, Qc])
     (refine QE rfl 162 _ (fun W => by (go_simp; try rfl)) (.int .i64 (Zy e f)) (fun W hW => (YA e f W).mono fun e w' h => ⟨h.1, by rw [← h.2]; exact Below.refl _ _⟩) ?_; simp only [Act.put, Qa, Qb, Qc])
     (refine Qg rfl ?_ (fun W hW => ?_) ?_; rotate_left; (focus (go_simp; exact rfl)); simp only [Act.put, Qa, Qb, Qc])
     refine QV fun W hS => ?_
     by_cases hef : Zy e f = 0
     · have hnn : (Zy e f != 0) = false := by simp [hef]
       have Hst : Hid (a.take (k + 1) = b.take (k + 1)) := by
        show _ = _
        rw [List.take_add_one, List.take_add_one, Hk.out, He.out, Hf.out, cmpI_eq.1 hef]
       clear Hca Hcb He Hf Hk hef
       go_wp2_with fail
       go_roundw
       case rel => exact ⟨k + 1, by go_num, by omega, Hst, hS⟩
       case measure => simp [intOf]; omega
     · have hnn : (Zy e f != 0) = true := by simpa using hef
       have Hc := Lh (AeO Hk.out He.out Hf.out hef)
       clear Hca Hcb He Hf Hk hef
       go_wp2_with fail
       go_ret
       exact ⟨ZF Hc.out.symm, S2'.out _ hS⟩
   · obtain rfl : k = m := by omega
     have Hc := Lh (AbK Hk.out hm1.2.2 hm1.1 hm1.2.1)
     (first | have hkm : ¬ ((k : Int) < (b.length : Int)) := by omega | have hkm : ¬ ((k : Int) < (a.length : Int)) := by omega)
     clear hkn hk Hk
     go_wp2_with fail
     refine (YA _ _ _).mono ?_
     rintro e w1 ⟨rfl, rfl⟩
     go_wp2_with fail
     go_ret
     exact ⟨ZF Hc.out.symm, S2'.out _ hS⟩
def orL : List Int → Int
 | [] => 0
 | x :: l => if x = 0 then orL l else x
theorem Agm {a : List Int} {k : Nat} {e : Int} (h : a[k]? = some e) : orL (a.drop k) = if e = 0 then orL (a.drop (k + 1)) else e := by
 obtain ⟨hl, rfl⟩ := List.getElem?_eq_some_iff.1 h
 rw [List.drop_eq_getElem_cons hl, orL]
theorem AeP (A : Option Addr) (c : Nat) (a : List Int) (w : World) (ha : Rd w A (Qi a)) (hla : a.length ≤ 1000000) :
 Calls Tryz.prog 160 #[.slice A a.length c] w fun e w' => e = .returned (.int .i64 (orL a)) ∧ Below w.heap.size w w' := by
 obtain ⟨S, hSd⟩ : ∃ S, S = (fun W => Rd W A (Qi a) ∧ Below w.heap.size w W) := ⟨_, rfl⟩
 have stS : St S := by rw [hSd]; infer_instance
 have S0' : Hid (∀ W, S W → Rd W A (Qi a)) := by show ∀ W, _; rw [hSd]; exact fun W h => h.1
 have S2' : Hid (∀ W, S W → Below w.heap.size w W) := by show ∀ W, _; rw [hSd]; exact fun W h => h.2
 have hS : S w := by rw [hSd]; exact ⟨ha, Below.refl _ _⟩
 clear hSd ha
 go_enter Tryz.func160, Tryz.ntmps160
 go_wp2_with fail
 go_loopw [8] (fun i wr => ∃ k : Nat, i = .int .i64 (k : Int) ∧ k ≤ a.length ∧ Hid (orL a = orL (a.drop k)) ∧ S wr) (fun i _ => a.length - (intOf i).toNat)
 case atStart => exact ⟨0, by simp, Nat.zero_le _, by simp [Hid], hS⟩
 case round =>
  clear hS
  obtain ⟨k, rfl, hk, Hk, hS⟩ := hrel
  by_cases hkn : k < a.length
  · obtain ⟨e, he⟩ : ∃ e, a[k]? = some e := ⟨_, List.getElem?_eq_getElem (by omega)⟩
    obtain ⟨ad, had, _⟩ := Zf (S0'.out _ hS) he
    subst had
    have Hca : Hid (∀ W, S W → W.cell? (ad.add k) = some (.int .i64 e)) := fun W h => by
     obtain ⟨ad', h1, h2⟩ := Zf (S0'.out _ h) he
     injection h1 with h1; subst h1; exact h2
    have Hs := Lh (Agm he)
    have hka : (k : Int) < (a.length : Int) := by omega
    have ewk : IntKind.i64.wrap ((k : Int) + 1) = (k : Int) + 1 := IntWalk.i64_in _ (by omega)
    clear he
    have hcl := Hca.out _ hS
    by_cases hef : e = 0
    · have hnn : (e != 0) = false := by simp [hef]
      have Hst : Hid (orL a = orL (a.drop (k + 1))) := by
       show _ = _
       rw [Hk.out, Hs.out, if_pos hef]
      clear Hca Hk Hs hef
      go_wp2_with fail
      go_roundw
      case rel => exact ⟨k + 1, by go_num, by omega, Hst, hS⟩
      case measure => simp [intOf]; omega
    · have hnn : (e != 0) = true := by simpa using hef
      have Hst : Hid (orL a = e) := by
       show _ = _
       rw [Hk.out, Hs.out, if_neg hef]
      clear Hca Hk Hs hef
      go_wp2_with fail
      go_ret
      exact ⟨ZF Hst.out.symm, S2'.out _ hS⟩
  · obtain rfl : k = a.length := by omega
    have Hc : Hid (orL a = 0) := by
     show _ = _
     rw [Hk.out, List.drop_length, orL]
    clear hkn hk Hk
    go_wp2_with fail
    go_ret
    exact ⟨ZF Hc.out.symm, S2'.out _ hS⟩
structure DlV where
 A : Option Addr
 cap : Nat
 d : Dl
def DlV.cells (x : DlV) : Array Value := #[.slice x.A x.d.path.length x.cap, .int .i64 x.d.op, .int .i64 x.d.n]
structure DlOk (W : World) (x : DlV) : Prop where
 rd : Rd W x.A (Qi x.d.path)
 len : x.d.path.length ≤ 1000000
theorem Afj (a b c : Int) : orL [a, b, c] = orI a (orI b c) := by
 unfold orL orL orL orL orI
 repeat' split
 all_goals first | rfl | omega
theorem EW (x y : DlV) (w : World) (hx : DlOk w x) (hy : DlOk w y) :
 Calls Tryz.prog 80 #[.agg x.cells, .agg y.cells] w fun e w' => e = .returned (.int .i64 (Jv x.d y.d)) ∧ Below w.heap.size w w' := by
 obtain ⟨A, cA, ⟨a, op1, n1⟩⟩ := x
 obtain ⟨B, cB, ⟨b, op2, n2⟩⟩ := y
 obtain ⟨ha, hla⟩ := hx
 obtain ⟨hb, hlb⟩ := hy
 simp only at ha hla hb hlb
 unfold DlV.cells
 show Calls _ _ #[.agg #[.slice A a.length cA, .int .i64 op1, .int .i64 n1], .agg #[.slice B b.length cB, .int .i64 op2, .int .i64 n2]] _ _
 have Ha := Lh ha
 have Hb := Lh hb
 clear ha hb
 go_enter Tryz.func80, Tryz.ntmps80
 go_wp2_with (refine Qp _ _ rfl ?_)
 refine Stop.to ?_
 refine Qf rfl 35 _ rfl #[.slice A a.length cA, .int .i64 op1, .int .i64 n1] rfl ?_
 intro G Gw Gh Gr Gb
 go_wp2_with (refine Qp _ _ rfl ?_)
 refine Stop.to ?_
 refine Qf rfl 35 _ rfl #[.slice B b.length cB, .int .i64 op2, .int .i64 n2] rfl ?_
 intro J Jw Jh Jr Jb
 have rG := Gr.below Jb (Nat.lt_of_lt_of_le Gr.lt Jh)
 have b1 := (Below.refl w.heap.size w).trans (Gb.mono Gh)
 have b2 := b1.trans ((Jb.mono Jh).mono b1.size)
 obtain ⟨S, hSd⟩ : ∃ S, S = (fun W => (Row W G 35 #[.slice A a.length cA, .int .i64 op1, .int .i64 n1] ∧ Row W J 35 #[.slice B b.length cB, .int .i64 op2, .int .i64 n2]) ∧ (Rd W A (Qi a) ∧ Rd W B (Qi b)) ∧ Below w.heap.size w W) := ⟨_, rfl⟩
 have stS : St S := by rw [hSd]; infer_instance
 have T0 : Hid (∀ W, S W → Row W G 35 #[.slice A a.length cA, .int .i64 op1, .int .i64 n1]) := by show ∀ W, _; rw [hSd]; exact fun W h => h.1.1
 have T1 : Hid (∀ W, S W → Row W J 35 #[.slice B b.length cB, .int .i64 op2, .int .i64 n2]) := by show ∀ W, _; rw [hSd]; exact fun W h => h.1.2
 have T2 : Hid (∀ W, S W → Rd W A (Qi a)) := by show ∀ W, _; rw [hSd]; exact fun W h => h.2.1.1
 have T3 : Hid (∀ W, S W → Rd W B (Qi b)) := by show ∀ W, _; rw [hSd]; exact fun W h => h.2.1.2
 have T4 : Hid (∀ W, S W → Below w.heap.size w W) := by show ∀ W, _; rw [hSd]; exact fun W h => h.2.2
 have hS : S Jw := by rw [hSd]; exact ⟨⟨rG, Jr⟩, ⟨Rd.go Ha.out b2, Rd.go Hb.out b2⟩, b2⟩
 clear hSd rG Gr Jr Gb Jb b1 b2 Gh Jh Ha Hb
 go_wp2_with fail
 refine Zt S 15 (by kernel_rfl) (by kernel_rfl) (St.drew hS) ?_
 clear hS
 simp only [List.take_succ_cons, List.take_zero, List.drop_succ_cons, List.drop_zero]
 (refine Qg rfl ?_ (fun W hW => ?_) ?_; rotate_left; (focus (go_simp; exact rfl)); simp only [Act.put, Qa, Qb, Qc])
 (refine Qg rfl ?_ (fun W hW => ?_) ?_; rotate_left; (focus (have c := (T0.out W hW).cellv (i := 0) (v := .slice A a.length cA) rfl; go_simp; exact rfl)); simp only [Act.put, Qa, Qb, Qc])
 (refine Qg rfl ?_ (fun W hW => ?_) ?_; rotate_left; (focus (go_simp; exact rfl)); simp only [Act.put, Qa, Qb, Qc])
 (refine Qg rfl ?_ (fun W hW => ?_) ?_; rotate_left; (focus (have c := (T1.out W hW).cellv (i := 0) (v := .slice B b.length cB) rfl; go_simp; exact rfl)); simp only [Act.put, Qa, Qb, Qc])
 (refine QE rfl 161 _ (fun W => by (go_simp; try rfl)) (.int .i64 (Zn a b)) (fun W hW => Acz A B cA cB a b W (T2.out W hW) (T3.out W hW) hla hlb) ?_; simp only [Act.put, Qa, Qb, Qc])
 (refine Qg rfl ?_ (fun W hW => ?_) ?_; rotate_left; (focus (go_simp; exact rfl)); simp only [Act.put, Qa, Qb, Qc])
 (refine Qg rfl ?_ (fun W hW => ?_) ?_; rotate_left; (focus (have c := (T0.out W hW).cellv (i := 1) (v := .int .i64 op1) rfl; go_simp; exact rfl)); simp only [Act.put, Qa, Qb, Qc])
 (refine Qg rfl ?_ (fun W hW => ?_) ?_; rotate_left; (focus (go_simp; exact rfl)); simp only [Act.put, Qa, Qb, Qc])
 (refine Qg rfl ?_ (fun W hW => ?_) ?_; rotate_left; (focus (have c := (T1.out W hW).cellv (i := 1) (v := .int .i64 op2) rfl; go_simp; exact rfl)); simp only [Act.put, Qa, Qb, Qc])
 (refine QE rfl 162 _ (fun W => by (go_simp; try rfl)) (.int .i64 (Zy op1 op2)) (fun W hW => (YA op1 op2 W).mono fun e w' h => ⟨h.1, by rw [← h.2]; exact Below.refl _ _⟩) ?_; simp only [Act.put, Qa, Qb, Qc])
 (refine Qg rfl ?_ (fun W hW => ?_) ?_; rotate_left; (focus (go_simp; exact rfl)); simp only [Act.put, Qa, Qb, Qc])
 (refine Qg rfl ?_ (fun W hW => ?_) ?_; rotate_left; (focus (have c := (T0.out W hW).cellv (i := 2) (v := .int .i64 n1) rfl; go_simp; exact rfl)); simp only [Act.put, Qa, Qb, Qc])
 (refine Qg rfl ?_ (fun W hW => ?_) ?_; rotate_left; (focus (go_simp; exact rfl)); simp only [Act.put, Qa, Qb, Qc])
 (refine Qg rfl ?_ (fun W hW => ?_) ?_; rotate_left; (focus (have c := (T1.out W hW).cellv (i := 2) (v := .int .i64 n2) rfl; go_simp; exact rfl)); simp only [Act.put, Qa, Qb, Qc])
 (refine QE rfl 162 _ (fun W => by (go_simp; try rfl)) (.int .i64 (Zy n1 n2)) (fun W hW => (YA n1 n2 W).mono fun e w' h => ⟨h.1, by rw [← h.2]; exact Below.refl _ _⟩) ?_; simp only [Act.put, Qa, Qb, Qc])
 refine QV fun W hW => ?_
 go_wp2_with (refine Zp _ _ _ rfl ?_)
 refine Stop.to ?_
 refine Qu rfl 22 3 _ rfl 3 #[.int .i64 (Zn a b), .int .i64 (Zy op1 op2), .int .i64 (Zy n1 n2)] (fun W => by kernel_rfl) ?_
 intro M Mw Mh Mr Mb
 have bM := (T4.out _ hW).trans ((Mb.mono Mh).mono (T4.out _ hW).size)
 go_wp2_with fail
 refine (AeP _ 3 [Zn a b, Zy op1 op2, Zy n1 n2] _ ?_ (by simp)).mono ?_
 · intro j u hj
   refine ⟨_, rfl, ?_⟩
   have h0 := Mr.cellv (i := 0) (v := .int .i64 (Zn a b)) rfl
   have h1 := Mr.cellv (i := 1) (v := .int .i64 (Zy op1 op2)) rfl
   have h2 := Mr.cellv (i := 2) (v := .int .i64 (Zy n1 n2)) rfl
   match j, hj with
   | 0, hj => injection hj with hj; subst hj; exact h0
   | 1, hj => injection hj with hj; subst hj; exact h1
   | 2, hj => injection hj with hj; subst hj; exact h2
   | k + 3, hj => simp [Qi] at hj
 rintro e w1 ⟨rfl, bO⟩
 go_wp2_with fail
 go_ret
 exact ⟨ZF (Afj _ _ _), bM.trans (bO.mono bM.size)⟩
theorem DlOk.go {W W' : World} {x : DlV} (h : DlOk W x) (b : Below W.heap.size W W') : DlOk W' x := ⟨Rd.go h.rd b, h.len⟩
theorem Adk (x y : DlV) (w : World) (hx : DlOk w x) (hy : DlOk w y) :
 Calls Tryz.prog 35 #[.agg x.cells, .agg y.cells] w fun e w' => e = .returned (.bool (decide (Jv x.d y.d = 0))) ∧ Below w.heap.size w w' := by
 have Ha := Lh hx.rd
 have Hb := Lh hy.rd
 have hla := hx.len
 have hlb := hy.len
 clear hx hy
 go_enter Tryz.func35, Tryz.ntmps35
 go_wp2_with (refine Qp _ _ rfl ?_)
 refine Stop.to ?_
 refine Qf rfl 35 _ rfl x.cells rfl ?_
 intro G Gw Gh Gr Gb
 go_wp2_with (refine Qp _ _ rfl ?_)
 refine Stop.to ?_
 refine Qf rfl 35 _ rfl y.cells rfl ?_
 intro J Jw Jh Jr Jb
 have rG := Gr.below Jb (Nat.lt_of_lt_of_le Gr.lt Jh)
 have b1 := (Below.refl w.heap.size w).trans (Gb.mono Gh)
 have b2 := b1.trans ((Jb.mono Jh).mono b1.size)
 obtain ⟨S, hSd⟩ : ∃ S, S = (fun W => (Row W G 35 x.cells ∧ Row W J 35 y.cells) ∧ (Rd W x.A (Qi x.d.path) ∧ Rd W y.A (Qi y.d.path)) ∧ Below w.heap.size w W) := ⟨_, rfl⟩
 have stS : St S := by rw [hSd]; infer_instance
 have T0 : Hid (∀ W, S W → Row W G 35 x.cells) := by show ∀ W, _; rw [hSd]; exact fun W h => h.1.1
 have T1 : Hid (∀ W, S W → Row W J 35 y.cells) := by show ∀ W, _; rw [hSd]; exact fun W h => h.1.2
 have T2 : Hid (∀ W, S W → Rd W x.A (Qi x.d.path)) := by show ∀ W, _; rw [hSd]; exact fun W h => h.2.1.1
 have T3 : Hid (∀ W, S W → Rd W y.A (Qi y.d.path)) := by show ∀ W, _; rw [hSd]; exact fun W h => h.2.1.2
 have T4 : Hid (∀ W, S W → Below w.heap.size w W) := by show ∀ W, _; rw [hSd]; exact fun W h => h.2.2
 have hS : S Jw := by rw [hSd]; exact ⟨⟨rG, Jr⟩, ⟨Rd.go Ha.out b2, Rd.go Hb.out b2⟩, b2⟩
 clear hSd rG Gr Jr Gb Jb b1 b2 Gh Jh Ha Hb
 go_wp2_with (refine Ag9 _ _ rfl ?_)
 refine Stop.to ?_
 refine Abm S 4 hS ?_
 clear hS
 simp only [List.take_succ_cons, List.take_zero, List.drop_succ_cons, List.drop_zero]
 (refine QO rfl 35 _ rfl (G) rfl 35 _ _ (fun W hW => T0.out W hW) Tryz.underlying35 rfl (by kernel_rfl) ?_; simp only [Act.put, Qa, Qb, Qc])
 (refine QO rfl 35 _ rfl (J) rfl 35 _ _ (fun W hW => T1.out W hW) Tryz.underlying35 rfl (by kernel_rfl) ?_; simp only [Act.put, Qa, Qb, Qc])
 (refine QE rfl 80 _ (fun W => by (go_simp; try rfl)) (.int .i64 (Jv x.d y.d)) (fun W hW => EW x y W ⟨T2.out W hW, hla⟩ ⟨T3.out W hW, hlb⟩) ?_; simp only [Act.put, Qa, Qb, Qc])
 (refine Qg rfl ?_ (fun W hW => ?_) ?_; rotate_left; (focus (go_simp; exact rfl)); simp only [Act.put, Qa, Qb, Qc])
 refine QV fun W hS => ?_
 go_wp2_with fail
 go_ret
 exact ⟨Z9 (by by_cases h : Jv x.d y.d = 0 <;> simp [h]), T4.out _ hS⟩
def Sc.cells (s : Sc) : Array Value := #[.int .i64 s.alive, .int .i64 s.killed, .int .i64 s.timeout]
structure MtV where
 A : Option Addr
 cap : Nat
 m : Mt
def MtV.dl (x : MtV) : DlV := ⟨x.A, x.cap, x.m.d⟩
def MtV.cells (x : MtV) : List Value := [.slice x.A x.m.d.path.length x.cap, .int .i64 x.m.d.op, .int .i64 x.m.d.n, .int .i64 x.m.verdict, .int .i64 x.m.test, .int .i64 x.m.kind, .int .i64 x.m.value, .string ⟨x.m.digest.toArray⟩]
structure MtOk (W : World) (x : MtV) : Prop where
 rd : Rd W x.A (Qi x.m.d.path)
 len : x.m.d.path.length ≤ 1000000
 nil : x.A = none → x.m.d.path = []
 dig : x.m.digest.length ≤ 1000000
theorem MtOk.go {W W' : World} {x : MtV} (h : MtOk W x) (b : Below W.heap.size W W') : MtOk W' x := ⟨Rd.go h.rd b, h.len, h.nil, h.dig⟩
theorem MtOk.dl {W : World} {x : MtV} (h : MtOk W x) : DlOk W x.dl := ⟨h.rd, h.len⟩
instance St.mtok {x : MtV} : St (fun W => MtOk W x) := ⟨fun h b => h.go b⟩
instance St.mtsok {l : List MtV} : St (fun W => ∀ x ∈ l, MtOk W x) := ⟨fun h b x hx => (h x hx).go b⟩
theorem Aik {W : World} {G : Nat} {t : TypeId} {x : MtV} (h : Row W G t x.cells.toArray) : ∀ j v, x.dl.cells.toList[j]? = some v → W.cell? ((⟨G, 0, none⟩ : Addr).add j) = some v :=
 Row.from_ (cur := x.cells.toArray) h 0 (fun j v hj => by
  match j, hj with
  | 0, hj | 1, hj | 2, hj => exact hj
  | j + 3, hj => simp [DlV.cells] at hj)
theorem AcB (a b : Mt) : (¬ Jv a.d b.d = 0 → Kq a b = false) ∧ (¬ a.verdict = b.verdict → Kq a b = false) ∧ (¬ a.test = b.test → Kq a b = false) ∧ (¬ a.kind = b.kind → Kq a b = false) ∧ (¬ a.value = b.value → Kq a b = false) ∧ (Jv a.d b.d = 0 → a.verdict = b.verdict → a.test = b.test → a.kind = b.kind → a.value = b.value → Kq a b = (a.digest == b.digest)) := by
 unfold Kq
 refine ⟨fun h => ?_, fun h => ?_, fun h => ?_, fun h => ?_, fun h => ?_, fun h1 h2 h3 h4 h5 => ?_⟩
 all_goals (first | simp [h]; done | (simp [h1, h2, h3, h4, h5]; by_cases e : a.digest = b.digest <;> simp [e]))
theorem KG (x y : MtV) (w : World) (hx : MtOk w x) (hy : MtOk w y) :
 Calls Tryz.prog 32 #[.agg x.cells.toArray, .agg y.cells.toArray] w fun e w' => e = .returned (.bool (Kq x.m y.m)) ∧ Below w.heap.size w w' := by
 have Ha := Lh hx
 have Hb := Lh hy
 clear hx hy
 go_enter Tryz.func32, Tryz.ntmps32
 go_wp2_with (refine Qp _ _ rfl ?_)
 refine Stop.to ?_
 refine Qf rfl 54 _ rfl x.cells.toArray rfl ?_
 intro G Gw Gh Gr Gb
 go_wp2_with (refine Qp _ _ rfl ?_)
 refine Stop.to ?_
 refine Qf rfl 54 _ rfl y.cells.toArray rfl ?_
 intro J Jw Jh Jr Jb
 have rG := Gr.below Jb (Nat.lt_of_lt_of_le Gr.lt Jh)
 have b1 := (Below.refl w.heap.size w).trans (Gb.mono Gh)
 have b2 := b1.trans ((Jb.mono Jh).mono b1.size)
 have Hs := Lh (Adk x.dl y.dl Jw (Ha.out.go b2).dl (Hb.out.go b2).dl)
 go_wp2_with (first | (refine QH rfl 35 _ rfl ⟨G, 0, none⟩ rfl x.dl.cells.toList _ (Aik rG) Tryz.underlying35 rfl (by kernel_rfl) ?_) | (refine QH rfl 35 _ rfl ⟨J, 0, none⟩ rfl y.dl.cells.toList _ (Aik Jr) Tryz.underlying35 rfl (by kernel_rfl) ?_))
 refine Hs.out.mono ?_
 rintro e w1 ⟨rfl, b3⟩
 have rG' := rG.below b3 (by have := rG.lt; exact rG.lt)
 have rJ' := Jr.below b3 Jr.lt
 have c1 := rG'.cellv (i := 3) (v := .int .i64 x.m.verdict) rfl
 have c2 := rG'.cellv (i := 4) (v := .int .i64 x.m.test) rfl
 have c3 := rG'.cellv (i := 7) (v := .string ⟨x.m.digest.toArray⟩) rfl
 have d1 := rJ'.cellv (i := 3) (v := .int .i64 y.m.verdict) rfl
 have d2 := rJ'.cellv (i := 4) (v := .int .i64 y.m.test) rfl
 have d3 := rJ'.cellv (i := 7) (v := .string ⟨y.m.digest.toArray⟩) rfl
 have c5 := rG'.cellv (i := 5) (v := .int .i64 x.m.kind) rfl
 have c6 := rG'.cellv (i := 6) (v := .int .i64 x.m.value) rfl
 have d5 := rJ'.cellv (i := 5) (v := .int .i64 y.m.kind) rfl
 have d6 := rJ'.cellv (i := 6) (v := .int .i64 y.m.value) rfl
 have hbb := b2.trans (b3.mono b2.size)
 clear Ha Hb Hs rG Gr Gb Jr Jb b1 b2 b3 Gh Jh rG' rJ'
 have Hall := Lh (AcB x.m y.m)
 by_cases h1 : Jv x.dl.d y.dl.d = 0
 rotate_left
 · go_wp2_with fail
   go_ret
   exact ⟨Z9 (Hall.out.1 h1), hbb⟩
 by_cases h2 : x.m.verdict = y.m.verdict
 rotate_left
 · go_wp2_with fail
   go_ret
   exact ⟨Z9 (Hall.out.2.1 h2), hbb⟩
 by_cases h3 : x.m.test = y.m.test
 rotate_left
 · go_wp2_with fail
   go_ret
   exact ⟨Z9 (Hall.out.2.2.1 h3), hbb⟩
 by_cases h4 : x.m.kind = y.m.kind
 rotate_left
 · have h4' := Lh h4
   have h5 : (x.m.kind == y.m.kind) = false := by simpa using h4
   clear h4
   go_wp2_with fail
   go_ret
   exact ⟨Z9 (Hall.out.2.2.2.1 h4'.out), hbb⟩
 by_cases h5 : x.m.value = y.m.value
 rotate_left
 · have h5' := Lh h5
   have h6 : (x.m.value == y.m.value) = false := by simpa using h5
   clear h5
   go_wp2_with fail
   go_ret
   exact ⟨Z9 (Hall.out.2.2.2.2.1 h5'.out), hbb⟩
 · go_wp2_with fail
   go_ret
   exact ⟨Z9 (Hall.out.2.2.2.2.2 h1 h2 h3 h4 h5), hbb⟩
theorem Aeg {α : Type} {c : α → List Value} {sz : Nat} (hsz : ∀ x, (c x).length = sz) (h0 : 0 < sz) {W : World} {A : Option Addr} {l : List α} (hr : Rd W A (l.flatMap c)) {k : Nat} {x : α} (hx : l[k]? = some x) :
 ∃ ad, A = some ad ∧ ∀ j u, (c x)[j]? = some u → W.cell? ((ad.add (k * sz)).add j) = some u := by
 have hl : ∀ (l : List α) (k : Nat) (x : α), l[k]? = some x → ∀ j u, (c x)[j]? = some u → (l.flatMap c)[k * sz + j]? = some u := by
  intro l
  induction l with
  | nil => intro k x h; simp at h
  | cons y l ih =>
   intro k x h j u hu
   rw [List.flatMap_cons]
   match k, h with
   | 0, h =>
    simp at h; subst h
    rw [Nat.zero_mul, Nat.zero_add, List.getElem?_append_left (List.getElem?_eq_some_iff.1 hu).1]; exact hu
   | k + 1, h =>
    rw [List.getElem?_cons_succ] at h
    rw [List.getElem?_append_right (by rw [hsz, Nat.add_mul]; omega), hsz, show (k + 1) * sz + j - sz = k * sz + j by rw [Nat.add_mul]; omega]
    exact ih k x h j u hu
 exact hr.part (k * sz) (c x) (hl l k x hx) (fun e => by have := hsz x; rw [e] at this; simp at this; omega)
end Go.Proofs.YtdcmppdhdcjpfaaGreat
namespace Go.Proofs.YtdcmppdhdcjpfaaGreat
open Go.ChangeShapes Go.WideShapes Go.RowKit Go.Deep
theorem Ada : Tryz.prog.cellsOf 85 = 2 := by kernel_rfl
theorem Adb : Tryz.prog.cellsOf 25 = 3 := by kernel_rfl
theorem U5 : Tryz.prog.cellsOf 22 = 1 := by kernel_rfl
theorem AbA : Tryz.prog.cellsOf 23 = 1 := by kernel_rfl
structure IntsV where
 addr : Option Addr
 cap : Nat
 l : List Int
def IntsV.val (r : IntsV) : Value := .slice r.addr r.l.length r.cap
structure IntsV.ok (r : IntsV) (w : World) : Prop where
 len : r.l.length ≤ r.cap
 cap : r.cap ≤ maxLen
 nil : r.addr = none → r.cap = 0
 reads : Rd w r.addr (Qi r.l)
 all : ∀ x ∈ r.l, InI x
theorem IntsV.ok.go {r : IntsV} {w w' : World} (h : r.ok w) (b : Below w.heap.size w w') : r.ok w' := ⟨h.len, h.cap, h.nil, h.reads.go b, h.all⟩
instance St.intsok {r : IntsV} : St (fun W => r.ok W) := ⟨fun h b => h.go b⟩
def PgV.val (p : PgV) : Value := .agg p.cells
section
variable {H : Type} {enc : TypeId × Value → H} {w : World} {base : Nat} {spare : Nat → Bool} {held : Bool}
theorem Aff {fuel : Nat} {cs : List Value} {x : DataW H × List MemPlace} (h : DataW.trod enc Tryz.prog w base spare held fuel 3 cs = some x) : ∃ n : Int, cs = [.int .i64 n] ∧ InI n := by
 obtain ⟨n, e, h⟩ := Xl Tryz.underlying3 h
 exact ⟨n, e, h⟩
theorem Afh {fuel : Nat} {cs : List Value} {x : DataW H × List MemPlace} (h : DataW.trod enc Tryz.prog w base spare held fuel 85 cs = some x) : ∃ e : Nd, cs = e.cells ∧ InI e.tag ∧ InI e.n := by
 obtain ⟨hl, n, hf⟩ := Yr Tryz.underlying85 h
 have hl2 : cs.length = 2 := hl.trans Ada
 match cs, hl2 with
 | [a, b], _ =>
  obtain ⟨_, h0⟩ := hf 0 _ rfl
  obtain ⟨_, h1⟩ := hf 1 _ rfl
  obtain ⟨n0, e0, w0⟩ := Xl Tryz.underlying3 h0
  obtain ⟨n1, e1, w1⟩ := Xl Tryz.underlying3 h1
  simp [Y9] at e0 e1
  exact ⟨⟨n0, n1⟩, by rw [e0, e1]; rfl, w0, w1⟩
theorem Ae0 (l : List Int) : l.flatMap (fun n => [Value.int .i64 n]) = Qi l := by
 induction l with
 | nil => rfl
 | cons a l ih => rw [List.flatMap_cons, ih]; rfl
theorem Xx {fuel : Nat} {cs : List Value} {x : DataW H × List MemPlace} (h : DataW.trod enc Tryz.prog w base spare held fuel 22 cs = some x) : ∃ r : IntsV, r.ok w ∧ cs = [r.val] := by
 obtain ⟨A, cap, xss, rfl, h1, h2, hA, h3, h4, h5⟩ := Ug Tryz.underlying22 h
 obtain ⟨l, rfl, hok⟩ := YV (fun n : Int => [Value.int .i64 n]) InI xss (fun xs hxs => by obtain ⟨n, y, hy⟩ := h5 xs hxs; exact Aff hy)
 rw [List.length_map] at h1
 refine ⟨⟨A, cap, l⟩, ⟨h1, h2, hA, ?_, hok⟩, by rw [List.length_map]; rfl⟩
 rw [← List.flatMap_def, Ae0] at h4
 exact h4
theorem Acv {fuel : Nat} {cs : List Value} {x : DataW H × List MemPlace} (h : DataW.trod enc Tryz.prog w base spare held fuel 23 cs = some x) :
 ∃ (A : Option Addr) (cap : Nat) (l : List Nd), cs = [.slice A l.length cap] ∧ l.length ≤ cap ∧ cap ≤ maxLen ∧ (A = none → cap = 0) ∧ Rd w A (l.flatMap Nd.cells) ∧ ∀ e ∈ l, InI e.tag ∧ InI e.n := by
 obtain ⟨A, cap, xss, rfl, h1, h2, hA, h3, h4, h5⟩ := Ug Tryz.underlying23 h
 obtain ⟨l, rfl, hok⟩ := YV Nd.cells (fun e => InI e.tag ∧ InI e.n) xss (fun xs hxs => by obtain ⟨n, y, hy⟩ := h5 xs hxs; exact Afh hy)
 rw [List.length_map] at h1
 exact ⟨A, cap, l, by rw [List.length_map], h1, h2, hA, by rw [List.flatMap_def]; exact h4, hok⟩
theorem AdI {fuel : Nat} {cs : List Value} {x : DataW H × List MemPlace} (h : DataW.trod enc Tryz.prog w base spare held fuel 25 cs = some x) : ∃ p : PgV, p.ok w ∧ cs = p.cells.toList := by
 obtain ⟨hl, n, hf⟩ := Yr Tryz.underlying25 h
 have hl3 : cs.length = 3 := hl.trans Adb
 match cs, hl3 with
 | [a, b, c], _ =>
  obtain ⟨_, h0⟩ := hf 0 _ rfl
  obtain ⟨_, h1⟩ := hf 1 _ rfl
  obtain ⟨_, h2⟩ := hf 2 _ rfl
  obtain ⟨n0, e0, w0⟩ := Xl Tryz.underlying3 h0
  obtain ⟨r, hr, e1⟩ := Xx h1
  obtain ⟨A, cap, l, e2, g1, g2, g3, g4, g5⟩ := Acv h2
  simp [Y9, U5, AbA] at e0 e1 e2
  exact ⟨⟨n0, r.addr, r.cap, r.l, A, cap, l⟩, ⟨w0, hr.len, hr.cap, hr.nil, hr.reads, hr.all, g1, g2, g3, g4, g5⟩, by rw [e0, e1, e2]; rfl⟩
theorem Afg {r : Go.Reach} {b0 : Nat} {v : Value} {d : DataW H} {p : List MemPlace} (hv : Value.okWide Tryz.prog w r b0 22 v) (h : DataW.Trod enc Tryz.prog w base spare held 22 v d p) : ∃ r : IntsV, r.ok w ∧ v = r.val := by
 obtain ⟨a, len, cap, rfl⟩ := okWide_slice Tryz.underlying22 hv
 obtain ⟨fuel, hx⟩ := h
 obtain ⟨r, hr, e⟩ := Xx hx
 have e2 : [Value.slice a len cap] = [r.val] := e
 injection e2 with e2
 exact ⟨r, hr, e2⟩
theorem Afi {r : Go.Reach} {b0 : Nat} {v : Value} {d : DataW H} {p : List MemPlace} (hv : Value.okWide Tryz.prog w r b0 25 v) (h : DataW.Trod enc Tryz.prog w base spare held 25 v d p) : ∃ p : PgV, p.ok w ∧ v = p.val := by
 obtain ⟨cs, rfl, fuel, x, hx⟩ := AcL Tryz.underlying25 hv h
 obtain ⟨p, hp, rfl⟩ := AdI hx
 exact ⟨p, hp, rfl⟩
end
end Go.Proofs.YtdcmppdhdcjpfaaGreat
namespace Go.Proofs.YtdcmppdhdcjpfaaGreat
open Go.RowKit Go.Deep
theorem Uk {α : Type} {c : α → Value} {W : World} {A : Option Addr} {l : List α} (hr : Rd W A (l.map c)) {k : Nat} {x : α} (hx : l[k]? = some x) : ∃ ad, A = some ad ∧ W.cell? (ad.add k) = some (c x) :=
 hr k _ (by simp [hx])
instance St.intsok_all {l : List IntsV} : St (fun W => ∀ x ∈ l, x.ok W) := ⟨fun h b x hx => (h x hx).go b⟩
instance : DecidableEq Mt := fun a b => decidable_of_iff (Kq a b = true) sameM_iff
def Z6 (l : List IntsV) : List Value := l.map IntsV.val
def AbW {α : Type} (p : α → Bool) (l : List α) : Int := match l.findIdx? p with | some i => (i : Int) | none => -1
theorem AbY {α : Type} {p : α → Bool} {l : List α} {k : Nat} {x : α} (h : ∀ y ∈ l.take k, p y = false) (hx : l[k]? = some x) (hp : p x = true) : AbW p l = (k : Int) := by
 unfold AbW
 have hl := (List.getElem?_eq_some_iff.1 hx).1
 have : l.findIdx? p = some k := by
  rw [List.findIdx?_eq_some_iff_getElem]
  refine ⟨hl, by rw [(List.getElem?_eq_some_iff.1 hx).2]; exact hp, fun j hj => ?_⟩
  rw [h _ (List.mem_take_iff_getElem.2 ⟨j, by omega, rfl⟩)]; simp
 rw [this]
theorem Aem {α : Type} {p : α → Bool} {l : List α} (h : ∀ y ∈ l, p y = false) : AbW p l = -1 := by
 unfold AbW
 have : l.findIdx? p = none := by rw [List.findIdx?_eq_none_iff]; exact h
 rw [this]
theorem AbX {α : Type} (p : α → Bool) (l : List α) : decide (0 ≤ AbW p l) = l.any p := by
 unfold AbW
 cases h : l.findIdx? p with
 | none =>
  rw [List.findIdx?_eq_none_iff] at h
  simp; intro x hx; simpa using h x hx
 | some i =>
  rw [List.findIdx?_eq_some_iff_getElem] at h
  obtain ⟨hl, hp, _⟩ := h
  simp; exact ⟨l[i], List.getElem_mem hl, hp⟩
theorem XX {α : Type} {p : α → Bool} {l : List α} {k : Nat} {x : α} (h : ∀ y ∈ l.take k, p y = false) (hx : l[k]? = some x) (hp : p x = false) : ∀ y ∈ l.take (k + 1), p y = false := by
 rw [List.take_add_one, hx]
 intro y hy
 rcases List.mem_append.1 hy with hy | hy
 · exact h y hy
 · simp at hy; subst hy; exact hp
theorem AeY (A : Option Addr) (cap : Nat) (l : List Nd) (p : Nd → Bool) (w : World) (S : World → Prop) [stS : St S] (hS : S w) (hrd : ∀ W, S W → Rd W A (l.flatMap Nd.cells)) (hlo : ∀ W, S W → Below w.heap.size w W)
 (hp : ∀ x ∈ l, ∀ W, S W → Calls Tryz.prog 176 #[.agg x.cells.toArray] W fun e W' => e = .returned (.bool (p x)) ∧ Below W.heap.size W W') (hl : l.length ≤ 1000000) :
 Calls Tryz.prog 237 #[.slice A l.length cap, .func (.func 176) #[] #[]] w fun e w' => e = .returned (.int .i64 (AbW p l)) ∧ Below w.heap.size w w' := by
 have Hp := Lh hp
 have Hrd := Lh hrd
 have Hlo := Lh hlo
 have hl' : (l.length : Int) ≤ 1000000 := by omega
 clear hp hrd hlo hl
 go_enter Tryz.func237, Tryz.ntmps237
 go_wp2
 go_loopw [8] (fun i wr => ∃ k : Nat, i = .int .i64 (k : Int) ∧ k ≤ l.length ∧ Hid (∀ y ∈ l.take k, p y = false) ∧ S wr) (fun i _ => l.length - (intOf i).toNat)
 case atStart => exact ⟨0, rfl, Nat.zero_le _, Lh (fun x hx => by simp at hx), hS⟩
 case round =>
  clear hS
  obtain ⟨k, rfl, hk, Hall, hS⟩ := hrel
  by_cases hlt : k < l.length
  · obtain ⟨x, hx⟩ : ∃ x, l[k]? = some x := ⟨_, List.getElem?_eq_getElem hlt⟩
    obtain ⟨ad, had, hcx⟩ := Jq (Hrd.out _ hS) hx
    have Hcx : Hid (∀ j u, x.cells[j]? = some u → wr.cell? ((ad.add (k * 2)).add j) = some u) := hcx
    have Hx := Lh hx
    have Hcall := Lh (Hp.out x (List.mem_of_getElem? hx) wr hS)
    have hltI : (k : Int) < (l.length : Int) := by omega
    clear hx hlt hcx
    subst had
    go_wp2_with (refine QH rfl 85 _ rfl (ad.add (k * 2)) rfl x.cells _ Hcx.out Tryz.underlying85 rfl (by kernel_rfl) ?_)
    refine Hcall.out.mono ?_
    rintro e w' ⟨rfl, b1⟩
    replace hS := stS.go hS b1
    clear b1 Hcall Hcx
    cases hs : p x
    · have Hn := Lh (XX Hall.out Hx.out hs)
      clear hs Hx
      go_wp2_with fail
      go_roundw
      case rel => exact ⟨k + 1, by go_num, by omega, Hn, hS⟩
      case measure => simp [intOf]; omega
    · have Hn := Lh (AbY Hall.out Hx.out hs)
      clear hs Hx
      go_wp2_with fail
      go_ret
      exact ⟨by rw [Hn.out]; rfl, Hlo.out _ hS⟩
  · obtain rfl : k = l.length := by omega
    have Hn := Lh (Aem (p := p) (l := l) (by have := Hall.out; rwa [List.take_length] at this))
    clear hlt hk
    go_wp2
    go_ret
    exact ⟨by rw [Hn.out]; rfl, Hlo.out _ hS⟩
theorem Adh (A : Option Addr) (cap : Nat) (l : List Nd) (p : Nd → Bool) (w : World) (S : World → Prop) [stS : St S] (hS : S w) (hrd : ∀ W, S W → Rd W A (l.flatMap Nd.cells)) (hlo : ∀ W, S W → Below w.heap.size w W)
 (hp : ∀ x ∈ l, ∀ W, S W → Calls Tryz.prog 176 #[.agg x.cells.toArray] W fun e W' => e = .returned (.bool (p x)) ∧ Below W.heap.size W W') (hl : l.length ≤ 1000000) :
 Calls Tryz.prog 175 #[.slice A l.length cap, .func (.func 176) #[] #[]] w fun e w' => e = .returned (.bool (l.any p)) ∧ Below w.heap.size w w' := by
 have Hc := Lh (AeY A cap l p w S hS hrd hlo hp hl)
 clear hp hrd hlo hl hS
 go_enter Tryz.func175, Tryz.ntmps175
 go_wp2_with fail
 refine Hc.out.mono ?_
 rintro e w' ⟨rfl, b1⟩
 have Ha := Lh (AbX p l)
 clear Hc
 go_wp2_with fail
 go_ret
 exact ⟨Z9 Ha.out.symm, b1⟩
theorem Adc (x : Nd) (w : World) :
 Calls Tryz.prog 176 #[.agg x.cells.toArray] w fun e w' => e = .returned (.bool (decide (Qv x < 0))) ∧ Below w.heap.size w w' := by
 go_enter Tryz.func176, Tryz.ntmps176
 go_wp2_with (refine Qp _ _ rfl ?_)
 refine Stop.to ?_
 refine Qf rfl 85 _ rfl x.cells.toArray rfl ?_
 intro G Gw Gh Gr Gb
 have b1 := (Below.refl w.heap.size w).trans (Gb.mono Gh)
 have Ha := Lh (Xc x Gw)
 clear Gb Gh
 go_wp2_with (refine wpList_load_row rfl 85 _ rfl G rfl 85 x.cells.toArray (0, 0) _ Gr Tryz.underlying85 rfl (by kernel_rfl) ?_)
 refine Ha.out.mono ?_
 rintro e w1 ⟨rfl, b2⟩
 have b3 := b1.trans (b2.mono b1.size)
 clear Ha Gr b1 b2
 go_wp2_with fail
 go_ret
 exact ⟨rfl, b3⟩
structure CpV where
 p : PgV
 tA : Option Addr
 tcap : Nat
 tests : List IntsV
 fuel : Int
 mA : Option Addr
 mcap : Nat
 mts : List MtV
 sc : Sc
def CpV.cells (c : CpV) : Array Value := #[.int .i64 c.p.params, .slice c.p.va c.p.V.length c.p.vcap, .slice c.p.ba c.p.body.length c.p.bcap, .slice c.tA c.tests.length c.tcap, .int .i64 c.fuel, .slice c.mA c.mts.length c.mcap, .int .i64 c.sc.alive, .int .i64 c.sc.killed, .int .i64 c.sc.timeout]
def CpV.testsL (c : CpV) : List (List Int) := c.tests.map IntsV.l
def CpV.muts (c : CpV) : List Mt := c.mts.map MtV.m
def Vl (l : List IntsV) : Bool := decide (l.length ≤ 40 ∧ ∀ x ∈ l, x.l.length ≤ 40)
theorem EE {α : Type} {p : α → Prop} {l : List α} {k : Nat} {x : α} (h : ∀ y ∈ l.take k, p y) (hx : l[k]? = some x) (hp : p x) : ∀ y ∈ l.take (k + 1), p y := by
 rw [List.take_add_one, hx]
 intro y hy
 rcases List.mem_append.1 hy with hy | hy
 · exact h y hy
 · simp at hy; subst hy; exact hp
theorem AfY (A : Option Addr) (cap : Nat) (l : List IntsV) (w : World) (hr : Rd w A (Z6 l)) :
 Calls Tryz.prog 67 #[.slice A l.length cap] w fun e w' => e = .returned (.bool (Vl l)) ∧ w = w' := by
 have Hr := Lh hr
 clear hr
 by_cases h40 : l.length ≤ 40
 rotate_left
 · have hz : Vl l = false := by unfold Vl; rw [decide_eq_false_iff_not]; exact fun h => h40 h.1
   have Hz := Lh hz
   have h41 : (40 : Int) < (l.length : Int) := by omega
   clear hz h40
   go_enter Tryz.func67, Tryz.ntmps67
   go_wp2
   go_ret
   exact ⟨Z9 Hz.out, rfl⟩
 have h41 : (l.length : Int) ≤ 40 := by omega
 have H40 := Lh h40
 clear h40
 go_enter Tryz.func67, Tryz.ntmps67
 go_wp2
 go_loop [3] (fun i => ∃ k : Nat, i = .int .i64 (k : Int) ∧ k ≤ l.length ∧ Hid (∀ x ∈ l.take k, x.l.length ≤ 40)) (fun i => l.length - (intOf i).toNat)
 case atStart => exact ⟨0, rfl, Nat.zero_le _, Lh (fun x hx => by simp at hx)⟩
 case round =>
  obtain ⟨k, rfl, hk, Hall⟩ := hrel
  by_cases hlt : k < l.length
  · obtain ⟨x, hx⟩ : ∃ x, l[k]? = some x := ⟨_, List.getElem?_eq_getElem hlt⟩
    obtain ⟨ad, had, hc0⟩ := Uk Hr.out hx
    have hc : w.cell? (ad.add k) = some (.slice x.addr x.l.length x.cap) := hc0
    have Hx := Lh hx
    have hltI : (k : Int) < (l.length : Int) := by omega
    clear hx hlt hc0
    subst had
    by_cases hs : x.l.length ≤ 40
    · have hs1 : (x.l.length : Int) ≤ 40 := by omega
      have Hn := Lh (EE (p := fun x : IntsV => x.l.length ≤ 40) Hall.out Hx.out hs)
      clear hs
      go_wp2
      go_round
      case rel => exact ⟨k + 1, by go_num, by omega, Hn⟩
      case measure => simp [intOf]; omega
    · have hs1 : (40 : Int) < (x.l.length : Int) := by omega
      have hz : Vl l = false := by unfold Vl; rw [decide_eq_false_iff_not]; exact fun h => hs (h.2 x (List.mem_of_getElem? Hx.out))
      have Hz := Lh hz
      clear hz hs
      go_wp2
      go_ret
      exact ⟨Z9 Hz.out, rfl⟩
  · obtain rfl : k = l.length := by omega
    have hz : Vl l = true := by unfold Vl; rw [decide_eq_true_eq]; exact ⟨H40.out, by have := Hall.out; rwa [List.take_length] at this⟩
    have Hz := Lh hz
    clear hz hlt hk
    go_wp2
    go_ret
    exact ⟨Z9 Hz.out, rfl⟩
theorem Xa (a : Addr) : a.add 0 = a := by unfold Addr.add; rw [if_pos rfl]
end Go.Proofs.YtdcmppdhdcjpfaaGreat
