/- The walk over the reference of package trace: Bytes. -/
import Derived.Test.YtkdcelnlhhodlaaTrA
import Derived.Test.YtkdcelnlhhodlaaHold
import Derived.Test.YtkdcelnlhhodlaaBox
namespace Go.Proofs.Ytkdcelnlhhodlaa
open Go.RowKit Go.Deep

theorem str_cat (a b : List UInt8) : ((⟨a.toArray⟩ : ByteArray) ++ ⟨b.toArray⟩) = ⟨(a ++ b).toArray⟩ := by apply ByteArray.ext; simp
theorem hold_cat {P : Program} {S : World → Prop} {ops : Array Oper} {Q : Act → Prop} {a : Act} {o : Oper} {rest : List Oper} (hw : Region.wanted o (yielded ops a.tmps) = true) (t t' : TypeId) (x y : Operand) (ho : o.op = .binOp .add t x y t')
    (l m : List UInt8) (hx : a.eval x = .string ⟨l.toArray⟩) (hy : a.eval y = .string ⟨m.toArray⟩) (hb : l.length + m.length ≤ 1000000) (h : wpHold P ops S Q rest (a.put o.dst (.string ⟨(l ++ m).toArray⟩))) : wpHold P ops S Q (o :: rest) a :=
  hold_value hw _ (fun W _ => by
    have hs : ¬ (9223372036854775807 < (l.length : Int) + (m.length : Int)) := by omega
    have hs' : ¬ (9223372036854775807 < l.length + m.length) := by omega
    simp only [execOp, ho, hx, hy]
    simp [go_sem, hs, hs', str_cat]) h

theorem zero_event {w : World} : (zeroValue 34).run Try.prog w = .ok (.agg #[.int .i64 0, .int .i64 0, .int .i64 0]) w := by kernel_rfl

set_option maxRecDepth 100000 in
set_option maxHeartbeats 4000000 in
theorem refTrBytes_any (r : RunV) (w : World) (hok : r.ok w) (hl : r.evs.length ≤ 1000) :
    Calls Try.prog 8 #[r.val] w fun e w' => e = .returned (.string ⟨(traceL r.kind r.value r.evs).toArray⟩) ∧ Below w.heap.size w w' := by
  have Hok := Lib.hid hok
  have Hl := Lib.hid hl
  have hlI : (r.evs.length : Int) ≤ 1000 := by omega
  clear hok hl
  go_enter Try.func8, Try.ntmps8
  rw [show r.val = .agg r.cells from rfl]
  go_wp2_with (refine at_box _ _ rfl ?_)
  refine Stop.to ?_
  refine wpList_box_gen rfl 26 _ rfl r.cells rfl ?_
  intro G w1 hG r1 b1
  have b1 := (Below.refl w.heap.size w).trans (b1.mono hG)
  have d1 := Hok.out.reads.go b1
  have c3 := r1.cellv (i := 3) (v := .slice r.addr r.evs.length r.cap) rfl
  go_wp2_with fail
  have hS : (fun W => Row W G 26 r.cells ∧ Rd W r.addr (r.evs.flatMap EvV.cells) ∧ Below w.heap.size w W) w1 := ⟨r1, d1, b1⟩
  obtain ⟨S, hSd⟩ : ∃ S, S = (fun W => Row W G 26 r.cells ∧ Rd W r.addr (r.evs.flatMap EvV.cells) ∧ Below w.heap.size w W) := ⟨_, rfl⟩
  have stS : St S := by rw [hSd]; infer_instance
  have s0 : ∀ W, S W → Row W G 26 r.cells := by rw [hSd]; exact fun W h => h.1
  have s1 : ∀ W, S W → Rd W r.addr (r.evs.flatMap EvV.cells) := by rw [hSd]; exact fun W h => h.2.1
  have s2 : ∀ W, S W → Below w.heap.size w W := by rw [hSd]; exact fun W h => h.2.2
  rw [← hSd] at hS
  have S0' := Lib.hid s0
  have S1' := Lib.hid s1
  have S2' := Lib.hid s2
  clear hSd r1 d1 b1 c3 s0 s1 s2 hG
  refine (lebL_ref r.evs.length (by omega) w1).mono ?_
  rintro e w2 ⟨rfl, b2⟩
  have hS2 := stS.go hS b2
  clear hS b2
  go_wp2_with fail
  go_loopw [3, 4] (fun s i wr => ∃ (k : Nat) (q : List UInt8), Hid (q = lebL r.evs.length ++ (r.evs.take k).flatMap EvV.bytes) ∧ s = .string ⟨q.toArray⟩ ∧ i = .int .i64 (k : Int) ∧ k ≤ r.evs.length ∧ q.length ≤ 10 + 30 * k ∧ S wr) (fun _ i _ => r.evs.length - (intOf i).toNat)
  case atStart => exact ⟨0, lebL r.evs.length, by simp [Hid], rfl, by simp, Nat.zero_le _, lebL_len _, hS2⟩
  case round =>
    clear hS2
    obtain ⟨k, q, Hq, rfl, rfl, hk, hql, hS⟩ := hrel
    have c3 := (S0'.out _ hS).cellv (i := 3) (v := .slice r.addr r.evs.length r.cap) rfl
    by_cases hkn : k < r.evs.length
    · obtain ⟨e, he⟩ : ∃ e, r.evs[k]? = some e := ⟨_, List.getElem?_eq_getElem hkn⟩
      obtain ⟨ad, had, hce⟩ := (S1'.out _ hS).part (k * 3) e.cells (evcells_at r.evs k e he) (by simp [EvV.cells])
      have Heok : Hid e.ok := Hok.out.evs e (List.mem_of_getElem? he)
      have He := Lib.hid he
      have Hce := Lib.hid hce
      have hkn' : (k : Int) < (r.evs.length : Int) := by omega
      have Hone : Hid (e.cells.toArray.all (·.oneCell') = true) := by show _ = true; simp [EvV.cells, Value.oneCell']
      clear he hce
      rw [had] at c3
      have Had := Lib.hid had
      clear had
      go_wp2_with (first
        | (refine wpList_load_at rfl 34 _ rfl (ad.add (k * 3)) rfl e.cells _ Hce.out Try.underlying34 rfl (by kernel_rfl) ?_)
        | (refine at_alloc _ rfl ?_))
      refine Stop.to ?_
      refine wpList_alloc_gen rfl 34 rfl _ _ zero_event rfl ?_
      intro gx w3 hgx rx bx
      have lG := Nat.lt_of_lt_of_le (S0'.out _ hS).lt hgx
      clear c3 Hce
      go_wp2_with (refine at_store _ _ _ rfl ?_)
      refine Stop.to ?_
      refine wpList_store_gen rfl 34 _ _ rfl gx e.cells.toArray rfl rfl 34 _ rx (by kernel_rfl) rfl Hone.out ?_
      intro w4 r4 o4
      have hS4 := stS.go hS ((bx.mono hgx).trans (o4.below hgx))
      have hT : (fun W => S W ∧ Row W gx 34 e.cells.toArray) w4 := ⟨hS4, r4⟩
      clear hS bx o4 rx hS4 r4 hgx
      go_wp2_with fail
      refine region_hold (fun W => S W ∧ Row W gx 34 e.cells.toArray) (by kernel_rfl) (by kernel_rfl) (St.drew (S := fun W => S W ∧ Row W gx 34 e.cells.toArray) hT) ?_
      clear hT
      iterate 2 (refine hold_value rfl ?_ (fun W hW => ?_) ?_; rotate_left; (focus (go_simp; exact rfl)); simp only [Act.put, List.setIfInBounds_toArray, List.set_cons_zero, List.set_cons_succ])
      (refine hold_value rfl ?_ (fun W hW => ?_) ?_; rotate_left; (focus (have c := hW.2.cellv (i := 0) (v := .int .i64 e.var) rfl; go_simp; exact rfl)); simp only [Act.put, List.setIfInBounds_toArray, List.set_cons_zero, List.set_cons_succ])
      (refine hold_call_new rfl 19 _ (fun W => by go_simp) _ (fun W hW => refZPut_any e.var Heok.out.1 W) ?_; simp only [Act.put, List.setIfInBounds_toArray, List.set_cons_zero, List.set_cons_succ])
      have z0 := zz_len e.var
      have z1 := zz_len e.at_
      have z2 := zz_len e.val
      (refine hold_cat rfl _ _ _ _ rfl (q) (zz e.var) rfl rfl (by omega) ?_; simp only [Act.put, List.setIfInBounds_toArray, List.set_cons_zero, List.set_cons_succ])
      (refine hold_value rfl ?_ (fun W hW => ?_) ?_; rotate_left; (focus (go_simp; exact rfl)); simp only [Act.put, List.setIfInBounds_toArray, List.set_cons_zero, List.set_cons_succ])
      (refine hold_value rfl ?_ (fun W hW => ?_) ?_; rotate_left; (focus (have c := hW.2.cellv (i := 1) (v := .int .i64 e.at_) rfl; go_simp; exact rfl)); simp only [Act.put, List.setIfInBounds_toArray, List.set_cons_zero, List.set_cons_succ])
      (refine hold_call_new rfl 19 _ (fun W => by go_simp) _ (fun W hW => refZPut_any e.at_ Heok.out.2.1 W) ?_; simp only [Act.put, List.setIfInBounds_toArray, List.set_cons_zero, List.set_cons_succ])
      (refine hold_cat rfl _ _ _ _ rfl (q ++ zz e.var) (zz e.at_) rfl rfl (by rw [List.length_append]; omega) ?_; simp only [Act.put, List.setIfInBounds_toArray, List.set_cons_zero, List.set_cons_succ])
      (refine hold_value rfl ?_ (fun W hW => ?_) ?_; rotate_left; (focus (go_simp; exact rfl)); simp only [Act.put, List.setIfInBounds_toArray, List.set_cons_zero, List.set_cons_succ])
      (refine hold_value rfl ?_ (fun W hW => ?_) ?_; rotate_left; (focus (have c := hW.2.cellv (i := 2) (v := .int .i64 e.val) rfl; go_simp; exact rfl)); simp only [Act.put, List.setIfInBounds_toArray, List.set_cons_zero, List.set_cons_succ])
      (refine hold_call_new rfl 19 _ (fun W => by go_simp) _ (fun W hW => refZPut_any e.val Heok.out.2.2 W) ?_; simp only [Act.put, List.setIfInBounds_toArray, List.set_cons_zero, List.set_cons_succ])
      (refine hold_cat rfl _ _ _ _ rfl (q ++ zz e.var ++ zz e.at_) (zz e.val) rfl rfl (by rw [List.length_append, List.length_append]; omega) ?_; simp only [Act.put, List.setIfInBounds_toArray, List.set_cons_zero, List.set_cons_succ])
      (refine hold_value rfl ?_ (fun W hW => ?_) ?_; rotate_left; (focus (exact rfl)); simp only [Act.put, List.setIfInBounds_toArray, List.set_cons_zero, List.set_cons_succ])
      refine wpHold_nil fun W hW => ?_
      have hSW := hW.1
      have hql2 : (q ++ zz e.var ++ zz e.at_ ++ zz e.val).length ≤ 10 + 30 * (k + 1) := by simp only [List.length_append]; omega
      have Hq2 : Hid (q ++ zz e.var ++ zz e.at_ ++ zz e.val = lebL r.evs.length ++ (r.evs.take (k + 1)).flatMap EvV.bytes) := by
        show _ = _
        rw [List.take_succ_eq_append_getElem hkn, List.flatMap_append]
        have hee : r.evs[k] = e := by have := He.out; rw [List.getElem?_eq_getElem hkn] at this; injection this
        rw [hee, Hq.out]; simp [EvV.bytes]
      clear hW z0 z1 z2
      generalize q ++ zz e.var ++ zz e.at_ ++ zz e.val = q' at hql2 Hq2 ⊢
      go_wp2
      go_roundw
      case rel => exact ⟨k + 1, q', Hq2, rfl, by go_num, by omega, hql2, hSW⟩
      case measure => simp [intOf]; omega
    · obtain rfl : k = r.evs.length := by omega
      have hqe := Hq.out
      rw [List.take_length] at hqe
      have hfin : q ++ zz r.kind ++ zz r.value = traceL r.kind r.value r.evs := by rw [hqe]; simp [traceL]
      have Hfin := Lib.hid hfin
      clear hqe hfin hkn
      go_wp2_with fail
      refine region_hold S (by kernel_rfl) (by kernel_rfl) (St.drew hS) ?_
      clear hS c3
      iterate 3 (refine hold_value rfl ?_ (fun W hW => ?_) ?_; rotate_left; (focus (go_simp; exact rfl)); simp only [Act.put, List.setIfInBounds_toArray, List.set_cons_zero, List.set_cons_succ])
      (refine hold_value rfl ?_ (fun W hW => ?_) ?_; rotate_left; (focus (have c := (S0'.out _ hW).cellv (i := 0) (v := .int .i64 r.kind) rfl; go_simp; exact rfl)); simp only [Act.put, List.setIfInBounds_toArray, List.set_cons_zero, List.set_cons_succ])
      (refine hold_call_new rfl 19 _ (fun W => by go_simp) _ (fun W hW => refZPut_any r.kind Hok.out.kind W) ?_; simp only [Act.put, List.setIfInBounds_toArray, List.set_cons_zero, List.set_cons_succ])
      have z0 := zz_len r.kind
      have z1 := zz_len r.value
      (refine hold_cat rfl _ _ _ _ rfl (q) (zz r.kind) rfl rfl (by omega) ?_; simp only [Act.put, List.setIfInBounds_toArray, List.set_cons_zero, List.set_cons_succ])
      iterate 2 (refine hold_value rfl ?_ (fun W hW => ?_) ?_; rotate_left; (focus (go_simp; exact rfl)); simp only [Act.put, List.setIfInBounds_toArray, List.set_cons_zero, List.set_cons_succ])
      (refine hold_value rfl ?_ (fun W hW => ?_) ?_; rotate_left; (focus (have c := (S0'.out _ hW).cellv (i := 1) (v := .int .i64 r.value) rfl; go_simp; exact rfl)); simp only [Act.put, List.setIfInBounds_toArray, List.set_cons_zero, List.set_cons_succ])
      (refine hold_call_new rfl 19 _ (fun W => by go_simp) _ (fun W hW => refZPut_any r.value Hok.out.value W) ?_; simp only [Act.put, List.setIfInBounds_toArray, List.set_cons_zero, List.set_cons_succ])
      (refine hold_cat rfl _ _ _ _ rfl (q ++ zz r.kind) (zz r.value) rfl rfl (by rw [List.length_append]; omega) ?_; simp only [Act.put, List.setIfInBounds_toArray, List.set_cons_zero, List.set_cons_succ])
      (refine hold_value rfl ?_ (fun W hW => ?_) ?_; rotate_left; (focus (exact rfl)); simp only [Act.put, List.setIfInBounds_toArray, List.set_cons_zero, List.set_cons_succ])
      refine wpHold_nil fun W hW => ?_
      have hb := S2'.out _ hW
      clear hW z0 z1
      rw [Hfin.out]
      go_wp2
      go_ret
      exact ⟨rfl, hb⟩
end Go.Proofs.Ytkdcelnlhhodlaa
