/- The walk over package trace: numbers, and the function that it hands back. -/
import Derived.Test.YtkdcelnlhhodlaaWire
import Derived.Test.YtkdcelnlhhodlaaTrOpen
import Derived.BigFrameIn
import Derived.Deep.WholeRow
namespace Go.Proofs.Ytkdcelnlhhodlaa
open Go.RowKit Go.Deep
attribute [local go_sem] Oper.semAt_some

def RunV.cells (r : RunV) : Array Value := #[.int .i64 r.kind, .int .i64 r.value, .int .i64 r.steps, .slice r.addr r.evs.length r.cap]
def EvV.nums (e : EvV) : List Int := [e.var, e.at_, e.val]
def RunV.nums (r : RunV) : List Int := r.evs.flatMap EvV.nums ++ [r.kind, r.value]
theorem evcells_at : ∀ (l : List EvV) (k : Nat) (e : EvV), l[k]? = some e → ∀ j u, e.cells[j]? = some u → (l.flatMap EvV.cells)[k * 3 + j]? = some u
  | [], k, e, h, _, _, _ => by simp at h
  | a :: l, 0, e, h, j, u, hj => by
    simp at h; subst h
    have hl : j < a.cells.length := (List.getElem?_eq_some_iff.1 hj).1
    simp only [List.flatMap_cons]
    rw [List.getElem?_append_left (by omega)]
    simpa using hj
  | a :: l, k + 1, e, h, j, u, hj => by
    simp only [List.flatMap_cons]
    rw [List.getElem?_append_right (by simp [EvV.cells]; omega)]
    have := evcells_at l k e (by simpa using h) j u hj
    rw [← this]; congr 1; simp [EvV.cells]; omega
theorem nums_len : ∀ l : List EvV, (l.flatMap EvV.nums).length = 3 * l.length
  | [] => rfl
  | a :: l => by have := nums_len l; simp only [List.flatMap_cons, List.length_append, List.length_cons]; rw [this]; simp [EvV.nums]; omega

section
variable {F : Fence} {n : Nat} {P : Program}
/-- A struct read from wherever its cells lie, in a fenced walk. -/
theorem run_loadVar_at (w : World) (ad : Addr) (ty : TypeId) (cs : List Value) (d : TypeDesc) (hc : ∀ j v, cs[j]? = some v → w.cell? (ad.add j) = some v)
    (hu : P.underlying ty = some d) (hd : (match d with | .struct _ | .array _ _ => true | _ => false) = true) (hi : (P.info? ty).map (·.size) = some cs.length) :
    (loadVar ty ad).run P w = .ok (.agg cs.toArray) w := by
  have hl : (loadCells ad cs.length).run P w = .ok cs.toArray w := run_loadCells_list (P := P) w ad cs hc
  cases hq : P.info? ty with
  | none => simp [hq] at hi
  | some i =>
    have hs : i.size = cs.length := by simpa [hq] using hi
    have hagg : (isAgg ty).run P w = .ok true w := by
      unfold isAgg
      rw [Sem.run_bind, run_underlying hu w]
      cases d <;> simp_all
    simp [loadVar, Sem.run_bind, hagg, sizeOf, typeInfo, hq, hs, hl]
theorem wpListIn_load_at {ops : Array Oper} {rest : List Oper} {o : Oper} {a : Act} {w : World} {Q : Exit → Act → World → Prop} (hgd : o.guard = none) (ty : TypeId) (x : Operand) (ho : o.op = .load ty x)
    (ad : Addr) (hx : a.eval x = .pointer (some ad)) (cs : List Value) (d : TypeDesc) (hc : ∀ j v, cs[j]? = some v → w.cell? (ad.add j) = some v)
    (hu : P.underlying ty = some d) (hd : (match d with | .struct _ | .array _ _ => true | _ => false) = true) (hi : (P.info? ty).map (·.size) = some cs.length)
    (h : wpListIn F n P ops Q rest (a.put o.dst (.agg cs.toArray)) w) : wpListIn F n P ops Q (o :: rest) a w := by
  refine wpListIn_plain hgd fun K hK => ?_
  unfold Oper.wpIn
  refine ⟨?_, ?_⟩
  · simp [Oper.about, ho]
  · rw [Oper.semAt_plain F _ _ (by rw [ho]; intro c hc'; cases hc')]
    simp only [execOp, ho, hx, Instr.loadAt, Instr.sureAddr, Sem.run_bind, Sem.run_pure, Result.andThen_ok, run_loadVar_at w ad ty cs d hc hu hd hi]
    exact hK _ _ h
theorem gi_at_store_ {ops : Array Oper} {rest : List Oper} {o : Oper} {a : Act} {w : World} {Q : Exit → Act → World → Prop} (ty : TypeId) (p x : Operand) (_ : o.op = .store ty p x) (h : Stop (wpListIn F n P ops Q (o :: rest) a w) id) : wpListIn F n P ops Q (o :: rest) a w := h.out
theorem wpList_load_at {ops : Array Oper} {rest : List Oper} {o : Oper} {a : Act} {w : World} {Q : Exit → Act → World → Prop} (hgd : o.guard = none) (ty : TypeId) (x : Operand) (ho : o.op = .load ty x)
    (ad : Addr) (hx : a.eval x = .pointer (some ad)) (cs : List Value) (d : TypeDesc) (hc : ∀ j v, cs[j]? = some v → w.cell? (ad.add j) = some v)
    (hu : P.underlying ty = some d) (hd : (match d with | .struct _ | .array _ _ => true | _ => false) = true) (hi : (P.info? ty).map (·.size) = some cs.length)
    (h : wpList P ops Q rest (a.put o.dst (.agg cs.toArray)) w) : wpList P ops Q (o :: rest) a w :=
  wpList_val hgd (.agg cs.toArray) (by simp only [execOp, ho, hx, Instr.loadAt, Instr.sureAddr, Sem.run_bind, Sem.run_pure, Result.andThen_ok, run_loadVar_at w ad ty cs d hc hu hd hi]) h
end

abbrev IntI := { x : Int // InI x }

set_option maxRecDepth 100000 in
set_option maxHeartbeats 2000000 in
theorem numbers1_iter (bs : Nat) (r : RunV) (Kp : World → World → Prop) (w : World) (hok : r.ok w) (hrow : Row w bs 26 r.cells) (hl : r.evs.length ≤ 1000000)
    (hRun : ∀ A B, Kp A B → Row A bs 26 r.cells → Row B bs 26 r.cells) (hRd : ∀ A B, Kp A B → Rd A r.addr (r.evs.flatMap EvV.cells) → Rd B r.addr (r.evs.flatMap EvV.cells))
    (hSz : ∀ A B, Kp A B → A.heap.size ≤ B.heap.size) (hEv : ∀ A B k cs, w.heap.size ≤ k → Kp A B → Row A k 34 cs → Row B k 34 cs) :
    IterO Try.prog 29 #[.pointer (some ⟨bs, 0, none⟩)] (fun x : IntI => #[.int .i64 x.1]) (fun _ => False) Kp (fun xs => xs.map (·.1) = r.nums) (fun _ => True) (3 * r.evs.length + 2) w := by
  intro l J Jx W _ hwW hJ hJx hY h0
  have hbw : Below w.heap.size w W := ⟨hwW.os, hwW.tape, hwW.output, hwW.size, fun k hk => hwW.block k hk (by simp)⟩
  have hrW := hrow.below hbw hrow.lt
  have hdW := hok.reads.go hbw
  have Hok := Lib.hid hok
  have HRun := Lib.hid hRun
  have HRd := Lib.hid hRd
  have HEv := Lib.hid hEv
  have HSz := Lib.hid hSz
  have hsz := hbw.size
  have HJ := Lib.hid hJ
  have HY := Lib.hid hY
  have Hl := Lib.hid hl
  clear hrow hwW hok hRun hRd hEv hSz hJ hJx hY hbw hl
  have hc2 := hrW.cellv (i := 3) (v := .slice r.addr r.evs.length r.cap) rfl
  refine callsIn_of_wp Try.func29 rfl trivial ?_ rfl
  simp only [Try.ntmps29, List.size_toArray, List.length_cons, List.length_nil, Nat.reduceAdd, Nat.reduceSub, Array.replicate_succ, Array.replicate_zero, List.push_toArray, List.append_toArray, List.nil_append, List.cons_append]
  gi_wp2
  gi_loopw [8] (fun i wr => ∃ (k : Nat) (pre : List IntI), i = .int .i64 (k : Int) ∧ k ≤ r.evs.length ∧ Row wr bs 26 r.cells ∧ Rd wr r.addr (r.evs.flatMap EvV.cells) ∧ pre.map (·.1) = (r.evs.take k).flatMap EvV.nums ∧ w.heap.size ≤ wr.heap.size ∧ J pre wr) (fun i _ => r.evs.length - (intOf i).toNat)
  case atStart => exact ⟨0, [], by simp, Nat.zero_le _, hrW, hdW, by simp, hsz, h0⟩
  case round =>
    clear hrW hdW hc2 h0 hsz
    obtain ⟨k, pre, rfl, hk, hr, hd, hpre, hsz, hj⟩ := hrel
    have hpl : pre.length = 3 * k := by
      have := congrArg List.length hpre
      rw [List.length_map, nums_len, List.length_take] at this; omega
    have Hpre := Lib.hid hpre
    clear hpre
    by_cases hkn : k < r.evs.length
    · obtain ⟨e, he⟩ : ∃ e, r.evs[k]? = some e := ⟨_, List.getElem?_eq_getElem hkn⟩
      obtain ⟨ad, had, hce⟩ := hd.part (k * 3) e.cells (evcells_at r.evs k e he) (by simp [EvV.cells])
      have He := Lib.hid he
      have Hce := Lib.hid hce
      have hkn' : (k : Int) < (r.evs.length : Int) := by omega
      have hll := Hl.out
      clear he hce
      rw [had]
      have Had := Lib.hid had
      clear had
      have Hone : Hid (e.cells.toArray.all (·.oneCell') = true) := by show _ = true; simp [EvV.cells, Value.oneCell']
      gi_wp2_with (first
        | (refine wpListIn_load_at rfl 34 _ rfl (ad.add (k * 3)) rfl e.cells _ Hce.out Try.underlying34 rfl (by kernel_rfl) ?_)
        | (refine gi_at_store_ _ _ _ rfl ?_))
      refine Stop.to ?_
      refine wpListIn_store_row rfl 34 _ _ rfl wr.heap.size e.cells.toArray rfl rfl 34 _ (heap_alloc_new wr _) (by kernel_rfl) rfl Hone.out ?_
      rw [World.setRow_alloc_new]
      have rx := Row.new wr 34 e.cells.toArray
      have hr := hr.alloc (.cells e.cells.toArray 34)
      have hd := St.alloc (S := fun W => Rd W r.addr (r.evs.flatMap EvV.cells)) hd (.cells e.cells.toArray 34)
      have hj := HJ.out _ _ _ none hj (World.grownBy_alloc wr (.cells e.cells.toArray 34) none) (fun r e => by cases e)
      have hll2 : pre.length + 3 ≤ 3 * r.evs.length := by omega
      have Heok : Hid e.ok := Hok.out.evs e (List.mem_of_getElem? He.out)
      clear hpl
      have hsz2 : w.heap.size ≤ (wr.alloc (.cells e.cells.toArray 34)).heap.size := by simp; omega
      generalize wr.alloc (.cells e.cells.toArray 34) = w2 at rx hr hd hj hsz2 ⊢
      obtain ⟨gx, hgx⟩ : ∃ gx, gx = wr.heap.size := ⟨_, rfl⟩
      have lgx : w.heap.size ≤ gx := by omega
      rw [← hgx] at rx ⊢
      clear hgx hsz
      have c0 := rx.cellv (i := 0) (v := .int .i64 e.var) rfl
      obtain ⟨fn, tmps, assign, body, hy, hR⟩ := HY.out _ ⟨e.var, Heok.out.1⟩ w2 hj (by have := hll2; (try simp only [List.length_append, List.length_cons, List.length_nil]); omega)
      have HR := Lib.hid hR
      have Hj := Lib.hid hj
      clear hR hj
      gi_wp2
      refine ⟨rfl, HR.out.mono ?_⟩
      rintro e' w3 (⟨rfl, hj, hk⟩ | ⟨rfl, hjx⟩)
      rotate_left
      · clear hy c0
        gi_wp2
        refine ⟨fun _ h => (by cases h), ?_⟩
        gi_wp2
        refine bodyPost_ret (results_none rfl _ _ _) rfl ?_
        exact ⟨⟨_, rfl⟩, .inr ⟨_, trivial, hjx⟩⟩
      have rx := HEv.out _ _ _ _ lgx hk rx
      have hsz2 := Nat.le_trans hsz2 (HSz.out _ _ hk)
      have hr := HRun.out _ _ hk hr
      have hd := HRd.out _ _ hk hd
      clear hy c0 HR Hj
      have c1 := rx.cellv (i := 1) (v := .int .i64 e.at_) rfl
      obtain ⟨fn, tmps, assign, body, hy, hR⟩ := HY.out _ ⟨e.at_, Heok.out.2.1⟩ w3 hj (by have := hll2; (try simp only [List.length_append, List.length_cons, List.length_nil]); omega)
      have HR := Lib.hid hR
      have Hj := Lib.hid hj
      clear hR hj
      gi_wp2
      refine ⟨rfl, HR.out.mono ?_⟩
      rintro e' w4 (⟨rfl, hj, hk⟩ | ⟨rfl, hjx⟩)
      rotate_left
      · clear hy c1
        gi_wp2
        refine ⟨fun _ h => (by cases h), ?_⟩
        gi_wp2
        refine bodyPost_ret (results_none rfl _ _ _) rfl ?_
        exact ⟨⟨_, rfl⟩, .inr ⟨_, trivial, hjx⟩⟩
      have rx := HEv.out _ _ _ _ lgx hk rx
      have hsz2 := Nat.le_trans hsz2 (HSz.out _ _ hk)
      have hr := HRun.out _ _ hk hr
      have hd := HRd.out _ _ hk hd
      clear hy c1 HR Hj
      have c2 := rx.cellv (i := 2) (v := .int .i64 e.val) rfl
      obtain ⟨fn, tmps, assign, body, hy, hR⟩ := HY.out _ ⟨e.val, Heok.out.2.2⟩ w4 hj (by have := hll2; (try simp only [List.length_append, List.length_cons, List.length_nil]); omega)
      have HR := Lib.hid hR
      have Hj := Lib.hid hj
      clear hR hj
      gi_wp2
      refine ⟨rfl, HR.out.mono ?_⟩
      rintro e' w5 (⟨rfl, hj, hk⟩ | ⟨rfl, hjx⟩)
      rotate_left
      · clear hy c2
        gi_wp2
        refine bodyPost_ret (results_none rfl _ _ _) rfl ?_
        exact ⟨⟨_, rfl⟩, .inr ⟨_, trivial, hjx⟩⟩
      have rx := HEv.out _ _ _ _ lgx hk rx
      have hsz2 := Nat.le_trans hsz2 (HSz.out _ _ hk)
      have hr := HRun.out _ _ hk hr
      have hd := HRd.out _ _ hk hd
      clear hy c2 HR Hj
      gi_wp2
      go_roundw
      case rel =>
        refine ⟨k + 1, _, by go_num, by omega, hr, by have := hd; rw [Had.out] at this; exact this, ?_, hsz2, hj⟩
        rw [List.take_succ_eq_append_getElem hkn, List.flatMap_append]
        have hee : r.evs[k] = e := by have := He.out; rw [List.getElem?_eq_getElem hkn] at this; injection this
        rw [hee]
        simp [EvV.nums, Hpre.out]
      case measure => simp [intOf]; omega
    · obtain rfl : k = r.evs.length := by omega
      have c0 := hr.cellv (i := 0) (v := .int .i64 r.kind) rfl
      obtain ⟨fn, tmps, assign, body, hy, hR⟩ := HY.out _ ⟨r.kind, Hok.out.kind⟩ wr hj (by omega)
      have HR := Lib.hid hR
      have Hj := Lib.hid hj
      clear hR hj hkn
      gi_wp2
      refine ⟨rfl, HR.out.mono ?_⟩
      rintro e' w3 (⟨rfl, hj, hk⟩ | ⟨rfl, hjx⟩)
      rotate_left
      · clear hy c0
        gi_wp2
        go_end0
        exact ⟨⟨_, rfl⟩, .inr ⟨_, trivial, hjx⟩⟩
      have hr := HRun.out _ _ hk hr
      clear hy c0 HR Hj hd
      have c1 := hr.cellv (i := 1) (v := .int .i64 r.value) rfl
      obtain ⟨fn, tmps, assign, body, hy, hR⟩ := HY.out _ ⟨r.value, Hok.out.value⟩ w3 hj (by rw [List.length_append, List.length_singleton]; omega)
      have HR := Lib.hid hR
      have Hj := Lib.hid hj
      clear hR hj
      gi_wp2
      refine ⟨rfl, HR.out.mono ?_⟩
      rintro e' w4 (⟨rfl, hj, hk⟩ | ⟨rfl, hjx⟩)
      · clear hy c1
        gi_wp2
        go_end0
        exact ⟨⟨_, rfl⟩, .inl ⟨_, by have := Hpre.out; rw [List.take_length] at this; simp [RunV.nums, this], hj⟩⟩
      · clear hy c1
        gi_wp2
        go_end0
        exact ⟨⟨_, rfl⟩, .inr ⟨_, trivial, hjx⟩⟩
end Go.Proofs.Ytkdcelnlhhodlaa
