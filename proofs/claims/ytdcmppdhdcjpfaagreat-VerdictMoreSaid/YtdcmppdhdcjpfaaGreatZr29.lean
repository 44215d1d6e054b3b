/- Lemmas for VerdictMoreP. -/
import Derived.Test.YtdcmppdhdcjpfaaGreatZr23
import Derived.Test.YtdcmppdhdcjpfaaGreatZr7
import Derived.Test.YtdcmppdhdcjpfaaGreatZr28
import Derived.Test.YtdcmppdhdcjpfaaGreatZr1
import Derived.BigFrameIn
import Derived.Deep.WholeRow
import Derived.Deep.Cut
import Derived.Deep.RegionHeld3
import Derived.Laws.EntriesVeiled
import Derived.Test.YtdcmppdhdcjpfaaGreatRows
set_option linter.unusedVariables false
set_option linter.unusedSimpArgs false
set_option maxRecDepth 100000
set_option maxHeartbeats 16000000
namespace Go.Proofs.YtdcmppdhdcjpfaaGreat
open Go.RowKit Go.Deep
attribute [local go_sem] Oper.semAt_some
def EvV.nums (e : EvV) : List Int := [e.var, e.at_, e.val]
def RunV.nums (r : RunV) : List Int := r.evs.flatMap EvV.nums ++ [r.kind, r.value]
theorem Acq : ∀ l : List EvV, (l.flatMap EvV.nums).length = 3 * l.length
 | [] => rfl
 | a :: l => by have := Acq l; simp only [List.flatMap_cons, List.length_append, List.length_cons]; rw [this]; simp [EvV.nums]; omega
abbrev AiH := { x : Int // InI x }
theorem Ez (bs : Nat) (r : RunV) (Kp : World → World → Prop) (w : World) (hok : r.ok w) (hrow : Row w bs 40 r.cells) (hl : r.evs.length ≤ 1000000)
 (hRun : ∀ A B, Kp A B → Row A bs 40 r.cells → Row B bs 40 r.cells) (hRd : ∀ A B, Kp A B → Rd A r.addr (r.evs.flatMap EvV.cells) → Rd B r.addr (r.evs.flatMap EvV.cells))
 (hSz : ∀ A B, Kp A B → A.heap.size ≤ B.heap.size) (hEv : ∀ A B k cs, w.heap.size ≤ k → Kp A B → Row A k 189 cs → Row B k 189 cs) :
 Abr Tryz.prog 235 #[.pointer (some ⟨bs, 0, none⟩)] (fun x : AiH => #[.int .i64 x.1]) (fun _ => False) Kp (fun xs => xs.map (·.1) = r.nums) (fun _ => True) (3 * r.evs.length + 2) w := by
 intro l J Jx W _ hwW hJ hJx hY h0
 have hbw : Below w.heap.size w W := ⟨hwW.os, hwW.tape, hwW.output, hwW.size, fun k hk => hwW.block k hk (by simp)⟩
 have hrW := hrow.below hbw hrow.lt
 have hdW := hok.reads.go hbw
 have Hok := Lh hok
 have HRun := Lh hRun
 have HRd := Lh hRd
 have HEv := Lh hEv
 have HSz := Lh hSz
 have hsz := hbw.size
 have HJ := Lh hJ
 have HY := Lh hY
 have Hl := Lh hl
 clear hrow hwW hok hRun hRd hEv hSz hJ hJx hY hbw hl
 have hc2 := hrW.cellv (i := 3) (v := .slice r.addr r.evs.length r.cap) rfl
 refine callsIn_of_wp Tryz.func235 rfl trivial ?_ rfl
 simp only [Tryz.ntmps235, List.size_toArray, List.length_cons, List.length_nil, Nat.reduceAdd, Nat.reduceSub, Array.replicate_succ, Array.replicate_zero, List.push_toArray, List.append_toArray, List.nil_append, List.cons_append]
 gi_wp2
 gi_loopw [8] (fun i wr => ∃ (k : Nat) (pre : List AiH), i = .int .i64 (k : Int) ∧ k ≤ r.evs.length ∧ Row wr bs 40 r.cells ∧ Rd wr r.addr (r.evs.flatMap EvV.cells) ∧ pre.map (·.1) = (r.evs.take k).flatMap EvV.nums ∧ w.heap.size ≤ wr.heap.size ∧ J pre wr) (fun i _ => r.evs.length - (intOf i).toNat)
 case atStart => exact ⟨0, [], by simp, Nat.zero_le _, hrW, hdW, by simp, hsz, h0⟩
 case round =>
  clear hrW hdW hc2 h0 hsz
  obtain ⟨k, pre, rfl, hk, hr, hd, hpre, hsz, hj⟩ := hrel
  have hpl : pre.length = 3 * k := by
   have := congrArg List.length hpre
   rw [List.length_map, Acq, List.length_take] at this; omega
  have Hpre := Lh hpre
  clear hpre
  by_cases hkn : k < r.evs.length
  · obtain ⟨e, he⟩ : ∃ e, r.evs[k]? = some e := ⟨_, List.getElem?_eq_getElem hkn⟩
    obtain ⟨ad, had, hce⟩ := hd.part (k * 3) e.cells (Vk r.evs k e he) (by simp [EvV.cells])
    have He := Lh he
    have Hce := Lh hce
    have hkn' : (k : Int) < (r.evs.length : Int) := by omega
    have hll := Hl.out
    clear he hce
    rw [had]
    have Had := Lh had
    clear had
    have Hone : Hid (e.cells.toArray.all (·.oneCell') = true) := by show _ = true; simp [EvV.cells, Value.oneCell']
    gi_wp2_with (first
     | (refine ZT rfl 189 _ rfl (ad.add (k * 3)) rfl e.cells _ Hce.out Tryz.underlying189 rfl (by kernel_rfl) ?_)
     | (refine AaI _ _ _ rfl ?_))
    refine Stop.to ?_
    refine QZ rfl 189 _ _ rfl wr.heap.size e.cells.toArray rfl rfl 189 _ (heap_alloc_new wr _) (by kernel_rfl) rfl Hone.out ?_
    rw [World.setRow_alloc_new]
    have rx := Row.new wr 189 e.cells.toArray
    have hr := hr.alloc (.cells e.cells.toArray 189)
    have hd := St.alloc (S := fun W => Rd W r.addr (r.evs.flatMap EvV.cells)) hd (.cells e.cells.toArray 189)
    have hj := HJ.out _ _ _ none hj (World.grownBy_alloc wr (.cells e.cells.toArray 189) none) (fun r e => by cases e)
    have hll2 : pre.length + 3 ≤ 3 * r.evs.length := by omega
    have Heok : Hid e.ok := Hok.out.evs e (List.mem_of_getElem? He.out)
    clear hpl
    have hsz2 : w.heap.size ≤ (wr.alloc (.cells e.cells.toArray 189)).heap.size := by simp; omega
    generalize wr.alloc (.cells e.cells.toArray 189) = w2 at rx hr hd hj hsz2 ⊢
    obtain ⟨gx, hgx⟩ : ∃ gx, gx = wr.heap.size := ⟨_, rfl⟩
    have lgx : w.heap.size ≤ gx := by omega
    rw [← hgx] at rx ⊢
    clear hgx hsz
    have c0 := rx.cellv (i := 0) (v := .int .i64 e.var) rfl
    obtain ⟨fn, tmps, assign, body, hy, hR⟩ := HY.out _ ⟨e.var, Heok.out.1⟩ w2 hj (by have := hll2; (try simp only [List.length_append, List.length_cons, List.length_nil]); omega)
    have HR := Lh hR
    have Hj := Lh hj
    clear hR hj
    gi_wp2
    refine ⟨rfl, HR.out.mono ?_⟩
    rintro e' w3 (⟨rfl, hj, hk⟩ | ⟨rfl, hjx⟩)
    rotate_left
    · clear hy c0
      gi_wp2
      refine ⟨fun _ h => (by cases h), ?_⟩
      gi_wp2
      refine bodyPost_ret (results_none rfl _ _ _) rfl ?_
      exact ⟨⟨_, rfl⟩, .inr ⟨_, trivial, hjx⟩⟩
    have rx := HEv.out _ _ _ _ lgx hk rx
    have hsz2 := Nat.le_trans hsz2 (HSz.out _ _ hk)
    have hr := HRun.out _ _ hk hr
    have hd := HRd.out _ _ hk hd
    clear hy c0 HR Hj
    have c1 := rx.cellv (i := 1) (v := .int .i64 e.at_) rfl
    obtain ⟨fn, tmps, assign, body, hy, hR⟩ := HY.out _ ⟨e.at_, Heok.out.2.1⟩ w3 hj (by have := hll2; (try simp only [List.length_append, List.length_cons, List.length_nil]); omega)
    have HR := Lh hR
    have Hj := Lh hj
    clear hR hj
    gi_wp2
    refine ⟨rfl, HR.out.mono ?_⟩
    rintro e' w4 (⟨rfl, hj, hk⟩ | ⟨rfl, hjx⟩)
    rotate_left
    · clear hy c1
      gi_wp2
      refine ⟨fun _ h => (by cases h), ?_⟩
      gi_wp2
      refine bodyPost_ret (results_none rfl _ _ _) rfl ?_
      exact ⟨⟨_, rfl⟩, .inr ⟨_, trivial, hjx⟩⟩
    have rx := HEv.out _ _ _ _ lgx hk rx
    have hsz2 := Nat.le_trans hsz2 (HSz.out _ _ hk)
    have hr := HRun.out _ _ hk hr
    have hd := HRd.out _ _ hk hd
    clear hy c1 HR Hj
    have c2 := rx.cellv (i := 2) (v := .int .i64 e.val) rfl
    obtain ⟨fn, tmps, assign, body, hy, hR⟩ := HY.out _ ⟨e.val, Heok.out.2.2⟩ w4 hj (by have := hll2; (try simp only [List.length_append, List.length_cons, List.length_nil]); omega)
    have HR := Lh hR
    have Hj := Lh hj
    clear hR hj
    gi_wp2
    refine ⟨rfl, HR.out.mono ?_⟩
    rintro e' w5 (⟨rfl, hj, hk⟩ | ⟨rfl, hjx⟩)
    rotate_left
    · clear hy c2
      gi_wp2
      refine bodyPost_ret (results_none rfl _ _ _) rfl ?_
      exact ⟨⟨_, rfl⟩, .inr ⟨_, trivial, hjx⟩⟩
    have rx := HEv.out _ _ _ _ lgx hk rx
    have hsz2 := Nat.le_trans hsz2 (HSz.out _ _ hk)
    have hr := HRun.out _ _ hk hr
    have hd := HRd.out _ _ hk hd
    clear hy c2 HR Hj
    gi_wp2
    go_roundw
    case rel =>
     refine ⟨k + 1, _, by go_num, by omega, hr, by have := hd; rw [Had.out] at this; exact this, ?_, hsz2, hj⟩
     rw [List.take_succ_eq_append_getElem hkn, List.flatMap_append]
     have hee : r.evs[k] = e := by have := He.out; rw [List.getElem?_eq_getElem hkn] at this; injection this
     rw [hee]
     simp [EvV.nums, Hpre.out]
    case measure => simp [intOf]; omega
  · obtain rfl : k = r.evs.length := by omega
    have c0 := hr.cellv (i := 0) (v := .int .i64 r.kind) rfl
    obtain ⟨fn, tmps, assign, body, hy, hR⟩ := HY.out _ ⟨r.kind, Hok.out.kind⟩ wr hj (by omega)
    have HR := Lh hR
    have Hj := Lh hj
    clear hR hj hkn
    gi_wp2
    refine ⟨rfl, HR.out.mono ?_⟩
    rintro e' w3 (⟨rfl, hj, hk⟩ | ⟨rfl, hjx⟩)
    rotate_left
    · clear hy c0
      gi_wp2
      go_end0
      exact ⟨⟨_, rfl⟩, .inr ⟨_, trivial, hjx⟩⟩
    have hr := HRun.out _ _ hk hr
    clear hy c0 HR Hj hd
    have c1 := hr.cellv (i := 1) (v := .int .i64 r.value) rfl
    obtain ⟨fn, tmps, assign, body, hy, hR⟩ := HY.out _ ⟨r.value, Hok.out.value⟩ w3 hj (by rw [List.length_append, List.length_singleton]; omega)
    have HR := Lh hR
    have Hj := Lh hj
    clear hR hj
    gi_wp2
    refine ⟨rfl, HR.out.mono ?_⟩
    rintro e' w4 (⟨rfl, hj, hk⟩ | ⟨rfl, hjx⟩)
    · clear hy c1
      gi_wp2
      go_end0
      exact ⟨⟨_, rfl⟩, .inl ⟨_, by have := Hpre.out; rw [List.take_length] at this; simp [RunV.nums, this], hj⟩⟩
    · clear hy c1
      gi_wp2
      go_end0
      exact ⟨⟨_, rfl⟩, .inr ⟨_, trivial, hjx⟩⟩
end Go.Proofs.YtdcmppdhdcjpfaaGreat
namespace Go.Proofs.YtdcmppdhdcjpfaaGreat
open Go.RowKit Go.Deep
attribute [local go_sem] Oper.semAt_some
theorem Acp (r : RunV) (w : World) :
 Calls Tryz.prog 158 #[.agg r.cells] w fun e w' => e = .returned (.func (.func 235) #[] #[.pointer (some ⟨w.heap.size, 0, none⟩)]) ∧ w.alloc (.cells r.cells 40) = w' := by
 go_enter Tryz.func158, Tryz.ntmps158
 go_wp2
 go_ret
 exact ⟨rfl, rfl⟩
theorem Row.abid {W W' : World} {g B : Nat} {t : TypeId} {cs : Array Value} {row : Option Nat} (h : Row W g t cs) (hg : W.grownBy W' row) (hr : ∀ r, row = some r → False ∨ (B ≤ r ∧ ∃ o : Obj, W.heap[r]? = some o ∧ o.isCells = false)) : Row W' g t cs :=
 h.grown hg (fun e => by
  rcases hr g e with h' | ⟨_, o, ho, hc⟩
  · exact h'
  · rw [h] at ho; cases ho; cases hc)
theorem Wr.abid {W W' : World} {b g B : Nat} {l : List UInt8} {row : Option Nat} (h : Wr W b g l) (hg : W.grownBy W' row) (hr : ∀ r, row = some r → False ∨ (B ≤ r ∧ ∃ o : Obj, W.heap[r]? = some o ∧ o.isCells = false)) : Wr W' b g l := by
 obtain ⟨h0, v, h1, h2⟩ := h
 refine ⟨h0, v, h1.abid hg hr, h2.kept hg ?_⟩
 cases row with
 | none => cases v.ownBlock <;> simp
 | some r =>
  refine .inr (fun e => ?_)
  rcases hr r rfl with h' | ⟨_, o, ho, hc⟩
  · exact h'
  · exact ZS h2 ho hc e
def Xe (l : List Int) : List UInt8 := l.flatMap zz
theorem AcI (r : RunV) : Ud r.evs.length ++ Xe r.nums = Yq r.kind r.value r.evs := by
 have h : ∀ l : List EvV, Xe (l.flatMap EvV.nums) = l.flatMap EvV.bytes := by
  intro l
  induction l with
  | nil => rfl
  | cons a l ih => simp only [Xe, List.flatMap_cons, List.flatMap_append] at ih ⊢; rw [ih]; simp [EvV.nums, EvV.bytes]
 have h2 : Xe r.nums = Xe (r.evs.flatMap EvV.nums) ++ (zz r.kind ++ zz r.value) := by simp [Xe, RunV.nums]
 rw [h2, h, Yq]
theorem Aag : ∀ l : List Int, (Xe l).length ≤ 10 * l.length
 | [] => by simp [Xe]
 | a :: l => by
  have := Aag l; have := Yx a
  simp only [Xe, List.flatMap_cons, List.length_append, List.length_cons] at *; omega
def WrC (b g : Nat) (A B : World) : Prop := A.heap.size ≤ B.heap.size ∧ ∀ k cs t fr, A.heap[k]? = some (.cells cs t fr) → k ≠ g → (t ≠ 5 ∨ k < b) → B.heap[k]? = some (.cells cs t fr)
theorem WrC.of {b g : Nat} {A B : World} (h : WrEff b g A B) : WrC b g A B := ⟨h.size, fun k cs t fr hk hg ht => (h.block k (Array.getElem?_eq_some_iff.1 hk).1 hg (fun cs' hB h' => by
 rcases ht with ht | ht
 · rw [Row, hk] at h'; injection h' with h'; injection h' with _ h''; exact ht h''
 · omega)).trans hk⟩
theorem WrC.trans {b g : Nat} {A B C : World} (h : WrC b g A B) (k : WrC b g B C) : WrC b g A C := ⟨Nat.le_trans h.1 k.1, fun i cs t fr hi hg ht => k.2 i cs t fr (h.2 i cs t fr hi hg ht) hg ht⟩
theorem WrC.put {b g l : Nat} {W : World} {o o' : Obj} (ho : W.heap[l]? = some o) (hc : o.isCells = false) : WrC b g W (W.putObj l o') := ⟨by simp, fun k cs t fr hk _ _ => by
 rw [World.putObj_heap_other (fun e => by subst e; rw [ho] at hk; cases hk; cases hc)]; exact hk⟩
theorem WrC.refl (b g : Nat) (W : World) : WrC b g W W := ⟨Nat.le_refl _, fun _ _ _ _ h _ _ => h⟩
theorem WrC.row {b g k : Nat} {A B : World} {t : TypeId} {cs : Array Value} (h : WrC b g A B) (hr : Row A k t cs) (hg : k ≠ g) (ht : t ≠ 5 ∨ k < b) : Row B k t cs := h.2 k cs t (0, 0) hr hg ht
theorem Ac9 {W : World} {p : Addr} {u : Value} (h : W.cell? p = some u) : ∃ cs t fr, W.heap[p.block]? = some (.cells cs t fr) := by
 unfold World.cell? at h
 split at h
 · exact ⟨_, _, _, by assumption⟩
 · cases h
theorem AhL {w W : World} {addr : Option Addr} {xs : List Value} (h : Rd w addr xs) (b : Below w.heap.size w W) : Rd W addr xs := h.go b
theorem WrC.rd {w A B : World} {b g : Nat} {addr : Option Addr} {xs : List Value} (h : WrC b g A B) (h0 : Rd w addr xs) (hb : w.heap.size ≤ b) (hg : b ≤ g) (hA : Rd A addr xs) : Rd B addr xs := fun j u hj => by
 obtain ⟨ad, e, hc⟩ := hA j u hj
 obtain ⟨ad', e', hc'⟩ := h0 j u hj
 obtain rfl : ad = ad' := by rw [e] at e'; injection e'
 have h2 := World.block_lt_of_cell? _ _ hc'
 obtain ⟨cs, t, fr, h3⟩ := Ac9 hc
 have h4 := h.2 _ cs t fr h3 (by omega) (.inr (by omega))
 exact ⟨ad, e, (World.cell?_of_block (h4.trans h3.symm)).trans hc⟩
theorem AcH (r : RunV) (w : World) (hok : r.ok w) (hl : r.evs.length ≤ 10000) :
 Calls Tryz.prog 79 #[r.val] w fun e w' => e = .returned (.string ⟨(Yq r.kind r.value r.evs).toArray⟩) ∧ Below w.heap.size w w' := by
 have Hok := Lh hok
 have Hl := Lh hl
 clear hok hl
 refine (callsIn_wide (n := 0)).1 ?_
 refine callsIn_of_wp_marks Tryz.func79 rfl trivial ?_
 simp only [Tryz.ntmps79, List.size_toArray, List.length_cons, List.length_nil, Nat.reduceAdd, Nat.reduceSub, Array.replicate_succ, Array.replicate_zero, List.push_toArray, List.append_toArray, List.nil_append, List.cons_append]
 rw [show r.val = .agg r.cells from rfl]
 gi_wp2_with fail
 have r0 := Row.new w 40 r.cells
 have b0 := (Below.refl w.heap.size w).alloc (Nat.le_refl _) (.cells r.cells 40)
 generalize w.alloc (.cells r.cells 40) = w1 at r0 b0 ⊢
 obtain ⟨S, hSd⟩ : ∃ S, S = (fun W => Row W w.heap.size 40 r.cells ∧ Below w.heap.size w W) := ⟨_, rfl⟩
 have stS : St S := by rw [hSd]; infer_instance
 have s0 : ∀ W, S W → Row W w.heap.size 40 r.cells := by rw [hSd]; exact fun W h => h.1
 have s1 : ∀ W, S W → Below w.heap.size w W := by rw [hSd]; exact fun W h => h.2
 have smk : ∀ W, Row W w.heap.size 40 r.cells → Below w.heap.size w W → S W := by rw [hSd]; exact fun W h h' => ⟨h, h'⟩
 have hS : S w1.drew := St.drew (smk _ r0 b0)
 clear hSd r0 b0
 refine wpIn_wide.2 ?_
 refine wp_cut (fun a W => ∃ B0 g, w.heap.size < B0 ∧ S W ∧ Wr W B0 g (Ud r.evs.length) ∧ a = { tmps := #[.agg r.cells, .pointer (some ⟨w.heap.size, 0, none⟩), .string ⟨#[]⟩, .pointer (some ⟨g, 0, none⟩), undef, undef, .pointer (some ⟨g, 0, none⟩), .pointer (some ⟨w.heap.size, 3, none⟩), .slice r.addr r.evs.length r.cap, .int .i64 r.evs.length, .int .u64 r.evs.length, .pointer (some ⟨g, 0, none⟩), undef, undef, undef, undef, undef, undef, undef, undef, undef, undef], defers := [] }) ?rest ?first
 case first =>
  intro J K' hJ hK'
  have HJ := Lh hJ
  have HK := Lh hK'
  have hll := Hl.out
  clear hJ hK'
  refine wp_region_noPanic ?_
  refine wp_region_held (S := S) (by kernel_rfl) ?_
  simp only [List.size_toArray, List.length_cons, List.length_nil, Nat.reduceAdd, Array.replicate_succ, Array.replicate_zero, List.push_toArray, List.nil_append, List.cons_append]
  show wpAnyH _ _ _ _ _ _ _ _ w1.drew
  generalize w1.drew = w2 at hS ⊢
  (refine tkH 1 (.pointer (some ⟨w.heap.size, 3, none⟩)) rfl (Qd rfl (fun W hW => by (go_simp))) ?_; simp only [Act.put, Qa, Qb, Qc])
  (refine tkH 2 (.slice r.addr r.evs.length r.cap) rfl (Qd rfl (fun W hW => by ((have h := (s0 W hW).cellv (i := 3) (v := .slice r.addr r.evs.length r.cap) rfl; go_simp)))) ?_; simp only [Act.put, Qa, Qb, Qc])
  (refine tkH 3 (.int .i64 r.evs.length) rfl (Qd rfl (fun W hW => by (go_simp))) ?_; simp only [Act.put, Qa, Qb, Qc])
  (refine tkH 4 (.int .u64 r.evs.length) rfl (Qd rfl (fun W hW => by (go_simp; rw [IntKind.wrap_u64]; omega))) ?_; simp only [Act.put, Qa, Qb, Qc])
  (refine wpAnyH_all (rs := [0]) (by kernel_rfl) (by simp) (fun i hi => ?_); obtain rfl : i = 0 := by simpa using hi)
  refine Qe rfl rfl (fun K2 hK2 => ?_)
  refine Qx 155 #[] (w1 := w2) (by go_simp) ((AcT w2).mono ?_)
  rintro e w3 ⟨rfl, h3, b3⟩
  refine ⟨_, rfl, ?_⟩
  refine hK2 _ _ ?_
  clear hK2 K2
  simp only [Act.put, Qa, Qb, Qc]
  have hS3 := stS.go hS b3
  have hB : w.heap.size < w2.heap.size := (s0 _ hS).lt
  clear hS b3
  refine ⟨hS3, ?_⟩
  (refine wpAnyH_all (rs := [5]) (by kernel_rfl) (by simp) (fun i hi => ?_); obtain rfl : i = 5 := by simpa using hi)
  refine Qe rfl rfl (fun K2 hK2 => ?_)
  refine Qx 156 #[.pointer (some ⟨w2.heap.size, 0, none⟩), .int .u64 r.evs.length] (w1 := w3) (by go_simp) ((AhC _ _ [] r.evs.length (by simp) (by omega) w3 h3).mono ?_)
  rintro e w4 ⟨rfl, h4, e4⟩
  refine ⟨_, rfl, ?_⟩
  refine hK2 _ _ ?_
  clear hK2 K2
  simp only [Act.put, Qa, Qb, Qc]
  have hS4 : S w4 := smk _ (e4.row (s0 _ hS3) (by omega) (by decide)) ((s1 _ hS3).trans ((e4.below (Nat.le_refl _) (by have := h3.lt; omega)).mono (by omega)))
  refine ⟨hS4, ?_⟩
  (refine tkH 6 (.pointer (some ⟨w2.heap.size, 0, none⟩)) rfl (Qd rfl (fun W hW => by (rfl))) ?_; simp only [Act.put, Qa, Qb, Qc])
  refine wpAnyH_done (by kernel_rfl) ?_ _
  exact HK.out _ _ (Met.intro (HJ.out _ _ ⟨_, _, hB, hS4, by simpa using h4, rfl⟩))
 case rest =>
  rintro a W ⟨B0, g, hB, hS, hw, rfl⟩
  have gB : B0 ≤ g := hw.1
  have hrr := s0 _ hS
  have hcl : Row (W.alloc (.cells #[.func (.func 157) #[.pointer (some ⟨g, 0, none⟩)] #[]] 220)) W.heap.size 220 #[.func (.func 157) #[.pointer (some ⟨g, 0, none⟩)] #[]] := Row.new _ _ _
  have hr2 := hrr.alloc (.cells #[.func (.func 157) #[.pointer (some ⟨g, 0, none⟩)] #[]] 220)
  have hw2 := St.alloc (S := fun W => Wr W B0 g (Ud r.evs.length)) hw (.cells #[.func (.func 157) #[.pointer (some ⟨g, 0, none⟩)] #[]] 220)
  have hb2 := (s1 _ hS).alloc (s1 _ hS).size (.cells #[.func (.func 157) #[.pointer (some ⟨g, 0, none⟩)] #[]] 220)
  have lG : g < W.heap.size := hw.lt
  clear hrr
  gi_wp2_with (refine Q1 rfl 40 _ rfl w.heap.size rfl 40 r.cells (0, 0) _ hr2 Tryz.underlying40 rfl (by kernel_rfl) ?_)
  obtain ⟨BP, hBP⟩ : ∃ BP, BP = W.heap.size := ⟨_, rfl⟩
  have gBP : g < BP := by omega
  have bBP : w.heap.size ≤ BP := by rw [hBP]; exact (s1 _ hS).size
  have hokW : r.evs.length ≤ 10000 := Hl.out
  rw [← hBP] at hcl ⊢
  generalize W.alloc (.cells #[.func (.func 157) #[.pointer (some ⟨g, 0, none⟩)] #[]] 220) = w5 at hcl hr2 hw2 hb2 ⊢
  refine ⟨trivial, rfl, (callsIn_wide.2 (Acp r w5)).mono ?_⟩
  rintro e w6 ⟨rfl, hw6⟩
  have hi6 := Row.new w5 40 r.cells
  have hcl6 := hcl.alloc (.cells r.cells 40)
  have hw6' := St.alloc (S := fun W => Wr W B0 g (Ud r.evs.length)) hw2 (.cells r.cells 40)
  have hb6 := hb2.alloc hb2.size (.cells r.cells 40)
  rw [hw6] at hi6 hcl6 hw6' hb6
  have lcl := hcl.lt
  obtain ⟨Bs, hBs⟩ : ∃ Bs, Bs = w5.heap.size := ⟨_, rfl⟩
  rw [← hBs] at hi6 lcl ⊢
  have l6 := hi6.lt
  clear hBs hw6 hw2 hb2 hcl hr2 hS s0 s1 smk hw lG hBP
  have hok6 : r.ok w6 := ⟨Hok.out.kind, Hok.out.value, Hok.out.steps, Hok.out.len, Hok.out.cap, Hok.out.nil, AhL Hok.out.reads hb6, Hok.out.evs⟩
  have Hseq := Lh (Ez Bs r (WrC B0 g) w6 hok6 hi6 (by omega) (fun A B h hr => h.row hr (by omega) (.inl (by decide))) (fun A B h hr => h.rd Hok.out.reads (by omega) gB hr) (fun A B h => h.1) (fun A B k cs hk h hr => h.row hr (by omega) (.inl (by decide))))
  gi_wp2
  refine AaZ (gf := 235) (lb := #[.pointer (some ⟨Bs, 0, none⟩)]) rfl (enters_of Tryz.func235 (by kernel_rfl) rfl) Hseq.out (fun r h => h.elim)
   (fun h k => h.trans k) (fun W l o o' hl ho hc => WrC.put ho hc) (World.grownBy.refl _ _) (fun _ => rfl)
   (fun pre W => Row W BP 220 #[.func (.func 157) #[.pointer (some ⟨g, 0, none⟩)] #[]] ∧ Wr W B0 g (Ud r.evs.length ++ Xe (pre.map (·.1))) ∧ Below w.heap.size w W) (fun _ _ _ => False) ?hI ?hIx ⟨hcl6, by simpa [Xe] using hw6', hb6⟩
   (fun x a' W => a' = { tmps := #[.agg r.cells, .pointer (some ⟨w.heap.size, 0, none⟩), .string ⟨#[]⟩, .pointer (some ⟨g, 0, none⟩), .pointer (some ⟨BP, 0, none⟩), .int .i64 x.1, .pointer (some ⟨g, 0, none⟩), .pointer (some ⟨w.heap.size, 3, none⟩), .slice r.addr r.evs.length r.cap, .int .i64 r.evs.length, .int .u64 r.evs.length, .pointer (some ⟨g, 0, none⟩), .pointer (some ⟨g, 0, none⟩), .func (.func 157) #[.pointer (some ⟨g, 0, none⟩)] #[], .agg r.cells, .func (.func 235) #[] #[.pointer (some ⟨Bs, 0, none⟩)], .int .i64 x.1, undef, undef, undef, undef, undef], defers := [] }) ?hAx ?assign ?body ?done ?stop
  case hI =>
   rintro pre A B row ⟨h1, h2, h3⟩ hg hr
   refine ⟨h1.abid hg hr, h2.abid hg hr, h3.grown hg h3.size (fun k e => ?_)⟩
   rcases hr k e with h | ⟨h, _⟩
   · exact h.elim
   · have := hb6.size; omega
  case hIx => exact fun _ _ _ _ _ h _ _ => h
  case hAx => exact fun x a' _ _ _ _ h _ _ => h
  case assign =>
   rintro l pre x W K hI hK
   have HK := Lh hK
   clear hK
   gi_wp2
   exact HK.out _ _ (KeepsFrom.refl _ _) (WrC.refl _ _ _) hI rfl
  case body =>
   rintro l pre x a' W hl _ ⟨h1, h2, h3⟩ rfl hpl
   have hc := h1.cellv (i := 0) rfl
   have hlen : (Ud r.evs.length ++ Xe (pre.map (·.1))).length ≤ 1000000 := by
    have := YI r.evs.length; have := Aag (pre.map (·.1))
    rw [List.length_map] at this
    rw [List.length_append]; omega
   have Hlen := Lh hlen
   clear hlen
   gi_wp2_with fail
   refine ⟨trivial, rfl, (CallsIn.inRound l (callsIn_wide.2 (Aht B0 g _ x.1 Hlen.out x.2 W h2))).mono ?_⟩
   rintro e W2 ⟨rfl, hw2, e2⟩
   gi_wp2
   have hrg : ∃ v, Row W g 286 #[v] := by obtain ⟨_, v, h, _⟩ := h2; exact ⟨v, h⟩
   obtain ⟨v, hrg⟩ := hrg
   refine ⟨e2.keeps hrg, WrC.of e2, e2.row h1 (by omega) (by decide), ?_, h3.trans ((e2.below gB (by have := h2.lt; omega)).mono (by omega))⟩
   simpa [Xe] using hw2
  case stop => exact fun D c pre W _ _ h _ => h.elim
  case done =>
   rintro D ys W hD hys ⟨h1, h2, h3⟩ hK
   rw [hys, AcI] at h2
   have HK := Lh hK
   clear hK hys h1
   gi_wp2_with fail
   refine ⟨trivial, rfl, (callsIn_wide.2 (AcX B0 g _ W h2)).mono ?_⟩
   rintro e W2 ⟨rfl, rfl⟩
   clear h2
   gi_wp2
   refine ⟨by simp, .inl ⟨_, _, rfl, run_takeDeferred HK.out, ?_⟩⟩
   exact ⟨_, results_tmp rfl _ _ _, rfl, h3.grown (grownBy_putObj' _ _ _) h3.size (fun k e => by cases e; have := hb6.size; omega)⟩
end Go.Proofs.YtdcmppdhdcjpfaaGreat
namespace Go.Proofs.YtdcmppdhdcjpfaaGreat
open Go.RowKit Go.Deep
attribute [local go_sem] AeG AdZ AdY Abh Abi Abj UX X0 AeH AeI AcS
theorem AhP {x y : BitVec 32} (h : x = y) : Ending.returned (.int .u32 (wd x)) = .returned (.int .u32 (wd y)) := by rw [h]
theorem AiA (x : BitVec 32) (n : Nat) (h0 : 0 < n) (h1 : n < 32) : x <<< (32 - n) ||| x >>> (32 - (32 - n)) = x.rotateRight n := by
 rw [BitVec.rotateRight_def, Nat.mod_eq_of_lt h1, show 32 - (32 - n) = n from by omega, BitVec.or_comm]
theorem AiI : ∀ n : _root_.Fin 31, bits .and .u64 (IntKind.u64.wrap (-((n.val + 1 : Nat) : Int))) 31 = ((31 - n.val : Nat) : Int) := by decide +kernel
theorem AcD (x : BitVec 32) (n : Int) (h0 : 0 < n) (h1 : n < 32) (w : World) :
 Calls Tryz.prog 231 #[.int .u32 (wd x), .int .i64 n] w fun e w' => e = .returned (.int .u32 (wd (x.rotateRight n.toNat))) ∧ w = w' := by
 obtain ⟨n, rfl⟩ := Int.eq_ofNat_of_zero_le (Int.le_of_lt h0)
 rw [Int.toNat_natCast]
 obtain ⟨m, hmn⟩ : ∃ m, m = 32 - n := ⟨_, rfl⟩
 have hm : 0 < m := by omega
 have hm2 : m < 32 := by omega
 have hb : bits .and .u64 (IntKind.u64.wrap (-(n : Int))) 31 = (m : Int) := by
  have h := AiI ⟨n - 1, by omega⟩
  simp only [show n - 1 + 1 = n from by omega, show 31 - (n - 1) = m from by omega] at h
  exact h
 have hr : x <<< m ||| x >>> (32 - m) = x.rotateRight n := by rw [hmn]; exact AiA x n (by omega) (by omega)
 have Hr := Lh hr
 clear hr hmn
 go_enter Tryz.func231, Tryz.ntmps231
 go_wp2
 go_ret
 exact ⟨AhP Hr.out, rfl⟩
end Go.Proofs.YtdcmppdhdcjpfaaGreat
namespace Go.Proofs.YtdcmppdhdcjpfaaGreat
open Go.RowKit Go.Deep
def AbQ (l : List UInt8) (W : List (BitVec 32)) (i : Nat) : List (BitVec 32) := W.set (i / 4) (W.getD (i / 4) 0 <<< 8 ||| BitVec.ofNat 32 (l.getD i 0).toNat)
def fill (l : List UInt8) : Nat → List (BitVec 32)
 | 0 => List.replicate 64 0
 | i + 1 => AbQ l (fill l i) i
def Aih (W : List (BitVec 32)) (t : Nat) : BitVec 32 :=
 let x := W.getD (t - 15) 0
 let y := W.getD (t - 2) 0
 W.getD (t - 16) 0 + (x.rotateRight 7 ^^^ x.rotateRight 18 ^^^ x >>> 3) + W.getD (t - 7) 0 + (y.rotateRight 17 ^^^ y.rotateRight 19 ^^^ y >>> 10)
def Xq (W : List (BitVec 32)) : Nat → List (BitVec 32)
 | 0 => W
 | i + 1 => (Xq W i).set (16 + i) (Aih (Xq W i) (16 + i))
def X2 (l : List UInt8) : List (BitVec 32) := Xq (fill l 64) 48
theorem Kg (l : List UInt8) : ∀ i, (fill l i).length = 64
 | 0 => by simp [fill]
 | i + 1 => by simp [fill, AbQ, Kg l i]
theorem Jy (W : List (BitVec 32)) (h : W.length = 64) : ∀ i, (Xq W i).length = 64
 | 0 => h
 | i + 1 => by simp [Xq, Jy W h i]
attribute [local go_sem] AeG AdZ AdY Abh Abi Abj UX X0 AeH AeI AcS
theorem Af2 (x : BitVec 32) (b : UInt8) : bits .or .u32 (wd (x <<< 8)) ((b.toNat : Int) % 4294967296) = wd (x <<< 8 ||| BitVec.ofNat 32 b.toNat) := by
 rw [show ((b.toNat : Int) % 4294967296) = wd (BitVec.ofNat 32 b.toNat) from by rw [← Ah5]; have := b.toNat_lt; omega, AeG]
theorem Af1 (l : List UInt8) (k : Nat) : (wds (fill l k)).toArray.setIfInBounds (k / 4) (.int .u32 (bits .or .u32 (wd ((fill l k)[k / 4]?.getD 0#32 <<< 8)) (((l[k]?.getD 0).toNat : Int) % 4294967296))) = (wds (fill l (k + 1))).toArray := by
 rw [Af2, Y4]; rfl
theorem Yp (x : BitVec 32) (n : Int) (h0 : 0 < n) (h1 : n < 32) (w : World) :
 Calls Tryz.prog 231 #[.int .u32 (wd x), .int .i64 n] w fun e w' => e = .returned (.int .u32 (wd (x.rotateRight n.toNat))) ∧ w' = w :=
 (AcD x n h0 h1 w).mono fun _ _ h => ⟨h.1, h.2.symm⟩
theorem Ahj (W : List (BitVec 32)) (k : Nat) : (wds (Xq W k)).toArray.setIfInBounds (k + 16) (.int .u32 (wd (Aih (Xq W k) (k + 16)))) = (wds (Xq W (k + 1))).toArray := by
 rw [Y4, Nat.add_comm k 16]; rfl
theorem AfA (g : Nat) (T : TypeId) (l : List UInt8) (hl : l.length = 64) (w : World) (hg : g < w.heap.size) (hrow : Row w g T (u8s l).toArray) :
 Calls Tryz.prog 229 #[.pointer (some ⟨g, 0, none⟩)] w fun e w' => ∃ g', e = .returned (.pointer (some ⟨g', 0, none⟩)) ∧ w.heap.size ≤ g' ∧ Row w' g' 301 (wds (X2 l)).toArray ∧ Below w.heap.size w w' := by
 have Hl := Lh hl
 clear hl
 go_enter Tryz.func229, Tryz.ntmps229
 go_wp2
 go_loopw [10] (fun i wr => ∃ k : Nat, i = .int .i64 (k : Int) ∧ k ≤ 64 ∧ Row wr w.heap.size 301 (wds (fill l k)).toArray ∧ Below w.heap.size w wr) (fun i _ => (64 - intOf i).toNat)
 case atStart => exact ⟨0, by simp, by omega, Row.new _ _ _, (Below.refl _ _).alloc (Nat.le_refl _) _⟩
 case round =>
  obtain ⟨k, rfl, hk, hr, hb⟩ := hrel
  by_cases hk64 : k < 64
  · have hc := (hrow.below hb hg).cellv (AiF l k (by rw [Hl.out]; exact hk64))
    have hd := hr.cellv (KN (fill l k) (k / 4) (by rw [Kg]; omega))
    have hf := hr.free (k / 4)
    go_wp2
    go_quiet (fail)
    go_wp2
    go_roundw
    case rel => exact ⟨k + 1, by go_num, by omega, by rw [← Af1]; exact (hr.drewN _).set _ _, (ZK hb _).setCell (p := ⟨w.heap.size, k / 4, none⟩) (Nat.le_refl _) _⟩
    case measure => simp [intOf]; omega
  · obtain rfl : k = 64 := by omega
    clear hk64
    rw [show ((64 : Nat) : Int) = 64 from rfl]
    go_wp2
    go_loopw [6] (fun i wr => ∃ k : Nat, i = .int .i64 ((k : Int) + 16) ∧ k ≤ 48 ∧ Row wr w.heap.size 301 (wds (Xq (fill l 64) k)).toArray ∧ Below w.heap.size w wr) (fun i _ => (64 - intOf i).toNat)
    case atStart => exact ⟨0, by simp, by omega, hr, hb⟩
    case round =>
     clear hb hr
     obtain ⟨k, rfl, hk, hr, hb⟩ := hrel
     by_cases hk48 : k < 48
     · have h16 := hr.cellv (KN _ k (by rw [Jy _ (Kg _ _)]; omega))
       have h15 := hr.cellv (KN _ (k + 1) (by rw [Jy _ (Kg _ _)]; omega))
       have h7 := hr.cellv (KN _ (k + 9) (by rw [Jy _ (Kg _ _)]; omega))
       have h2 := hr.cellv (KN _ (k + 14) (by rw [Jy _ (Kg _ _)]; omega))
       have h0 := hr.cellv (KN _ (k + 16) (by rw [Jy _ (Kg _ _)]; omega))
       have hf := hr.free (k + 16)
       go_wp2
       go_quiet (fail)
       go_wp2
       refine QT 29 (by kernel_rfl) (by kernel_rfl) ?_
       simp only [List.take_succ_cons, List.take_zero, List.drop_succ_cons, List.drop_zero]
       have e16 : IntKind.i64.wrap (k : Int) = (k : Int) := by rw [IntKind.wrap_i64]; omega
       have e7 : IntKind.i64.wrap ((k : Int) + 16 - 7) = (k : Int) + 9 := by rw [IntKind.wrap_i64]; omega
       have t9 : ((k : Int) + 9).toNat = k + 9 := by omega
       have t16 : ((k : Int) + 16).toNat = k + 16 := by omega
       have p9 : (k : Int) + 9 < 64 := by omega
       have p0 : (k : Int) < 64 := by omega
       have q9 : 0 ≤ (k : Int) + 9 := by omega
       have q16 : 0 ≤ (k : Int) + 16 := by omega
       repeat (first | still_step | still_call (Yp _ _ (by omega) (by omega) _))
       refine wpStill_nil ?_
       clear e16 e7 t9 p9 p0 q9 q16
       go_wp2
       go_roundw
       case rel => exact ⟨k + 1, by go_num, by omega, by rw [← Ahj]; exact (hr.drewN _).set _ _, (ZK hb _).setCell (p := ⟨w.heap.size, k + 16, none⟩) (Nat.le_refl _) _⟩
       case measure => simp [intOf]; omega
     · obtain rfl : k = 48 := by omega
       clear hk48
       go_wp2
       go_ret
       exact ⟨_, rfl, Nat.le_refl _, hr, hb⟩
end Go.Proofs.YtdcmppdhdcjpfaaGreat
namespace Go.Proofs.YtdcmppdhdcjpfaaGreat
open Go.RowKit Go.Deep
def cubeL : List (BitVec 32) := [
 0x428a2f98, 0x71374491, 0xb5c0fbcf, 0xe9b5dba5, 0x3956c25b, 0x59f111f1, 0x923f82a4, 0xab1c5ed5,
 0xd807aa98, 0x12835b01, 0x243185be, 0x550c7dc3, 0x72be5d74, 0x80deb1fe, 0x9bdc06a7, 0xc19bf174,
 0xe49b69c1, 0xefbe4786, 0x0fc19dc6, 0x240ca1cc, 0x2de92c6f, 0x4a7484aa, 0x5cb0a9dc, 0x76f988da,
 0x983e5152, 0xa831c66d, 0xb00327c8, 0xbf597fc7, 0xc6e00bf3, 0xd5a79147, 0x06ca6351, 0x14292967,
 0x27b70a85, 0x2e1b2138, 0x4d2c6dfc, 0x53380d13, 0x650a7354, 0x766a0abb, 0x81c2c92e, 0x92722c85,
 0xa2bfe8a1, 0xa81a664b, 0xc24b8b70, 0xc76c51a3, 0xd192e819, 0xd6990624, 0xf40e3585, 0x106aa070,
 0x19a4c116, 0x1e376c08, 0x2748774c, 0x34b0bcb5, 0x391c0cb3, 0x4ed8aa4a, 0x5b9cca4f, 0x682e6ff3,
 0x748f82ee, 0x78a5636f, 0x84c87814, 0x8cc70208, 0x90befffa, 0xa4506ceb, 0xbef9a3f7, 0xc67178f2]
theorem AeQ (w : World) :
 Calls Tryz.prog 230 #[] w fun e w' => ∃ g', e = .returned (.pointer (some ⟨g', 0, none⟩)) ∧ w.heap.size ≤ g' ∧ Row w' g' 301 (wds cubeL).toArray ∧ Below w.heap.size w w' := by
 go_enter Tryz.func230, Tryz.ntmps230
 go_wp2_with (
  (refine wpList_build rfl 301 _ rfl (by kernel_rfl) ?_
   generalize hX : (Program.built _ _ _).getD #[] = X
   have hX2 : X = (wds cubeL).toArray := by rw [← hX]; kernel_rfl
   clear hX
   subst hX2))
 go_ret
 exact ⟨_, rfl, Nat.le_refl _, Row.new _ _ _, (Below.refl _ _).alloc (Nat.le_refl _) _⟩
def Ko : List (BitVec 32) := [0x6a09e667, 0xbb67ae85, 0x3c6ef372, 0xa54ff53a, 0x510e527f, 0x9b05688c, 0x1f83d9ab, 0x5be0cd19]
theorem Afu (w : World) :
 Calls Tryz.prog 150 #[] w fun e w' => e = .returned (.agg (wds Ko).toArray) ∧ Below w.heap.size w w' := by
 go_enter Tryz.func150, Tryz.ntmps150
 go_wp2
 exact bodyPost_ret (v := .agg (wds Ko).toArray) (results_cell_row Tryz.results150 _ _ w.heap.size 207 _ (0, 0) _ rfl (heap_alloc_new w _) Tryz.underlying207 rfl (by kernel_rfl)) rfl ⟨rfl, (Below.refl _ _).alloc (Nat.le_refl _) _⟩
end Go.Proofs.YtdcmppdhdcjpfaaGreat
