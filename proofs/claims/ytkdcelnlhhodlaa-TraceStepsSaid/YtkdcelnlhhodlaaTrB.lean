/- The walk over package trace: Bytes. -/
import Derived.Test.YtkdcelnlhhodlaaTrA
import Derived.Test.YtkdcelnlhhodlaaHold
import Derived.Deep.Cut
import Derived.Deep.RegionHeld3
import Derived.Laws.EntriesVeiled
namespace Go.Proofs.Ytkdcelnlhhodlaa
open Go.RowKit Go.Deep
attribute [local go_sem] Oper.semAt_some

theorem numbers_any (r : RunV) (w : World) :
    Calls Try.prog 16 #[.agg r.cells] w fun e w' => e = .returned (.func (.func 29) #[] #[.pointer (some ⟨w.heap.size, 0, none⟩)]) ∧ w.alloc (.cells r.cells 26) = w' := by
  go_enter Try.func16, Try.ntmps16
  go_wp2
  go_ret
  exact ⟨rfl, rfl⟩

/-- Between two rounds of an iterator: rows are kept. -/
theorem Row.abid {W W' : World} {g B : Nat} {t : TypeId} {cs : Array Value} {row : Option Nat} (h : Row W g t cs) (hg : W.grownBy W' row) (hr : ∀ r, row = some r → False ∨ (B ≤ r ∧ ∃ o : Obj, W.heap[r]? = some o ∧ o.isCells = false)) : Row W' g t cs :=
  h.grown hg (fun e => by
    rcases hr g e with h' | ⟨_, o, ho, hc⟩
    · exact h'
    · rw [h] at ho; cases ho; cases hc)
theorem Wr.abid {W W' : World} {b g B : Nat} {l : List UInt8} {row : Option Nat} (h : Wr W b g l) (hg : W.grownBy W' row) (hr : ∀ r, row = some r → False ∨ (B ≤ r ∧ ∃ o : Obj, W.heap[r]? = some o ∧ o.isCells = false)) : Wr W' b g l := by
  obtain ⟨h0, v, h1, h2⟩ := h
  refine ⟨h0, v, h1.abid hg hr, h2.kept hg ?_⟩
  cases row with
  | none => cases v.ownBlock <;> simp
  | some r =>
    refine .inr (fun e => ?_)
    rcases hr r rfl with h' | ⟨_, o, ho, hc⟩
    · exact h'
    · exact own_cells h2 ho hc e
def numsB (l : List Int) : List UInt8 := l.flatMap zz
theorem traceL_nums (r : RunV) : lebL r.evs.length ++ numsB r.nums = traceL r.kind r.value r.evs := by
  have h : ∀ l : List EvV, numsB (l.flatMap EvV.nums) = l.flatMap EvV.bytes := by
    intro l
    induction l with
    | nil => rfl
    | cons a l ih => simp only [numsB, List.flatMap_cons, List.flatMap_append] at ih ⊢; rw [ih]; simp [EvV.nums, EvV.bytes]
  have h2 : numsB r.nums = numsB (r.evs.flatMap EvV.nums) ++ (zz r.kind ++ zz r.value) := by simp [numsB, RunV.nums]
  rw [h2, h, traceL]
theorem numsB_len : ∀ l : List Int, (numsB l).length ≤ 10 * l.length
  | [] => by simp [numsB]
  | a :: l => by
    have := numsB_len l; have := zz_len a
    simp only [numsB, List.flatMap_cons, List.length_append, List.length_cons] at *; omega
/-- What a writer's methods and a loop's own record leave: all cells but the writer's. -/
def WrC (b g : Nat) (A B : World) : Prop := A.heap.size ≤ B.heap.size ∧ ∀ k cs t fr, A.heap[k]? = some (.cells cs t fr) → k ≠ g → (t ≠ 5 ∨ k < b) → B.heap[k]? = some (.cells cs t fr)
theorem WrC.of {b g : Nat} {A B : World} (h : WrEff b g A B) : WrC b g A B := ⟨h.size, fun k cs t fr hk hg ht => (h.block k (Array.getElem?_eq_some_iff.1 hk).1 hg (fun cs' hB h' => by
  rcases ht with ht | ht
  · rw [Row, hk] at h'; injection h' with h'; injection h' with _ h''; exact ht h''
  · omega)).trans hk⟩
theorem WrC.trans {b g : Nat} {A B C : World} (h : WrC b g A B) (k : WrC b g B C) : WrC b g A C := ⟨Nat.le_trans h.1 k.1, fun i cs t fr hi hg ht => k.2 i cs t fr (h.2 i cs t fr hi hg ht) hg ht⟩
theorem WrC.put {b g l : Nat} {W : World} {o o' : Obj} (ho : W.heap[l]? = some o) (hc : o.isCells = false) : WrC b g W (W.putObj l o') := ⟨by simp, fun k cs t fr hk _ _ => by
  rw [World.putObj_heap_other (fun e => by subst e; rw [ho] at hk; cases hk; cases hc)]; exact hk⟩
theorem WrC.refl (b g : Nat) (W : World) : WrC b g W W := ⟨Nat.le_refl _, fun _ _ _ _ h _ _ => h⟩
theorem WrC.row {b g k : Nat} {A B : World} {t : TypeId} {cs : Array Value} (h : WrC b g A B) (hr : Row A k t cs) (hg : k ≠ g) (ht : t ≠ 5 ∨ k < b) : Row B k t cs := h.2 k cs t (0, 0) hr hg ht
theorem cell_cells {W : World} {p : Addr} {u : Value} (h : W.cell? p = some u) : ∃ cs t fr, W.heap[p.block]? = some (.cells cs t fr) := by
  unfold World.cell? at h
  split at h
  · exact ⟨_, _, _, by assumption⟩
  · cases h
theorem rd_from {w W : World} {addr : Option Addr} {xs : List Value} (h : Rd w addr xs) (b : Below w.heap.size w W) : Rd W addr xs := h.go b
theorem WrC.rd {w A B : World} {b g : Nat} {addr : Option Addr} {xs : List Value} (h : WrC b g A B) (h0 : Rd w addr xs) (hb : w.heap.size ≤ b) (hg : b ≤ g) (hA : Rd A addr xs) : Rd B addr xs := fun j u hj => by
  obtain ⟨ad, e, hc⟩ := hA j u hj
  obtain ⟨ad', e', hc'⟩ := h0 j u hj
  obtain rfl : ad = ad' := by rw [e] at e'; injection e'
  have h2 := World.block_lt_of_cell? _ _ hc'
  obtain ⟨cs, t, fr, h3⟩ := cell_cells hc
  have h4 := h.2 _ cs t fr h3 (by omega) (.inr (by omega))
  exact ⟨ad, e, (World.cell?_of_block (h4.trans h3.symm)).trans hc⟩

set_option maxRecDepth 100000 in
set_option maxHeartbeats 2000000 in
theorem trBytes_any (r : RunV) (w : World) (hok : r.ok w) (hl : r.evs.length ≤ 1000) :
    Calls Try.prog 7 #[r.val] w fun e w' => e = .returned (.string ⟨(traceL r.kind r.value r.evs).toArray⟩) ∧ Below w.heap.size w w' := by
  have Hok := Lib.hid hok
  have Hl := Lib.hid hl
  clear hok hl
  refine (callsIn_wide (n := 0)).1 ?_
  refine callsIn_of_wp_marks Try.func7 rfl trivial ?_
  simp only [Try.ntmps7, List.size_toArray, List.length_cons, List.length_nil, Nat.reduceAdd, Nat.reduceSub, Array.replicate_succ, Array.replicate_zero, List.push_toArray, List.append_toArray, List.nil_append, List.cons_append]
  rw [show r.val = .agg r.cells from rfl]
  gi_wp2_with fail
  have r0 := Row.new w 26 r.cells
  have b0 := (Below.refl w.heap.size w).alloc (Nat.le_refl _) (.cells r.cells 26)
  generalize w.alloc (.cells r.cells 26) = w1 at r0 b0 ⊢
  obtain ⟨S, hSd⟩ : ∃ S, S = (fun W => Row W w.heap.size 26 r.cells ∧ Below w.heap.size w W) := ⟨_, rfl⟩
  have stS : St S := by rw [hSd]; infer_instance
  have s0 : ∀ W, S W → Row W w.heap.size 26 r.cells := by rw [hSd]; exact fun W h => h.1
  have s1 : ∀ W, S W → Below w.heap.size w W := by rw [hSd]; exact fun W h => h.2
  have smk : ∀ W, Row W w.heap.size 26 r.cells → Below w.heap.size w W → S W := by rw [hSd]; exact fun W h h' => ⟨h, h'⟩
  have hS : S w1.drew := St.drew (smk _ r0 b0)
  clear hSd r0 b0
  refine wpIn_wide.2 ?_
  refine wp_cut (fun a W => ∃ B0 g, w.heap.size < B0 ∧ S W ∧ Wr W B0 g (lebL r.evs.length) ∧ a = { tmps := #[.agg r.cells, .pointer (some ⟨w.heap.size, 0, none⟩), .string ⟨#[]⟩, .pointer (some ⟨g, 0, none⟩), undef, undef, .pointer (some ⟨g, 0, none⟩), .pointer (some ⟨w.heap.size, 3, none⟩), .slice r.addr r.evs.length r.cap, .int .i64 r.evs.length, .int .u64 r.evs.length, .pointer (some ⟨g, 0, none⟩), undef, undef, undef, undef, undef, undef, undef, undef, undef, undef], defers := [] }) ?rest ?first
  case first =>
    intro J K' hJ hK'
    have HJ := Lib.hid hJ
    have HK := Lib.hid hK'
    have hll := Hl.out
    clear hJ hK'
    refine wp_region_noPanic ?_
    refine wp_region_held (S := S) (by kernel_rfl) ?_
    simp only [List.size_toArray, List.length_cons, List.length_nil, Nat.reduceAdd, Array.replicate_succ, Array.replicate_zero, List.push_toArray, List.nil_append, List.cons_append]
    show wpAnyH _ _ _ _ _ _ _ _ w1.drew
    generalize w1.drew = w2 at hS ⊢
    (refine takeH (i := 1) (v := .pointer (some ⟨w.heap.size, 3, none⟩)) rfl (by kernel_rfl) (by kernel_rfl) (by kernel_rfl) (fun _ _ _ h => h) (yields_val rfl (fun W hW => by go_simp)) (by assumption) ?_; simp only [Act.put, List.setIfInBounds_toArray, List.set_cons_zero, List.set_cons_succ])
    (refine takeH (i := 2) (v := .slice r.addr r.evs.length r.cap) rfl (by kernel_rfl) (by kernel_rfl) (by kernel_rfl) (fun _ _ _ h => h) (yields_val rfl (fun W hW => by (have h := (s0 W hW).cellv (i := 3) (v := .slice r.addr r.evs.length r.cap) rfl; go_simp))) (by assumption) ?_; simp only [Act.put, List.setIfInBounds_toArray, List.set_cons_zero, List.set_cons_succ])
    (refine takeH (i := 3) (v := .int .i64 r.evs.length) rfl (by kernel_rfl) (by kernel_rfl) (by kernel_rfl) (fun _ _ _ h => h) (yields_val rfl (fun W hW => by go_simp)) (by assumption) ?_; simp only [Act.put, List.setIfInBounds_toArray, List.set_cons_zero, List.set_cons_succ])
    (refine takeH (i := 4) (v := .int .u64 r.evs.length) rfl (by kernel_rfl) (by kernel_rfl) (by kernel_rfl) (fun _ _ _ h => h) (yields_val rfl (fun W hW => by go_simp; rw [IntKind.wrap_u64]; omega)) (by assumption) ?_; simp only [Act.put, List.setIfInBounds_toArray, List.set_cons_zero, List.set_cons_succ])
    (refine wpAnyH_all (rs := [0]) (by kernel_rfl) (by simp) (fun i hi => ?_); obtain rfl : i = 0 := by simpa using hi)
    refine wpOp_plain rfl rfl (fun K2 hK2 => ?_)
    refine wp_call_gen 13 #[] (w1 := w2) (by go_simp) ((wireNew_any w2).mono ?_)
    rintro e w3 ⟨rfl, h3, b3⟩
    refine ⟨_, rfl, ?_⟩
    refine hK2 _ _ ?_
    clear hK2 K2
    simp only [Act.put, List.setIfInBounds_toArray, List.set_cons_zero, List.set_cons_succ]
    have hS3 := stS.go hS b3
    have hB : w.heap.size < w2.heap.size := (s0 _ hS).lt
    clear hS b3
    refine ⟨hS3, ?_⟩
    (refine wpAnyH_all (rs := [5]) (by kernel_rfl) (by simp) (fun i hi => ?_); obtain rfl : i = 5 := by simpa using hi)
    refine wpOp_plain rfl rfl (fun K2 hK2 => ?_)
    refine wp_call_gen 14 #[.pointer (some ⟨w2.heap.size, 0, none⟩), .int .u64 r.evs.length] (w1 := w3) (by go_simp) ((num_any _ _ [] r.evs.length (by simp) (by omega) w3 h3).mono ?_)
    rintro e w4 ⟨rfl, h4, e4⟩
    refine ⟨_, rfl, ?_⟩
    refine hK2 _ _ ?_
    clear hK2 K2
    simp only [Act.put, List.setIfInBounds_toArray, List.set_cons_zero, List.set_cons_succ]
    have hS4 : S w4 := smk _ (e4.row (s0 _ hS3) (by omega) (by decide)) ((s1 _ hS3).trans ((e4.below (Nat.le_refl _) (by have := h3.lt; omega)).mono (by omega)))
    refine ⟨hS4, ?_⟩
    (refine takeH (i := 6) (v := .pointer (some ⟨w2.heap.size, 0, none⟩)) rfl (by kernel_rfl) (by kernel_rfl) (by kernel_rfl) (fun _ _ _ h => h) (yields_val rfl (fun W hW => by rfl)) (by assumption) ?_; simp only [Act.put, List.setIfInBounds_toArray, List.set_cons_zero, List.set_cons_succ])
    refine wpAnyH_done (by kernel_rfl) ?_ _
    exact HK.out _ _ (Met.intro (HJ.out _ _ ⟨_, _, hB, hS4, by simpa using h4, rfl⟩))
  case rest =>
    rintro a W ⟨B0, g, hB, hS, hw, rfl⟩
    have gB : B0 ≤ g := hw.1
    have hrr := s0 _ hS
    have hcl : Row (W.alloc (.cells #[.func (.func 15) #[.pointer (some ⟨g, 0, none⟩)] #[]] 40)) W.heap.size 40 #[.func (.func 15) #[.pointer (some ⟨g, 0, none⟩)] #[]] := Row.new _ _ _
    have hr2 := hrr.alloc (.cells #[.func (.func 15) #[.pointer (some ⟨g, 0, none⟩)] #[]] 40)
    have hw2 := St.alloc (S := fun W => Wr W B0 g (lebL r.evs.length)) hw (.cells #[.func (.func 15) #[.pointer (some ⟨g, 0, none⟩)] #[]] 40)
    have hb2 := (s1 _ hS).alloc (s1 _ hS).size (.cells #[.func (.func 15) #[.pointer (some ⟨g, 0, none⟩)] #[]] 40)
    have lG : g < W.heap.size := hw.lt
    clear hrr
    gi_wp2_with (refine wpListIn_load_row rfl 26 _ rfl w.heap.size rfl 26 r.cells (0, 0) _ hr2 Try.underlying26 rfl (by kernel_rfl) ?_)
    obtain ⟨BP, hBP⟩ : ∃ BP, BP = W.heap.size := ⟨_, rfl⟩
    have gBP : g < BP := by omega
    have bBP : w.heap.size ≤ BP := by rw [hBP]; exact (s1 _ hS).size
    have hokW : r.evs.length ≤ 1000 := Hl.out
    rw [← hBP] at hcl ⊢
    generalize W.alloc (.cells #[.func (.func 15) #[.pointer (some ⟨g, 0, none⟩)] #[]] 40) = w5 at hcl hr2 hw2 hb2 ⊢
    refine ⟨trivial, rfl, (callsIn_wide.2 (numbers_any r w5)).mono ?_⟩
    rintro e w6 ⟨rfl, hw6⟩
    have hi6 := Row.new w5 26 r.cells
    have hcl6 := hcl.alloc (.cells r.cells 26)
    have hw6' := St.alloc (S := fun W => Wr W B0 g (lebL r.evs.length)) hw2 (.cells r.cells 26)
    have hb6 := hb2.alloc hb2.size (.cells r.cells 26)
    rw [hw6] at hi6 hcl6 hw6' hb6
    have lcl := hcl.lt
    obtain ⟨Bs, hBs⟩ : ∃ Bs, Bs = w5.heap.size := ⟨_, rfl⟩
    rw [← hBs] at hi6 lcl ⊢
    have l6 := hi6.lt
    clear hBs hw6 hw2 hb2 hcl hr2 hS s0 s1 smk hw lG hBP
    have hok6 : r.ok w6 := ⟨Hok.out.kind, Hok.out.value, Hok.out.steps, Hok.out.len, Hok.out.cap, Hok.out.nil, rd_from Hok.out.reads hb6, Hok.out.evs⟩
    have Hseq := Lib.hid (numbers1_iter Bs r (WrC B0 g) w6 hok6 hi6 (by omega) (fun A B h hr => h.row hr (by omega) (.inl (by decide))) (fun A B h hr => h.rd Hok.out.reads (by omega) gB hr) (fun A B h => h.1) (fun A B k cs hk h hr => h.row hr (by omega) (.inl (by decide))))
    gi_wp2
    refine rangeO (gf := 29) (lb := #[.pointer (some ⟨Bs, 0, none⟩)]) rfl (enters_of Try.func29 (by kernel_rfl) rfl) Hseq.out (fun r h => h.elim)
      (fun h k => h.trans k) (fun W l o o' hl ho hc => WrC.put ho hc) (World.grownBy.refl _ _) (fun _ => rfl)
      (fun pre W => Row W BP 40 #[.func (.func 15) #[.pointer (some ⟨g, 0, none⟩)] #[]] ∧ Wr W B0 g (lebL r.evs.length ++ numsB (pre.map (·.1))) ∧ Below w.heap.size w W) (fun _ _ _ => False) ?hI ?hIx ⟨hcl6, by simpa [numsB] using hw6', hb6⟩
      (fun x a' W => a' = { tmps := #[.agg r.cells, .pointer (some ⟨w.heap.size, 0, none⟩), .string ⟨#[]⟩, .pointer (some ⟨g, 0, none⟩), .pointer (some ⟨BP, 0, none⟩), .int .i64 x.1, .pointer (some ⟨g, 0, none⟩), .pointer (some ⟨w.heap.size, 3, none⟩), .slice r.addr r.evs.length r.cap, .int .i64 r.evs.length, .int .u64 r.evs.length, .pointer (some ⟨g, 0, none⟩), .pointer (some ⟨g, 0, none⟩), .func (.func 15) #[.pointer (some ⟨g, 0, none⟩)] #[], .agg r.cells, .func (.func 29) #[] #[.pointer (some ⟨Bs, 0, none⟩)], .int .i64 x.1, undef, undef, undef, undef, undef], defers := [] }) ?hAx ?assign ?body ?done ?stop
    case hI =>
      rintro pre A B row ⟨h1, h2, h3⟩ hg hr
      refine ⟨h1.abid hg hr, h2.abid hg hr, h3.grown hg h3.size (fun k e => ?_)⟩
      rcases hr k e with h | ⟨h, _⟩
      · exact h.elim
      · have := hb6.size; omega
    case hIx => exact fun _ _ _ _ _ h _ _ => h
    case hAx => exact fun x a' _ _ _ _ h _ _ => h
    case assign =>
      rintro l pre x W K hI hK
      have HK := Lib.hid hK
      clear hK
      gi_wp2
      exact HK.out _ _ (KeepsFrom.refl _ _) (WrC.refl _ _ _) hI rfl
    case body =>
      rintro l pre x a' W hl _ ⟨h1, h2, h3⟩ rfl hpl
      have hc := h1.cellv (i := 0) rfl
      have hlen : (lebL r.evs.length ++ numsB (pre.map (·.1))).length ≤ 1000000 := by
        have := lebL_len r.evs.length; have := numsB_len (pre.map (·.1))
        rw [List.length_map] at this
        rw [List.length_append]; omega
      have Hlen := Lib.hid hlen
      clear hlen
      gi_wp2_with fail
      refine ⟨trivial, rfl, (CallsIn.inRound l (callsIn_wide.2 (int_any B0 g _ x.1 Hlen.out x.2 W h2))).mono ?_⟩
      rintro e W2 ⟨rfl, hw2, e2⟩
      gi_wp2
      have hrg : ∃ v, Row W g 59 #[v] := by obtain ⟨_, v, h, _⟩ := h2; exact ⟨v, h⟩
      obtain ⟨v, hrg⟩ := hrg
      refine ⟨e2.keeps hrg, WrC.of e2, e2.row h1 (by omega) (by decide), ?_, h3.trans ((e2.below gB (by have := h2.lt; omega)).mono (by omega))⟩
      simpa [numsB] using hw2
    case stop => exact fun D c pre W _ _ h _ => h.elim
    case done =>
      rintro D ys W hD hys ⟨h1, h2, h3⟩ hK
      rw [hys, traceL_nums] at h2
      have HK := Lib.hid hK
      clear hK hys h1
      gi_wp2_with fail
      refine ⟨trivial, rfl, (callsIn_wide.2 (wrBytes_any B0 g _ W h2)).mono ?_⟩
      rintro e W2 ⟨rfl, rfl⟩
      clear h2
      gi_wp2
      refine ⟨by simp, .inl ⟨_, _, rfl, run_takeDeferred HK.out, ?_⟩⟩
      exact ⟨_, results_tmp rfl _ _ _, rfl, h3.grown (grownBy_putObj' _ _ _) h3.size (fun k e => by cases e; have := hb6.size; omega)⟩
end Go.Proofs.Ytkdcelnlhhodlaa

