/- Lemmas for TraceSameP. -/
import Derived.Test.YtlglilmgklipdaaZt2
import Derived.Test.YtlglilmgklipdaaZt1
import Derived.Deep.Cut
import Derived.Deep.RegionHeld3
import Derived.Laws.EntriesVeiled
import Derived.Test.YtlglilmgklipdaaRows
import Derived.Deep.WholeRow
import Derived.Laws.CopyOwn
namespace Go.Proofs.Ytlglilmgklipdaa
set_option linter.unusedVariables false
open Go.RowKit Go.Deep
attribute [local go_sem] Oper.semAt_some
theorem numbers_any (r : RunV) (w : World) :
 Calls Try.prog 70 #[.agg r.cells] w fun e w' => e = .returned (.func (.func 108) #[] #[.pointer (some ⟨w.heap.size, 0, none⟩)]) ∧ w.alloc (.cells r.cells 32) = w' := by
 go_enter Try.func70, Try.ntmps70
 go_wp2
 go_ret
 exact ⟨rfl, rfl⟩
theorem Row.abid {W W' : World} {g B : Nat} {t : TypeId} {cs : Array Value} {row : Option Nat} (h : Row W g t cs) (hg : W.grownBy W' row) (hr : ∀ r, row = some r → False ∨ (B ≤ r ∧ ∃ o : Obj, W.heap[r]? = some o ∧ o.isCells = false)) : Row W' g t cs :=
 h.grown hg (fun e => by
  rcases hr g e with h' | ⟨_, o, ho, hc⟩
  · exact h'
  · rw [h] at ho; cases ho; cases hc)
theorem Wr.abid {W W' : World} {b g B : Nat} {l : List UInt8} {row : Option Nat} (h : Wr W b g l) (hg : W.grownBy W' row) (hr : ∀ r, row = some r → False ∨ (B ≤ r ∧ ∃ o : Obj, W.heap[r]? = some o ∧ o.isCells = false)) : Wr W' b g l := by
 obtain ⟨h0, v, h1, h2⟩ := h
 refine ⟨h0, v, h1.abid hg hr, h2.kept hg ?_⟩
 cases row with
 | none => cases v.ownBlock <;> simp
 | some r =>
  refine .inr (fun e => ?_)
  rcases hr r rfl with h' | ⟨_, o, ho, hc⟩
  · exact h'
  · exact own_cells h2 ho hc e
def numsB (l : List Int) : List UInt8 := l.flatMap zz
theorem traceL_nums (r : RunV) : lebL r.evs.length ++ numsB r.nums = traceL r.kind r.value r.evs := by
 have h : ∀ l : List EvV, numsB (l.flatMap EvV.nums) = l.flatMap EvV.bytes := by
  intro l
  induction l with
  | nil => rfl
  | cons a l ih => simp only [numsB, List.flatMap_cons, List.flatMap_append] at ih ⊢; rw [ih]; simp [EvV.nums, EvV.bytes]
 have h2 : numsB r.nums = numsB (r.evs.flatMap EvV.nums) ++ (zz r.kind ++ zz r.value) := by simp [numsB, RunV.nums]
 rw [h2, h, traceL]
theorem numsB_len : ∀ l : List Int, (numsB l).length ≤ 10 * l.length
 | [] => by simp [numsB]
 | a :: l => by
  have := numsB_len l; have := zz_len a
  simp only [numsB, List.flatMap_cons, List.length_append, List.length_cons] at *; omega
def WrC (b g : Nat) (A B : World) : Prop := A.heap.size ≤ B.heap.size ∧ ∀ k cs t fr, A.heap[k]? = some (.cells cs t fr) → k ≠ g → (t ≠ 5 ∨ k < b) → B.heap[k]? = some (.cells cs t fr)
theorem WrC.of {b g : Nat} {A B : World} (h : WrEff b g A B) : WrC b g A B := ⟨h.size, fun k cs t fr hk hg ht => (h.block k (Array.getElem?_eq_some_iff.1 hk).1 hg (fun cs' hB h' => by
 rcases ht with ht | ht
 · rw [Row, hk] at h'; injection h' with h'; injection h' with _ h''; exact ht h''
 · omega)).trans hk⟩
theorem WrC.trans {b g : Nat} {A B C : World} (h : WrC b g A B) (k : WrC b g B C) : WrC b g A C := ⟨Nat.le_trans h.1 k.1, fun i cs t fr hi hg ht => k.2 i cs t fr (h.2 i cs t fr hi hg ht) hg ht⟩
theorem WrC.put {b g l : Nat} {W : World} {o o' : Obj} (ho : W.heap[l]? = some o) (hc : o.isCells = false) : WrC b g W (W.putObj l o') := ⟨by simp, fun k cs t fr hk _ _ => by
 rw [World.putObj_heap_other (fun e => by subst e; rw [ho] at hk; cases hk; cases hc)]; exact hk⟩
theorem WrC.refl (b g : Nat) (W : World) : WrC b g W W := ⟨Nat.le_refl _, fun _ _ _ _ h _ _ => h⟩
theorem WrC.row {b g k : Nat} {A B : World} {t : TypeId} {cs : Array Value} (h : WrC b g A B) (hr : Row A k t cs) (hg : k ≠ g) (ht : t ≠ 5 ∨ k < b) : Row B k t cs := h.2 k cs t (0, 0) hr hg ht
theorem cell_cells {W : World} {p : Addr} {u : Value} (h : W.cell? p = some u) : ∃ cs t fr, W.heap[p.block]? = some (.cells cs t fr) := by
 unfold World.cell? at h
 split at h
 · exact ⟨_, _, _, by assumption⟩
 · cases h
theorem rd_from {w W : World} {addr : Option Addr} {xs : List Value} (h : Rd w addr xs) (b : Below w.heap.size w W) : Rd W addr xs := h.go b
theorem WrC.rd {w A B : World} {b g : Nat} {addr : Option Addr} {xs : List Value} (h : WrC b g A B) (h0 : Rd w addr xs) (hb : w.heap.size ≤ b) (hg : b ≤ g) (hA : Rd A addr xs) : Rd B addr xs := fun j u hj => by
 obtain ⟨ad, e, hc⟩ := hA j u hj
 obtain ⟨ad', e', hc'⟩ := h0 j u hj
 obtain rfl : ad = ad' := by rw [e] at e'; injection e'
 have h2 := World.block_lt_of_cell? _ _ hc'
 obtain ⟨cs, t, fr, h3⟩ := cell_cells hc
 have h4 := h.2 _ cs t fr h3 (by omega) (.inr (by omega))
 exact ⟨ad, e, (World.cell?_of_block (h4.trans h3.symm)).trans hc⟩
set_option maxRecDepth 100000 in
set_option maxHeartbeats 2000000 in
theorem trBytes_any (r : RunV) (w : World) (hok : r.ok w) (hl : r.evs.length ≤ 10000) :
 Calls Try.prog 47 #[r.val] w fun e w' => e = .returned (.string ⟨(traceL r.kind r.value r.evs).toArray⟩) ∧ Below w.heap.size w w' := by
 have Hok := Lib.hid hok
 have Hl := Lib.hid hl
 clear hok hl
 refine (callsIn_wide (n := 0)).1 ?_
 refine callsIn_of_wp_marks Try.func47 rfl trivial ?_
 simp only [Try.ntmps47, List.size_toArray, List.length_cons, List.length_nil, Nat.reduceAdd, Nat.reduceSub, Array.replicate_succ, Array.replicate_zero, List.push_toArray, List.append_toArray, List.nil_append, List.cons_append]
 rw [show r.val = .agg r.cells from rfl]
 gi_wp2_with fail
 have r0 := Row.new w 32 r.cells
 have b0 := (Below.refl w.heap.size w).alloc (Nat.le_refl _) (.cells r.cells 32)
 generalize w.alloc (.cells r.cells 32) = w1 at r0 b0 ⊢
 obtain ⟨S, hSd⟩ : ∃ S, S = (fun W => Row W w.heap.size 32 r.cells ∧ Below w.heap.size w W) := ⟨_, rfl⟩
 have stS : St S := by rw [hSd]; infer_instance
 have s0 : ∀ W, S W → Row W w.heap.size 32 r.cells := by rw [hSd]; exact fun W h => h.1
 have s1 : ∀ W, S W → Below w.heap.size w W := by rw [hSd]; exact fun W h => h.2
 have smk : ∀ W, Row W w.heap.size 32 r.cells → Below w.heap.size w W → S W := by rw [hSd]; exact fun W h h' => ⟨h, h'⟩
 have hS : S w1.drew := St.drew (smk _ r0 b0)
 clear hSd r0 b0
 refine wpIn_wide.2 ?_
 refine wp_cut (fun a W => ∃ B0 g, w.heap.size < B0 ∧ S W ∧ Wr W B0 g (lebL r.evs.length) ∧ a = { tmps := #[.agg r.cells, .pointer (some ⟨w.heap.size, 0, none⟩), .string ⟨#[]⟩, .pointer (some ⟨g, 0, none⟩), undef, undef, .pointer (some ⟨g, 0, none⟩), .pointer (some ⟨w.heap.size, 3, none⟩), .slice r.addr r.evs.length r.cap, .int .i64 r.evs.length, .int .u64 r.evs.length, .pointer (some ⟨g, 0, none⟩), undef, undef, undef, undef, undef, undef, undef, undef, undef, undef], defers := [] }) ?rest ?first
 case first =>
  intro J K' hJ hK'
  have HJ := Lib.hid hJ
  have HK := Lib.hid hK'
  have hll := Hl.out
  clear hJ hK'
  refine wp_region_noPanic ?_
  refine wp_region_held (S := S) (by kernel_rfl) ?_
  simp only [List.size_toArray, List.length_cons, List.length_nil, Nat.reduceAdd, Array.replicate_succ, Array.replicate_zero, List.push_toArray, List.nil_append, List.cons_append]
  show wpAnyH _ _ _ _ _ _ _ _ w1.drew
  generalize w1.drew = w2 at hS ⊢
  (refine takeH (i := 1) (v := .pointer (some ⟨w.heap.size, 3, none⟩)) rfl (by kernel_rfl) (by kernel_rfl) (by kernel_rfl) (fun _ _ _ h => h) (yields_val rfl (fun W hW => by (go_simp))) (by assumption) ?_; simp only [Act.put, List.setIfInBounds_toArray, List.set_cons_zero, List.set_cons_succ])
  (refine takeH (i := 2) (v := .slice r.addr r.evs.length r.cap) rfl (by kernel_rfl) (by kernel_rfl) (by kernel_rfl) (fun _ _ _ h => h) (yields_val rfl (fun W hW => by ((have h := (s0 W hW).cellv (i := 3) (v := .slice r.addr r.evs.length r.cap) rfl; go_simp)))) (by assumption) ?_; simp only [Act.put, List.setIfInBounds_toArray, List.set_cons_zero, List.set_cons_succ])
  (refine takeH (i := 3) (v := .int .i64 r.evs.length) rfl (by kernel_rfl) (by kernel_rfl) (by kernel_rfl) (fun _ _ _ h => h) (yields_val rfl (fun W hW => by (go_simp))) (by assumption) ?_; simp only [Act.put, List.setIfInBounds_toArray, List.set_cons_zero, List.set_cons_succ])
  (refine takeH (i := 4) (v := .int .u64 r.evs.length) rfl (by kernel_rfl) (by kernel_rfl) (by kernel_rfl) (fun _ _ _ h => h) (yields_val rfl (fun W hW => by (go_simp; rw [IntKind.wrap_u64]; omega))) (by assumption) ?_; simp only [Act.put, List.setIfInBounds_toArray, List.set_cons_zero, List.set_cons_succ])
  (refine wpAnyH_all (rs := [0]) (by kernel_rfl) (by simp) (fun i hi => ?_); obtain rfl : i = 0 := by simpa using hi)
  refine wpOp_plain rfl rfl (fun K2 hK2 => ?_)
  refine wp_call_gen 67 #[] (w1 := w2) (by go_simp) ((wireNew_any w2).mono ?_)
  rintro e w3 ⟨rfl, h3, b3⟩
  refine ⟨_, rfl, ?_⟩
  refine hK2 _ _ ?_
  clear hK2 K2
  simp only [Act.put, List.setIfInBounds_toArray, List.set_cons_zero, List.set_cons_succ]
  have hS3 := stS.go hS b3
  have hB : w.heap.size < w2.heap.size := (s0 _ hS).lt
  clear hS b3
  refine ⟨hS3, ?_⟩
  (refine wpAnyH_all (rs := [5]) (by kernel_rfl) (by simp) (fun i hi => ?_); obtain rfl : i = 5 := by simpa using hi)
  refine wpOp_plain rfl rfl (fun K2 hK2 => ?_)
  refine wp_call_gen 68 #[.pointer (some ⟨w2.heap.size, 0, none⟩), .int .u64 r.evs.length] (w1 := w3) (by go_simp) ((num_any _ _ [] r.evs.length (by simp) (by omega) w3 h3).mono ?_)
  rintro e w4 ⟨rfl, h4, e4⟩
  refine ⟨_, rfl, ?_⟩
  refine hK2 _ _ ?_
  clear hK2 K2
  simp only [Act.put, List.setIfInBounds_toArray, List.set_cons_zero, List.set_cons_succ]
  have hS4 : S w4 := smk _ (e4.row (s0 _ hS3) (by omega) (by decide)) ((s1 _ hS3).trans ((e4.below (Nat.le_refl _) (by have := h3.lt; omega)).mono (by omega)))
  refine ⟨hS4, ?_⟩
  (refine takeH (i := 6) (v := .pointer (some ⟨w2.heap.size, 0, none⟩)) rfl (by kernel_rfl) (by kernel_rfl) (by kernel_rfl) (fun _ _ _ h => h) (yields_val rfl (fun W hW => by (rfl))) (by assumption) ?_; simp only [Act.put, List.setIfInBounds_toArray, List.set_cons_zero, List.set_cons_succ])
  refine wpAnyH_done (by kernel_rfl) ?_ _
  exact HK.out _ _ (Met.intro (HJ.out _ _ ⟨_, _, hB, hS4, by simpa using h4, rfl⟩))
 case rest =>
  rintro a W ⟨B0, g, hB, hS, hw, rfl⟩
  have gB : B0 ≤ g := hw.1
  have hrr := s0 _ hS
  have hcl : Row (W.alloc (.cells #[.func (.func 69) #[.pointer (some ⟨g, 0, none⟩)] #[]] 109)) W.heap.size 109 #[.func (.func 69) #[.pointer (some ⟨g, 0, none⟩)] #[]] := Row.new _ _ _
  have hr2 := hrr.alloc (.cells #[.func (.func 69) #[.pointer (some ⟨g, 0, none⟩)] #[]] 109)
  have hw2 := St.alloc (S := fun W => Wr W B0 g (lebL r.evs.length)) hw (.cells #[.func (.func 69) #[.pointer (some ⟨g, 0, none⟩)] #[]] 109)
  have hb2 := (s1 _ hS).alloc (s1 _ hS).size (.cells #[.func (.func 69) #[.pointer (some ⟨g, 0, none⟩)] #[]] 109)
  have lG : g < W.heap.size := hw.lt
  clear hrr
  gi_wp2_with (refine wpListIn_load_row rfl 32 _ rfl w.heap.size rfl 32 r.cells (0, 0) _ hr2 Try.underlying32 rfl (by kernel_rfl) ?_)
  obtain ⟨BP, hBP⟩ : ∃ BP, BP = W.heap.size := ⟨_, rfl⟩
  have gBP : g < BP := by omega
  have bBP : w.heap.size ≤ BP := by rw [hBP]; exact (s1 _ hS).size
  have hokW : r.evs.length ≤ 10000 := Hl.out
  rw [← hBP] at hcl ⊢
  generalize W.alloc (.cells #[.func (.func 69) #[.pointer (some ⟨g, 0, none⟩)] #[]] 109) = w5 at hcl hr2 hw2 hb2 ⊢
  refine ⟨trivial, rfl, (callsIn_wide.2 (numbers_any r w5)).mono ?_⟩
  rintro e w6 ⟨rfl, hw6⟩
  have hi6 := Row.new w5 32 r.cells
  have hcl6 := hcl.alloc (.cells r.cells 32)
  have hw6' := St.alloc (S := fun W => Wr W B0 g (lebL r.evs.length)) hw2 (.cells r.cells 32)
  have hb6 := hb2.alloc hb2.size (.cells r.cells 32)
  rw [hw6] at hi6 hcl6 hw6' hb6
  have lcl := hcl.lt
  obtain ⟨Bs, hBs⟩ : ∃ Bs, Bs = w5.heap.size := ⟨_, rfl⟩
  rw [← hBs] at hi6 lcl ⊢
  have l6 := hi6.lt
  clear hBs hw6 hw2 hb2 hcl hr2 hS s0 s1 smk hw lG hBP
  have hok6 : r.ok w6 := ⟨Hok.out.kind, Hok.out.value, Hok.out.steps, Hok.out.len, Hok.out.cap, Hok.out.nil, rd_from Hok.out.reads hb6, Hok.out.evs⟩
  have Hseq := Lib.hid (numbers1_iter Bs r (WrC B0 g) w6 hok6 hi6 (by omega) (fun A B h hr => h.row hr (by omega) (.inl (by decide))) (fun A B h hr => h.rd Hok.out.reads (by omega) gB hr) (fun A B h => h.1) (fun A B k cs hk h hr => h.row hr (by omega) (.inl (by decide))))
  gi_wp2
  refine rangeO (gf := 108) (lb := #[.pointer (some ⟨Bs, 0, none⟩)]) rfl (enters_of Try.func108 (by kernel_rfl) rfl) Hseq.out (fun r h => h.elim)
   (fun h k => h.trans k) (fun W l o o' hl ho hc => WrC.put ho hc) (World.grownBy.refl _ _) (fun _ => rfl)
   (fun pre W => Row W BP 109 #[.func (.func 69) #[.pointer (some ⟨g, 0, none⟩)] #[]] ∧ Wr W B0 g (lebL r.evs.length ++ numsB (pre.map (·.1))) ∧ Below w.heap.size w W) (fun _ _ _ => False) ?hI ?hIx ⟨hcl6, by simpa [numsB] using hw6', hb6⟩
   (fun x a' W => a' = { tmps := #[.agg r.cells, .pointer (some ⟨w.heap.size, 0, none⟩), .string ⟨#[]⟩, .pointer (some ⟨g, 0, none⟩), .pointer (some ⟨BP, 0, none⟩), .int .i64 x.1, .pointer (some ⟨g, 0, none⟩), .pointer (some ⟨w.heap.size, 3, none⟩), .slice r.addr r.evs.length r.cap, .int .i64 r.evs.length, .int .u64 r.evs.length, .pointer (some ⟨g, 0, none⟩), .pointer (some ⟨g, 0, none⟩), .func (.func 69) #[.pointer (some ⟨g, 0, none⟩)] #[], .agg r.cells, .func (.func 108) #[] #[.pointer (some ⟨Bs, 0, none⟩)], .int .i64 x.1, undef, undef, undef, undef, undef], defers := [] }) ?hAx ?assign ?body ?done ?stop
  case hI =>
   rintro pre A B row ⟨h1, h2, h3⟩ hg hr
   refine ⟨h1.abid hg hr, h2.abid hg hr, h3.grown hg h3.size (fun k e => ?_)⟩
   rcases hr k e with h | ⟨h, _⟩
   · exact h.elim
   · have := hb6.size; omega
  case hIx => exact fun _ _ _ _ _ h _ _ => h
  case hAx => exact fun x a' _ _ _ _ h _ _ => h
  case assign =>
   rintro l pre x W K hI hK
   have HK := Lib.hid hK
   clear hK
   gi_wp2
   exact HK.out _ _ (KeepsFrom.refl _ _) (WrC.refl _ _ _) hI rfl
  case body =>
   rintro l pre x a' W hl _ ⟨h1, h2, h3⟩ rfl hpl
   have hc := h1.cellv (i := 0) rfl
   have hlen : (lebL r.evs.length ++ numsB (pre.map (·.1))).length ≤ 1000000 := by
    have := lebL_len r.evs.length; have := numsB_len (pre.map (·.1))
    rw [List.length_map] at this
    rw [List.length_append]; omega
   have Hlen := Lib.hid hlen
   clear hlen
   gi_wp2_with fail
   refine ⟨trivial, rfl, (CallsIn.inRound l (callsIn_wide.2 (int_any B0 g _ x.1 Hlen.out x.2 W h2))).mono ?_⟩
   rintro e W2 ⟨rfl, hw2, e2⟩
   gi_wp2
   have hrg : ∃ v, Row W g 142 #[v] := by obtain ⟨_, v, h, _⟩ := h2; exact ⟨v, h⟩
   obtain ⟨v, hrg⟩ := hrg
   refine ⟨e2.keeps hrg, WrC.of e2, e2.row h1 (by omega) (by decide), ?_, h3.trans ((e2.below gB (by have := h2.lt; omega)).mono (by omega))⟩
   simpa [numsB] using hw2
  case stop => exact fun D c pre W _ _ h _ => h.elim
  case done =>
   rintro D ys W hD hys ⟨h1, h2, h3⟩ hK
   rw [hys, traceL_nums] at h2
   have HK := Lib.hid hK
   clear hK hys h1
   gi_wp2_with fail
   refine ⟨trivial, rfl, (callsIn_wide.2 (wrBytes_any B0 g _ W h2)).mono ?_⟩
   rintro e W2 ⟨rfl, rfl⟩
   clear h2
   gi_wp2
   refine ⟨by simp, .inl ⟨_, _, rfl, run_takeDeferred HK.out, ?_⟩⟩
   exact ⟨_, results_tmp rfl _ _ _, rfl, h3.grown (grownBy_putObj' _ _ _) h3.size (fun k e => by cases e; have := hb6.size; omega)⟩
end Go.Proofs.Ytlglilmgklipdaa
namespace Go.Proofs.Ytlglilmgklipdaa
set_option linter.unusedVariables false
open Go.RowKit Go.Deep
attribute [local go_sem] wd_or wd_xor wd_and wd_add wd_add' wd_shl wd_shl' wd_shr wd_shl8 wd_shr3 wd_shr10
theorem ret_u32 {x y : BitVec 32} (h : x = y) : Ending.returned (.int .u32 (wd x)) = .returned (.int .u32 (wd y)) := by rw [h]
theorem rot_eq (x : BitVec 32) (n : Nat) (h0 : 0 < n) (h1 : n < 32) : x <<< (32 - n) ||| x >>> (32 - (32 - n)) = x.rotateRight n := by
 rw [BitVec.rotateRight_def, Nat.mod_eq_of_lt h1, show 32 - (32 - n) = n from by omega, BitVec.or_comm]
theorem and31 : ∀ n : Fin 31, bits .and .u64 (IntKind.u64.wrap (-((n.val + 1 : Nat) : Int))) 31 = ((31 - n.val : Nat) : Int) := by decide +kernel
set_option maxHeartbeats 400000 in
theorem right_any (x : BitVec 32) (n : Int) (h0 : 0 < n) (h1 : n < 32) (w : World) :
 Calls Try.prog 112 #[.int .u32 (wd x), .int .i64 n] w fun e w' => e = .returned (.int .u32 (wd (x.rotateRight n.toNat))) ∧ w = w' := by
 obtain ⟨n, rfl⟩ := Int.eq_ofNat_of_zero_le (Int.le_of_lt h0)
 rw [Int.toNat_natCast]
 obtain ⟨m, hmn⟩ : ∃ m, m = 32 - n := ⟨_, rfl⟩
 have hm : 0 < m := by omega
 have hm2 : m < 32 := by omega
 have hb : bits .and .u64 (IntKind.u64.wrap (-(n : Int))) 31 = (m : Int) := by
  have h := and31 ⟨n - 1, by omega⟩
  simp only [show n - 1 + 1 = n from by omega, show 31 - (n - 1) = m from by omega] at h
  exact h
 have hr : x <<< m ||| x >>> (32 - m) = x.rotateRight n := by rw [hmn]; exact rot_eq x n (by omega) (by omega)
 have Hr := Lib.hid hr
 clear hr hmn
 go_enter Try.func112, Try.ntmps112
 go_wp2
 go_ret
 exact ⟨ret_u32 Hr.out, rfl⟩
end Go.Proofs.Ytlglilmgklipdaa
namespace Go.Proofs.Ytlglilmgklipdaa
set_option linter.unusedVariables false
open Go.RowKit Go.Deep
def fillStep (l : List UInt8) (W : List (BitVec 32)) (i : Nat) : List (BitVec 32) := W.set (i / 4) (W.getD (i / 4) 0 <<< 8 ||| BitVec.ofNat 32 (l.getD i 0).toNat)
def fill (l : List UInt8) : Nat → List (BitVec 32)
 | 0 => List.replicate 64 0
 | i + 1 => fillStep l (fill l i) i
def expOf (W : List (BitVec 32)) (t : Nat) : BitVec 32 :=
 let x := W.getD (t - 15) 0
 let y := W.getD (t - 2) 0
 W.getD (t - 16) 0 + (x.rotateRight 7 ^^^ x.rotateRight 18 ^^^ x >>> 3) + W.getD (t - 7) 0 + (y.rotateRight 17 ^^^ y.rotateRight 19 ^^^ y >>> 10)
def expand (W : List (BitVec 32)) : Nat → List (BitVec 32)
 | 0 => W
 | i + 1 => (expand W i).set (16 + i) (expOf (expand W i) (16 + i))
def wordsL (l : List UInt8) : List (BitVec 32) := expand (fill l 64) 48
theorem fill_len (l : List UInt8) : ∀ i, (fill l i).length = 64
 | 0 => by simp [fill]
 | i + 1 => by simp [fill, fillStep, fill_len l i]
theorem expand_len (W : List (BitVec 32)) (h : W.length = 64) : ∀ i, (expand W i).length = 64
 | 0 => h
 | i + 1 => by simp [expand, expand_len W h i]
attribute [local go_sem] wd_or wd_xor wd_and wd_add wd_add' wd_shl wd_shl' wd_shr wd_shl8 wd_shr3 wd_shr10
theorem fill_val (x : BitVec 32) (b : UInt8) : bits .or .u32 (wd (x <<< 8)) ((b.toNat : Int) % 4294967296) = wd (x <<< 8 ||| BitVec.ofNat 32 b.toNat) := by
 rw [show ((b.toNat : Int) % 4294967296) = wd (BitVec.ofNat 32 b.toNat) from by rw [← wd_byte]; have := b.toNat_lt; omega, wd_or]
theorem fill_set (l : List UInt8) (k : Nat) : (wds (fill l k)).toArray.setIfInBounds (k / 4) (.int .u32 (bits .or .u32 (wd ((fill l k)[k / 4]?.getD 0#32 <<< 8)) (((l[k]?.getD 0).toNat : Int) % 4294967296))) = (wds (fill l (k + 1))).toArray := by
 rw [fill_val, wds_set]; rfl
theorem right_same (x : BitVec 32) (n : Int) (h0 : 0 < n) (h1 : n < 32) (w : World) :
 Calls Try.prog 112 #[.int .u32 (wd x), .int .i64 n] w fun e w' => e = .returned (.int .u32 (wd (x.rotateRight n.toNat))) ∧ w' = w :=
 (right_any x n h0 h1 w).mono fun _ _ h => ⟨h.1, h.2.symm⟩
theorem exp_set (W : List (BitVec 32)) (k : Nat) : (wds (expand W k)).toArray.setIfInBounds (k + 16) (.int .u32 (wd (expOf (expand W k) (k + 16)))) = (wds (expand W (k + 1))).toArray := by
 rw [wds_set, Nat.add_comm k 16]; rfl
set_option maxRecDepth 100000 in
set_option maxHeartbeats 1000000 in
theorem words_any (g : Nat) (T : TypeId) (l : List UInt8) (hl : l.length = 64) (w : World) (hg : g < w.heap.size) (hrow : Row w g T (u8s l).toArray) :
 Calls Try.prog 110 #[.pointer (some ⟨g, 0, none⟩)] w fun e w' => ∃ g', e = .returned (.pointer (some ⟨g', 0, none⟩)) ∧ w.heap.size ≤ g' ∧ Row w' g' 159 (wds (wordsL l)).toArray ∧ Below w.heap.size w w' := by
 have Hl := Lib.hid hl
 clear hl
 go_enter Try.func110, Try.ntmps110
 go_wp2
 go_loopw [10] (fun i wr => ∃ k : Nat, i = .int .i64 (k : Int) ∧ k ≤ 64 ∧ Row wr w.heap.size 159 (wds (fill l k)).toArray ∧ Below w.heap.size w wr) (fun i _ => (64 - intOf i).toNat)
 case atStart => exact ⟨0, by simp, by omega, Row.new _ _ _, (Below.refl _ _).alloc (Nat.le_refl _) _⟩
 case round =>
  obtain ⟨k, rfl, hk, hr, hb⟩ := hrel
  by_cases hk64 : k < 64
  · have hc := (hrow.below hb hg).cellv (u8s_at l k (by rw [Hl.out]; exact hk64))
    have hd := hr.cellv (wds_at (fill l k) (k / 4) (by rw [fill_len]; omega))
    have hf := hr.free (k / 4)
    go_wp2
    go_quiet (fail)
    go_wp2
    go_roundw
    case rel => exact ⟨k + 1, by go_num, by omega, by rw [← fill_set]; exact (hr.drewN _).set _ _, (below_drewN hb _).setCell (p := ⟨w.heap.size, k / 4, none⟩) (Nat.le_refl _) _⟩
    case measure => simp [intOf]; omega
  · obtain rfl : k = 64 := by omega
    clear hk64
    rw [show ((64 : Nat) : Int) = 64 from rfl]
    go_wp2
    go_loopw [6] (fun i wr => ∃ k : Nat, i = .int .i64 ((k : Int) + 16) ∧ k ≤ 48 ∧ Row wr w.heap.size 159 (wds (expand (fill l 64) k)).toArray ∧ Below w.heap.size w wr) (fun i _ => (64 - intOf i).toNat)
    case atStart => exact ⟨0, by simp, by omega, hr, hb⟩
    case round =>
     clear hb hr
     obtain ⟨k, rfl, hk, hr, hb⟩ := hrel
     by_cases hk48 : k < 48
     · have h16 := hr.cellv (wds_at _ k (by rw [expand_len _ (fill_len _ _)]; omega))
       have h15 := hr.cellv (wds_at _ (k + 1) (by rw [expand_len _ (fill_len _ _)]; omega))
       have h7 := hr.cellv (wds_at _ (k + 9) (by rw [expand_len _ (fill_len _ _)]; omega))
       have h2 := hr.cellv (wds_at _ (k + 14) (by rw [expand_len _ (fill_len _ _)]; omega))
       have h0 := hr.cellv (wds_at _ (k + 16) (by rw [expand_len _ (fill_len _ _)]; omega))
       have hf := hr.free (k + 16)
       go_wp2
       go_quiet (fail)
       go_wp2
       refine region_still_tail 29 (by kernel_rfl) (by kernel_rfl) ?_
       simp only [List.take_succ_cons, List.take_zero, List.drop_succ_cons, List.drop_zero]
       have e16 : IntKind.i64.wrap (k : Int) = (k : Int) := by rw [IntKind.wrap_i64]; omega
       have e7 : IntKind.i64.wrap ((k : Int) + 16 - 7) = (k : Int) + 9 := by rw [IntKind.wrap_i64]; omega
       have t9 : ((k : Int) + 9).toNat = k + 9 := by omega
       have t16 : ((k : Int) + 16).toNat = k + 16 := by omega
       have p9 : (k : Int) + 9 < 64 := by omega
       have p0 : (k : Int) < 64 := by omega
       have q9 : 0 ≤ (k : Int) + 9 := by omega
       have q16 : 0 ≤ (k : Int) + 16 := by omega
       repeat (first | still_step | still_call (right_same _ _ (by omega) (by omega) _))
       refine wpStill_nil ?_
       clear e16 e7 t9 p9 p0 q9 q16
       go_wp2
       go_roundw
       case rel => exact ⟨k + 1, by go_num, by omega, by rw [← exp_set]; exact (hr.drewN _).set _ _, (below_drewN hb _).setCell (p := ⟨w.heap.size, k + 16, none⟩) (Nat.le_refl _) _⟩
       case measure => simp [intOf]; omega
     · obtain rfl : k = 48 := by omega
       clear hk48
       go_wp2
       go_ret
       exact ⟨_, rfl, Nat.le_refl _, hr, hb⟩
end Go.Proofs.Ytlglilmgklipdaa
namespace Go.Proofs.Ytlglilmgklipdaa
set_option linter.unusedVariables false
open Go.RowKit Go.Deep
def cubeL : List (BitVec 32) := [
 0x428a2f98, 0x71374491, 0xb5c0fbcf, 0xe9b5dba5, 0x3956c25b, 0x59f111f1, 0x923f82a4, 0xab1c5ed5,
 0xd807aa98, 0x12835b01, 0x243185be, 0x550c7dc3, 0x72be5d74, 0x80deb1fe, 0x9bdc06a7, 0xc19bf174,
 0xe49b69c1, 0xefbe4786, 0x0fc19dc6, 0x240ca1cc, 0x2de92c6f, 0x4a7484aa, 0x5cb0a9dc, 0x76f988da,
 0x983e5152, 0xa831c66d, 0xb00327c8, 0xbf597fc7, 0xc6e00bf3, 0xd5a79147, 0x06ca6351, 0x14292967,
 0x27b70a85, 0x2e1b2138, 0x4d2c6dfc, 0x53380d13, 0x650a7354, 0x766a0abb, 0x81c2c92e, 0x92722c85,
 0xa2bfe8a1, 0xa81a664b, 0xc24b8b70, 0xc76c51a3, 0xd192e819, 0xd6990624, 0xf40e3585, 0x106aa070,
 0x19a4c116, 0x1e376c08, 0x2748774c, 0x34b0bcb5, 0x391c0cb3, 0x4ed8aa4a, 0x5b9cca4f, 0x682e6ff3,
 0x748f82ee, 0x78a5636f, 0x84c87814, 0x8cc70208, 0x90befffa, 0xa4506ceb, 0xbef9a3f7, 0xc67178f2]
set_option maxHeartbeats 1000000 in
set_option maxRecDepth 100000 in
theorem cubes_any (w : World) :
 Calls Try.prog 111 #[] w fun e w' => ∃ g', e = .returned (.pointer (some ⟨g', 0, none⟩)) ∧ w.heap.size ≤ g' ∧ Row w' g' 159 (wds cubeL).toArray ∧ Below w.heap.size w w' := by
 go_enter Try.func111, Try.ntmps111
 go_wp2_with (
  (refine wpList_build rfl 159 _ rfl (by kernel_rfl) ?_
   generalize hX : (Program.built _ _ _).getD #[] = X
   have hX2 : X = (wds cubeL).toArray := by rw [← hX]; kernel_rfl
   clear hX
   subst hX2))
 go_ret
 exact ⟨_, rfl, Nat.le_refl _, Row.new _ _ _, (Below.refl _ _).alloc (Nat.le_refl _) _⟩
def startL : List (BitVec 32) := [0x6a09e667, 0xbb67ae85, 0x3c6ef372, 0xa54ff53a, 0x510e527f, 0x9b05688c, 0x1f83d9ab, 0x5be0cd19]
set_option maxHeartbeats 1000000 in
theorem start_any (w : World) :
 Calls Try.prog 72 #[] w fun e w' => e = .returned (.agg (wds startL).toArray) ∧ Below w.heap.size w w' := by
 go_enter Try.func72, Try.ntmps72
 go_wp2
 exact bodyPost_ret (v := .agg (wds startL).toArray) (results_cell_row Try.results72 _ _ w.heap.size 115 _ (0, 0) _ rfl (heap_alloc_new w _) Try.underlying115 rfl (by kernel_rfl)) rfl ⟨rfl, (Below.refl _ _).alloc (Nat.le_refl _) _⟩
end Go.Proofs.Ytlglilmgklipdaa
namespace Go.Proofs.Ytlglilmgklipdaa
set_option linter.unusedVariables false
open Go.RowKit Go.Deep
def t1Of (e f g h k x : BitVec 32) : BitVec 32 := h + (e.rotateRight 6 ^^^ e.rotateRight 11 ^^^ e.rotateRight 25) + (g ^^^ e &&& (f ^^^ g)) + k + x
def t2Of (a b c : BitVec 32) : BitVec 32 := (a.rotateRight 2 ^^^ a.rotateRight 13 ^^^ a.rotateRight 22) + (a &&& b ^^^ a &&& c ^^^ b &&& c)
def roundOf (W : List (BitVec 32)) (t : Nat) : List (BitVec 32) → List (BitVec 32)
 | [a, b, c, d, e, f, g, h] =>
  let t1 := t1Of e f g h (cubeL.getD t 0) (W.getD t 0)
  [t1 + t2Of a b c, a, b, c, d + t1, e, f, g]
 | l => l
def rounds (W H : List (BitVec 32)) : Nat → List (BitVec 32)
 | 0 => H
 | t + 1 => roundOf W t (rounds W H t)
theorem rounds_len (W H : List (BitVec 32)) (h : H.length = 8) : ∀ t, (rounds W H t).length = 8
 | 0 => h
 | t + 1 => by
  have ih := rounds_len W H h t
  unfold rounds
  match h' : rounds W H t, ih with
  | [a, b, c, d, e, f, g, h], _ => simp [roundOf]
theorem eight {α : Type} {l : List α} (h : l.length = 8) : ∃ a b c d e f g i, l = [a, b, c, d, e, f, g, i] := by
 match l, h with
 | [a, b, c, d, e, f, g, i], _ => exact ⟨a, b, c, d, e, f, g, i, rfl⟩
def addTo (H V : List (BitVec 32)) : Nat → List (BitVec 32)
 | 0 => H
 | j + 1 => (addTo H V j).set j ((addTo H V j).getD j 0 + V.getD j 0)
theorem addTo_len (H V : List (BitVec 32)) (h : H.length = 8) : ∀ j, (addTo H V j).length = 8
 | 0 => h
 | j + 1 => by simp [addTo, addTo_len H V h j]
def blockL (H : List (BitVec 32)) (l : List UInt8) : List (BitVec 32) := addTo H (rounds (wordsL l) H 64) 8
theorem copy_src (a b c d e f g i : BitVec 32) : ∀ j v, (wds [a, b, c, d, e, f, g])[j]? = some v → (wds [a, b, c, d, e, f, g, i]).toArray[0 + j]? = some v := by
 intro j v hj
 match j, hj with
 | 0, hj | 1, hj | 2, hj | 3, hj | 4, hj | 5, hj | 6, hj => exact hj
theorem round_step (W H : List (BitVec 32)) (k : Nat) (a b c d e f g i xk xw : BitVec 32) (h : rounds W H k = [a, b, c, d, e, f, g, i]) (hk : xk = cubeL.getD k 0) (hw : xw = W.getD k 0) :
 ((wds [a, a, b, c, d, e, f, g]).toArray.setIfInBounds 0 (.int .u32 (wd (t1Of e f g i xk xw + t2Of a b c)))).setIfInBounds 4 (.int .u32 (wd (d + t1Of e f g i xk xw))) = (wds (rounds W H (k + 1))).toArray := by
 rw [wds_set, wds_set, rounds, h, roundOf, hk, hw]; rfl
theorem add_step (H V : List (BitVec 32)) (j : Nat) : (wds (addTo H V j)).toArray.setIfInBounds j (.int .u32 (wd ((addTo H V j).getD j 0 + V.getD j 0))) = (wds (addTo H V (j + 1))).toArray := wds_set _ _ _
attribute [local go_sem] wd_or wd_xor wd_and wd_add wd_add' wd_shl wd_shl' wd_shr
set_option maxHeartbeats 2000000 in
set_option maxRecDepth 100000 in
theorem block_any (H : List (BitVec 32)) (hH : H.length = 8) (l : List UInt8) (hl : l.length = 64) (w : World) :
 Calls Try.prog 75 #[.agg (wds H).toArray, .agg (u8s l).toArray] w fun e w' => e = .returned (.agg (wds (blockL H l)).toArray) ∧ Below w.heap.size w w' := by
 have Hl := Lib.hid hl
 have HH := Lib.hid hH
 clear hl hH
 go_enter Try.func75, Try.ntmps75
 go_wp2_with fail
 have r0 : Row (((w.alloc (.cells (wds H).toArray 115)).alloc (.cells (u8s l).toArray 121)).alloc (.cells (wds [0, 0, 0, 0, 0, 0, 0, 0]).toArray 115)) w.heap.size 115 (wds H).toArray := ((Row.new _ _ _).alloc _).alloc _
 have r1 : Row (((w.alloc (.cells (wds H).toArray 115)).alloc (.cells (u8s l).toArray 121)).alloc (.cells (wds [0, 0, 0, 0, 0, 0, 0, 0]).toArray 115)) (w.heap.size + 1) 121 (u8s l).toArray := by
  have h := (Row.new (w.alloc (.cells (wds H).toArray 115)) 121 (u8s l).toArray).alloc (.cells (wds [0, 0, 0, 0, 0, 0, 0, 0]).toArray 115)
  rwa [World.size_alloc] at h
 have r2 : Row (((w.alloc (.cells (wds H).toArray 115)).alloc (.cells (u8s l).toArray 121)).alloc (.cells (wds [0, 0, 0, 0, 0, 0, 0, 0]).toArray 115)) (w.heap.size + 1 + 1) 115 (wds [0, 0, 0, 0, 0, 0, 0, 0]).toArray := by
  have h := Row.new ((w.alloc (.cells (wds H).toArray 115)).alloc (.cells (u8s l).toArray 121)) 115 (wds [0, 0, 0, 0, 0, 0, 0, 0]).toArray
  rwa [World.size_alloc, World.size_alloc] at h
 have b0 : Below w.heap.size w (((w.alloc (.cells (wds H).toArray 115)).alloc (.cells (u8s l).toArray 121)).alloc (.cells (wds [0, 0, 0, 0, 0, 0, 0, 0]).toArray 115)) :=
  (((Below.refl _ _).alloc (Nat.le_refl _) _).alloc (by simp) _).alloc (by simp; omega) _
 have s0 : (((w.alloc (.cells (wds H).toArray 115)).alloc (.cells (u8s l).toArray 121)).alloc (.cells (wds [0, 0, 0, 0, 0, 0, 0, 0]).toArray 115)).heap.size = w.heap.size + 3 := by simp
 rw [show #[Value.int IntKind.u32 0, Value.int IntKind.u32 0, Value.int IntKind.u32 0, Value.int IntKind.u32 0, Value.int IntKind.u32 0, Value.int IntKind.u32 0, Value.int IntKind.u32 0, Value.int IntKind.u32 0] = (wds [0, 0, 0, 0, 0, 0, 0, 0]).toArray from rfl]
 generalize (((w.alloc (.cells (wds H).toArray 115)).alloc (.cells (u8s l).toArray 121)).alloc (.cells (wds [0, 0, 0, 0, 0, 0, 0, 0]).toArray 115)) = w1 at r0 r1 r2 b0 s0 ⊢
 refine (words_any (w.heap.size + 1) _ l Hl.out w1 (by omega) r1).mono ?_
 rintro e w2 ⟨gw, rfl, hgw, rw2, bw2⟩
 replace r0 := r0.below bw2 (by omega)
 replace r2 := r2.below bw2 (by omega)
 replace b0 := b0.trans (bw2.mono (by omega))
 have s2 := bw2.size
 go_wp2_with fail
 refine (cubes_any w2).mono ?_
 rintro e w3 ⟨gk, rfl, hgk, rk3, bw3⟩
 have lw2 := rw2.lt
 replace r0 := r0.below bw3 (by omega)
 replace r2 := r2.below bw3 (by omega)
 replace rw2 := rw2.below bw3 (by omega)
 replace b0 := b0.trans (bw3.mono (by omega))
 have s3 := bw3.size
 have lk3 := rk3.lt
 go_wp2_with (first
  | (refine wpList_load_row rfl 113 _ rfl w.heap.size rfl 115 (wds H).toArray (0, 0) _ r0 Try.underlying113 rfl (by rw [wds_size _ HH.out]; kernel_rfl) ?_)
  | (refine wpList_store_row rfl 113 _ _ rfl w3.heap.size (wds H).toArray rfl rfl 113 _ (heap_alloc_new w3 _) (by rw [wds_size _ HH.out]; kernel_rfl) (by rw [wds_size _ HH.out]; rfl) (wds_one H) ?_
     rw [World.setRow_alloc_new]))
 have rv4 := Row.new w3 113 (wds H).toArray
 have b4 := (Below.refl w3.heap.size w3).alloc (Nat.le_refl _) (.cells (wds H).toArray 113)
 generalize w3.alloc (.cells (wds H).toArray 113) = w4 at rv4 b4 ⊢
 have Hrl := Lib.hid (rounds_len (wordsL l) H HH.out)
 go_loopw [18] (fun i wr => ∃ k : Nat, i = .int .i64 (k : Int) ∧ k ≤ 64 ∧ Row wr w3.heap.size 113 (wds (rounds (wordsL l) H k)).toArray ∧ Below w3.heap.size w3 wr) (fun i _ => (64 - intOf i).toNat)
 case atStart => exact ⟨0, by simp, by omega, rv4, b4⟩
 case round =>
  clear rv4 b4
  obtain ⟨k, rfl, hk, hr, hb⟩ := hrel
  by_cases hk64 : k < 64
  · obtain ⟨a, b, c, d, e, f, g, i, heq⟩ := eight (Hrl.out k)
    rw [heq] at hr
    have Heq := Lib.hid heq
    clear heq
    have c0 := hr.cellv (i := 0) (v := .int .u32 (wd a)) rfl
    have c1 := hr.cellv (i := 1) (v := .int .u32 (wd b)) rfl
    have c2 := hr.cellv (i := 2) (v := .int .u32 (wd c)) rfl
    have c4 := hr.cellv (i := 4) (v := .int .u32 (wd e)) rfl
    have c5 := hr.cellv (i := 5) (v := .int .u32 (wd f)) rfl
    have c6 := hr.cellv (i := 6) (v := .int .u32 (wd g)) rfl
    have c7 := hr.cellv (i := 7) (v := .int .u32 (wd i)) rfl
    have ck := (rk3.below hb (by omega)).cellv (wds_at cubeL k (by show k < 64; omega))
    have cw := (rw2.below hb (by omega)).cellv (wds_at (wordsL l) k (by rw [wordsL, expand_len _ (fill_len _ _)]; omega))
    obtain ⟨xk, hxk⟩ : ∃ x, x = cubeL.getD k 0 := ⟨_, rfl⟩
    obtain ⟨xw, hxw⟩ : ∃ x, x = (wordsL l).getD k 0 := ⟨_, rfl⟩
    rw [← hxk] at ck
    rw [← hxw] at cw
    have Hxk := Lib.hid hxk
    have Hxw := Lib.hid hxw
    clear hxk hxw
    go_wp2
    go_quiet (fail)
    go_wp2
    go_quiet ((go_at_call 112; exact quiet_more (right_same _ _ (by omega) (by omega) _)))
    go_wp2
    go_quiet ((go_at_call 112; exact quiet_more (right_same _ _ (by omega) (by omega) _)))
    go_wp2
    refine region_still_tail 2 (by kernel_rfl) (by kernel_rfl) ?_
    simp only [List.take_succ_cons, List.take_zero, List.drop_succ_cons, List.drop_zero]
    repeat still_step
    refine wpStill_nil ?_
    refine wpList_copy_own rfl _ _ 152 152 rfl 112 Try.underlying152 (by kernel_rfl) w3.heap.size 1 7 7 ⟨w3.heap.size, 0, none⟩ 7 8 rfl rfl (wds [a, b, c, d, e, f, g, i]).toArray 113 hr (wds [a, b, c, d, e, f, g]) rfl ?_ (by simp [wds]) ?_ ?_
    · exact Row.from_ (cur := (wds [a, b, c, d, e, f, g, i]).toArray) hr 0 (copy_src a b c d e f g i)
    · exact fun v hv => (Array.all_eq_true_iff_forall_mem.1 (wds_one _)) v (by simpa using hv)
    generalize hw9 : World.setRow _ _ _ = w9
    have hr9 : Row w9 w3.heap.size 113 (wds [a, a, b, c, d, e, f, g]).toArray := by rw [← hw9]; exact Row.setRow (cs := (wds [a, b, c, d, e, f, g, i]).toArray) hr _
    have hb9 : Below w3.heap.size w3 w9 := by rw [← hw9]; exact below_setRow_ (Below.drew (below_drewN (below_drewN (below_drewN hb _) _) _)) (Nat.le_refl _) _
    clear hw9 c0 c1 c2 c4 c5 c6 c7 ck cw hr hb
    have c4 := hr9.cellv (i := 4) (v := .int .u32 (wd d)) rfl
    have c0 := hr9.cellv (i := 0) (v := .int .u32 (wd a)) rfl
    have f4 := hr9.free 4
    have f0 := hr9.free 0
    go_wp2
    go_roundw
    case rel => exact ⟨k + 1, by go_num, by omega, by rw [← round_step _ _ _ _ _ _ _ _ _ _ _ _ _ Heq.out Hxk.out Hxw.out]; exact (hr9.set _ _).set _ _, (hb9.setCell (p := ⟨w3.heap.size, 0, none⟩) (Nat.le_refl _) _).setCell (p := ⟨w3.heap.size, 4, none⟩) (Nat.le_refl _) _⟩
    case measure => simp [intOf]; omega
  · obtain rfl : k = 64 := by omega
    clear hk64
    rw [show ((64 : Nat) : Int) = 64 from rfl]
    have r0 := r0.below hb (by omega)
    have r2 := r2.below hb (by omega)
    have b0 := b0.trans (hb.mono (by omega))
    have gv : w.heap.size + 2 < w3.heap.size := by omega
    obtain ⟨V, hV⟩ : ∃ V, V = rounds (wordsL l) H 64 := ⟨_, rfl⟩
    have hVl : V.length = 8 := by rw [hV]; exact Hrl.out 64
    rw [← hV] at hr
    have HV := Lib.hid hV
    have HVl := Lib.hid hVl
    clear hV hVl hb rw2 rk3 bw3 bw2
    obtain ⟨G, hG⟩ : ∃ G, G = w3.heap.size := ⟨_, rfl⟩
    rw [← hG] at hr gv ⊢
    clear hG
    go_wp2
    go_loopw [96] (fun i wr => ∃ k : Nat, i = .int .i64 (k : Int) ∧ k ≤ 8 ∧ Row wr w.heap.size 115 (wds (addTo H V k)).toArray ∧ Row wr G 113 (wds V).toArray ∧ Row wr (w.heap.size + 1 + 1) 115 (wds [0, 0, 0, 0, 0, 0, 0, 0]).toArray ∧ Below w.heap.size w wr) (fun i _ => (8 - intOf i).toNat)
    case atStart => exact ⟨0, by simp, by omega, r0, hr, r2, b0⟩
    case round =>
     clear hr r0 r2 b0
     obtain ⟨k, rfl, hk, r0, hr, r2, b0⟩ := hrel
     by_cases hk8 : k < 8
     · have c0 := r0.cellv (wds_at _ k (by rw [addTo_len _ _ HH.out]; exact hk8))
       have c1 := hr.cellv (wds_at _ k (by rw [HVl.out]; exact hk8))
       have f0 := r0.free k
       have hk8' : (k : Int) < 8 := by omega
       go_wp2
       refine region_still_tail 10 (by kernel_rfl) (by kernel_rfl) ?_
       simp only [List.take_succ_cons, List.take_zero, List.drop_succ_cons, List.drop_zero]
       repeat still_step
       refine wpStill_nil ?_
       go_wp2
       go_roundw
       case rel => exact ⟨k + 1, by go_num, by omega, by rw [← add_step]; exact r0.drew.set _ _, (hr.drew).far (by show G ≠ w.heap.size; omega) _, (r2.drew).far (by show w.heap.size + 1 + 1 ≠ w.heap.size; omega) _, b0.drew.setCell (p := ⟨w.heap.size, k, none⟩) (Nat.le_refl _) _⟩
       case measure => simp [intOf]; omega
     · obtain rfl : k = 8 := by omega
       clear hk8
       have hsz : (wds (addTo H V 8)).toArray.size = 8 := wds_size _ (addTo_len _ _ HH.out 8)
       have Hsz := Lib.hid hsz
       clear hsz
       go_wp2_with (first
        | (refine wpList_load_row rfl 115 _ rfl w.heap.size rfl 115 (wds (addTo H V 8)).toArray (0, 0) _ r0 Try.underlying115 rfl (by rw [Hsz.out]; kernel_rfl) ?_)
        | (refine wpList_store_row rfl 115 _ _ rfl (w.heap.size + 1 + 1) (wds (addTo H V 8)).toArray rfl rfl 115 _ r2 (by rw [Hsz.out]; kernel_rfl) (by rw [Hsz.out]; rfl) (wds_one _) ?_))
       exact bodyPost_ret (v := .agg (wds (addTo H V 8)).toArray) (results_cell_row Try.results75 _ _ (w.heap.size + 1 + 1) 115 _ (0, 0) _ rfl (r2.setRow _) Try.underlying115 rfl (by rw [Hsz.out]; kernel_rfl)) rfl ⟨by rw [blockL, ← HV.out], below_setRow_ b0 (by omega) _⟩
end Go.Proofs.Ytlglilmgklipdaa
namespace Go.Proofs.Ytlglilmgklipdaa
set_option linter.unusedVariables false
open Go.RowKit Go.Deep
def wbytes (x : BitVec 32) : List UInt8 := [UInt8.ofNat (x >>> 24).toNat, UInt8.ofNat (x >>> 16).toNat, UInt8.ofNat (x >>> 8).toNat, UInt8.ofNat x.toNat]
def bytesL (H : List (BitVec 32)) : List UInt8 := H.flatMap wbytes
theorem bytesL_len (H : List (BitVec 32)) : (bytesL H).length = 4 * H.length := by
 induction H with
 | nil => rfl
 | cons a l ih => simp only [bytesL, List.flatMap_cons, List.length_append, List.length_cons] at ih ⊢; rw [ih]; simp [wbytes]; omega
theorem bytesL_take (H : List (BitVec 32)) (k : Nat) (h : k < H.length) : bytesL (H.take (k + 1)) = bytesL (H.take k) ++ wbytes (H.getD k 0) := by
 rw [List.take_succ_eq_append_getElem h, bytesL, List.flatMap_append]
 simp [bytesL, List.getD, List.getElem?_eq_getElem h]
theorem byte_of (x : BitVec 32) : wd x % (256 : Int) = ((UInt8.ofNat x.toNat).toNat : Int) := by
 unfold wd; simp
theorem isAgg_u32 (w : World) : (isAgg 112).run Try.prog w = .ok false w := by
 unfold isAgg; simp [run_underlying Try.underlying112]
theorem part_u32 (H : List (BitVec 32)) (i : Nat) (hi : i < H.length) (w : World) : (part 112 (wds H).toArray i).run Try.prog w = .ok (.int .u32 (wd (H.getD i 0))) w := by
 unfold part
 rw [Sem.run_bind, isAgg_u32]
 simp only [Result.andThen_ok, Bool.false_eq_true, if_false, wds_at H i hi]
 rfl
theorem news_eq (x : BitVec 32) : [Value.int .u8 (wd (x >>> 24) % (256 : Int)), .int .u8 (wd (x >>> 16) % (256 : Int)), .int .u8 (wd (x >>> 8) % (256 : Int)), .int .u8 (wd x % (256 : Int))] = u8s (wbytes x) := by
 simp only [byte_of, u8s, wbytes, List.map_cons, List.map_nil]
attribute [local go_sem] wd_shr24 wd_shr16 wd_shr8
set_option maxHeartbeats 1000000 in
theorem bytes_any (H : List (BitVec 32)) (hH : H.length = 8) (w : World) :
 Calls Try.prog 76 #[.agg (wds H).toArray] w fun e w' => e = .returned (.string ⟨(bytesL H).toArray⟩) ∧ Below w.heap.size w w' := by
 have HH := Lib.hid hH
 clear hH
 obtain ⟨i0, hi0, hz0, hz1, hz2⟩ := info_parts info_u8
 have r0 := Row.new w 115 (wds H).toArray
 have b0 := (Below.refl w.heap.size w).alloc (Nat.le_refl _) (.cells (wds H).toArray 115)
 have s0 : w.heap.size + 1 ≤ (w.alloc (.cells (wds H).toArray 115)).heap.size := by simp
 go_enter Try.func76, Try.ntmps76
 go_wp2_with (first
  | (refine wpList_load_row rfl 113 _ rfl w.heap.size rfl 115 (wds H).toArray (0, 0) _ r0 Try.underlying113 rfl (by rw [wds_size _ HH.out]; kernel_rfl) ?_))
 generalize w.alloc (.cells (wds H).toArray 115) = w1 at r0 b0 s0 ⊢
 go_loopw [3, 8] (fun v i wr => ∃ k : Nat, i = .int .i64 (k : Int) ∧ k ≤ 8 ∧ wr.ownsRow (w.heap.size + 1) 5 1 v (4 * k) (u8s (bytesL (H.take k))) ∧ Below w.heap.size w wr ∧ w.heap.size + 1 ≤ wr.heap.size) (fun _ i _ => (8 - intOf i).toNat)
 case atStart => exact ⟨0, by simp, by omega, World.ownsRow_nil _ _ _ _, b0, s0⟩
 case round =>
  obtain ⟨k, rfl, hk, hown, hb, hs⟩ := hrel
  by_cases hk8 : k < 8
  · have hidx := run_index_arr (P := Try.prog) wr 113 112 8 (wds H).toArray .i64 k _ Try.underlying113 (part_u32 H k (by rw [HH.out]; exact hk8) wr) (by kernel_rfl) hk8
    obtain ⟨x, hx⟩ : ∃ x, x = H.getD k 0 := ⟨_, rfl⟩
    rw [← hx] at hidx
    have Hx := Lib.hid hx
    clear hx
    have hk8' : (k : Int) < 8 := by omega
    go_wp2_with (
     (at_builtin
      refine wpList_append_own _ rfl (.tmp 11) (.tmp 23) 140 rfl (w.heap.size + 1) 5 i0 (.int .u8 0) 1 1 Try.underlying140 hi0 hz0 hz1 hz2 rfl (by decide) _ _ _ rfl (hown.alloc _) ⟨wr.heap.size, 0, none⟩ 4 4 [.int .u8 (wd (x >>> 24) % (256 : Int)), .int .u8 (wd (x >>> 16) % (256 : Int)), .int .u8 (wd (x >>> 8) % (256 : Int)), .int .u8 (wd x % (256 : Int))] rfl rfl (cells_new _ _ _) ?c2 (by unfold maxLen; omega) (by omega) (by simp; omega) ?_))
    case c2 => rw [news_eq]; exact u8s_oneCell _
    intro v' w2 hown' hg _
    have hb2 := below_grown_own (hb.alloc (by omega) _) (hown.alloc _) hg (by simp; omega) (by omega)
    have hs2 := hg.size
    rw [World.size_alloc] at hs2
    rw [news_eq, Hx.out] at hown'
    clear hg hidx hown hb
    go_wp2
    go_roundw
    case rel => exact ⟨k + 1, by go_num, by omega, by rw [bytesL_take H k (by rw [HH.out]; exact hk8), u8s_append]; exact hown', hb2, by omega⟩
    case measure => simp [intOf]; omega
  · obtain rfl : k = 8 := by omega
    clear hk8
    rw [show ((8 : Nat) : Int) = 8 from rfl]
    rw [List.take_of_length_le (by rw [HH.out]; omega)] at hown
    have hconv := run_string_of_own (P := Try.prog) 140 9 5 Try.underlying140 Try.underlying5 Try.underlying9 _ hown
    clear hown
    go_wp2
    go_ret
    exact ⟨rfl, hb⟩
end Go.Proofs.Ytlglilmgklipdaa
