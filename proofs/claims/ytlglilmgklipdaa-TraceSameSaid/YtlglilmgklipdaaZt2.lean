/- Lemmas for TraceSameP. -/
import Derived.Test.YtlglilmgklipdaaZt1
import Derived.Test.YtlglilmgklipdaaRows
import Derived.Maps.OwnIn
import Derived.Lib.AppendStr
import Derived.BigFrameIn
import Derived.Deep.WholeRow
namespace Go.Proofs.Ytlglilmgklipdaa
set_option linter.unusedVariables false
open Go.ChangeShapes Go.WideShapes Go.RowKit Go.Deep
theorem cells_int : Try.prog.cellsOf 3 = 1 := by kernel_rfl
section
variable {H : Type} {enc : TypeId × Value → H} {w : World} {base : Nat} {spare : Nat → Bool} {held : Bool}
def RunV.val (r : RunV) : Value := .agg #[.int .i64 r.kind, .int .i64 r.value, .int .i64 r.steps, .slice r.addr r.evs.length r.cap]
structure RunV.ok (r : RunV) (w : World) : Prop where
 kind : InI r.kind
 value : InI r.value
 steps : InI r.steps
 len : r.evs.length ≤ r.cap
 cap : r.cap ≤ maxLen
 nil : r.addr = none → r.cap = 0
 reads : Rd w r.addr (r.evs.flatMap EvV.cells)
 evs : ∀ e ∈ r.evs, e.ok
end
end Go.Proofs.Ytlglilmgklipdaa
namespace Go.Proofs.Ytlglilmgklipdaa
set_option linter.unusedVariables false
open Go.RowKit Go.Deep
def RunV.cells (r : RunV) : Array Value := #[.int .i64 r.kind, .int .i64 r.value, .int .i64 r.steps, .slice r.addr r.evs.length r.cap]
end Go.Proofs.Ytlglilmgklipdaa
namespace Go.Proofs.Ytlglilmgklipdaa
set_option linter.unusedVariables false
open Go.RowKit Go.Deep
theorem evcells_at : ∀ (l : List EvV) (k : Nat) (e : EvV), l[k]? = some e → ∀ j u, e.cells[j]? = some u → (l.flatMap EvV.cells)[k * 3 + j]? = some u
 | [], k, e, h, _, _, _ => by simp at h
 | a :: l, 0, e, h, j, u, hj => by
  simp at h; subst h
  have hl : j < a.cells.length := (List.getElem?_eq_some_iff.1 hj).1
  simp only [List.flatMap_cons]
  rw [List.getElem?_append_left (by omega)]
  simpa using hj
 | a :: l, k + 1, e, h, j, u, hj => by
  simp only [List.flatMap_cons]
  rw [List.getElem?_append_right (by simp [EvV.cells]; omega)]
  have := evcells_at l k e (by simpa using h) j u hj
  rw [← this]; congr 1; simp [EvV.cells]; omega
end Go.Proofs.Ytlglilmgklipdaa
namespace Go.Proofs.Ytlglilmgklipdaa
set_option linter.unusedVariables false
open Go.RowKit Go.Deep
attribute [local go_sem] Oper.semAt_some
def natAt (w : World) (b : Nat) : Nat := match w.cell? ⟨b, 0, none⟩ with | some (.int _ n) => n.toNat | _ => 0
theorem or_more (n : Nat) : bits .or .u8 (((n % 256 : Nat) : Int)) 128 = ((UInt8.ofNat (128 + n % 128)).toNat : Int) := by
 have h : ∀ m : Nat, m < 256 → bits .or .u8 (m : Int) 128 = ((128 + m % 128 : Nat) : Int) := by decide +kernel
 rw [h (n % 256) (by omega)]
 have : (UInt8.ofNat (128 + n % 128)).toNat = 128 + n % 128 := by simp; omega
 rw [this]; omega
theorem u8_low (n : Nat) : ((n % 256 : Nat) : Int) = ((UInt8.ofNat n).toNat : Int) := by simp
set_option maxRecDepth 100000 in
set_option maxHeartbeats 1000000 in
theorem digits1_iter (bs : Nat) (n : Nat) (hn : n < 18446744073709551616) (w : World) (hrow : Row w bs 108 #[.int .u64 n]) :
 IterO Try.prog 119 #[.pointer (some ⟨bs, 0, none⟩)] (fun x : UInt8 => #[.int .u8 (x.toNat : Int)]) (· = bs) (fun A B => B.heap[bs]? = A.heap[bs]? ∧ A.heap.size ≤ B.heap.size) (fun xs => xs = lebL n) (fun _ => True) 10 w := by
 intro l J Jx W _ hwW hJ hJx hY h0
 refine callsIn_of_wp Try.func119 rfl trivial ?_ rfl
 simp only [Try.ntmps119, List.size_toArray, List.length_cons, List.length_nil, Nat.reduceAdd, Nat.reduceSub, Array.replicate_succ, Array.replicate_zero, List.push_toArray, List.append_toArray, List.nil_append, List.cons_append]
 gi_wp2
 have hrW : Row W bs 108 #[.int .u64 n] := (hwW.block bs hrow.lt (by simp)).trans hrow
 have hn10 : n < 128 ^ 10 := by have e : (128 : Nat) ^ 10 = 1180591620717411303424 := by decide
                                rw [e]; omega
 have Hn := Lib.hid hn
 have Hn10 := Lib.hid hn10
 clear hrow hwW hn hn10
 gi_loopw [3, 4] (fun _ _ wr => ∃ (f m : Nat) (pre : List UInt8), pre ++ lebF (f + 1) m = lebL n ∧ m < 128 ^ (f + 1) ∧ m < 18446744073709551616 ∧ pre.length + (f + 1) = 10 ∧ Row wr bs 108 #[.int .u64 m] ∧ J pre wr) (fun _ _ wr => natAt wr bs)
 case atStart => exact ⟨9, n, [], rfl, Hn10.out, Hn.out, rfl, hrW, h0⟩
 case round =>
  clear hrW h0
  obtain ⟨f, m, pre, hpre, hm, hm64, hlen, hr, hj⟩ := hrel
  have Hpre := Lib.hid hpre
  have Hm := Lib.hid hm
  have Hlen := Lib.hid hlen
  have Hm64 := Lib.hid hm64
  clear hpre hm hlen hm64
  have hc := hr.cellv (i := 0) (v := .int .u64 (m : Int)) rfl
  have hf := hr.free 0
  have hlen' : pre.length < 10 := by have := Hlen.out; omega
  by_cases h128 : m < 128
  · obtain ⟨c, hcd⟩ : ∃ c : UInt8, c = UInt8.ofNat m := ⟨_, rfl⟩
    have hx : ((c.toNat : Nat) : Int) = (m : Int) := by rw [hcd, ← u8_low]; omega
    obtain ⟨fn, tmps, assign, body, hy, hR⟩ := hY _ c _ hj hlen'
    rw [hx] at hy
    have HR := Lib.hid hR
    have Hcd := Lib.hid hcd
    have hlt : ((m : Nat) : Int) < 128 := by omega
    clear hR hcd hx h128
    gi_wp2
    refine ⟨rfl, HR.out.mono ?_⟩
    rintro e W' (⟨rfl, hj3, hk3, hs3⟩ | ⟨rfl, hjx⟩)
    · gi_wp2
      go_end0
      refine ⟨⟨_, rfl⟩, .inl ⟨_, ?_, hj3⟩⟩
      rw [← Hpre.out, lebF_small f m (by omega), Hcd.out]
    · gi_wp2
      go_end0
      exact ⟨⟨_, rfl⟩, .inr ⟨_, trivial, hjx⟩⟩
  · obtain ⟨c, hcd⟩ : ∃ c : UInt8, c = UInt8.ofNat (128 + m % 128) := ⟨_, rfl⟩
    have hx : ((c.toNat : Nat) : Int) = bits .or .u8 ((m : Int) % 256) 128 := by
     have e : (m : Int) % 256 = ((m % 256 : Nat) : Int) := by omega
     rw [hcd, e, or_more]
    obtain ⟨fn, tmps, assign, body, hy, hR⟩ := hY _ c _ hj hlen'
    rw [hx] at hy
    have HR := Lib.hid hR
    have Hcd := Lib.hid hcd
    have hlt : 128 ≤ ((m : Nat) : Int) := by omega
    clear hR hcd hx h128
    gi_wp2
    have hbig := lebF_big f m (by omega)
    have hf1 : 0 < f := by
     rcases Nat.eq_zero_or_pos f with rfl | h0
     · have := Hm.out; simp at this; omega
     · exact h0
    obtain ⟨f, rfl⟩ : ∃ f', f = f' + 1 := ⟨f - 1, by omega⟩
    have Hbig := Lib.hid hbig
    clear hbig hf1
    refine ⟨rfl, HR.out.mono ?_⟩
    rintro e W' (⟨rfl, hj3, hk3, hs3⟩ | ⟨rfl, hjx⟩)
    · have hr3 : Row W' bs 108 #[.int .u64 m] := hk3.trans hr
      have hc3 := hr3.cellv (i := 0) (v := .int .u64 (m : Int)) rfl
      have hf3 := hr3.free 0
      have Hj3 := Lib.hid hj3
      clear hj3 hk3 hj hy hf hc
      gi_wp2
      have hdiv : (m : Int) / 128 = ((m / 128 : Nat) : Int) := by omega
      go_roundw
      case rel =>
       refine ⟨f, m / 128, pre ++ [c], ?_, ?_, ?_, ?_, ?_, ?_⟩
       · rw [← Hpre.out, Hbig.out, Hcd.out]; simp
       · have := Hm.out; rw [Nat.pow_succ] at this; omega
       · have := Hm64.out; omega
       · have := Hlen.out; simp; omega
       · rw [← hdiv]; exact hr3.set 0 _
       · exact hJ _ _ _ (some bs) Hj3.out (grownBy_setCell' _ _ _) (fun r e => by cases e; exact .inl rfl)
      case measure =>
       have h1 := (hr3.set 0 (.int .u64 ((m : Int) / 128))).cell 0
       have h2 := hr.cell 0
       unfold natAt
       rw [h1, h2]
       simp; omega
    · clear hj hy hc hf hr
      gi_wp2
      refine bodyPost_ret (results_none rfl _ _ _) rfl ?_
      exact ⟨⟨_, rfl⟩, .inr ⟨_, trivial, hjx⟩⟩
end Go.Proofs.Ytlglilmgklipdaa
namespace Go.Proofs.Ytlglilmgklipdaa
set_option linter.unusedVariables false
open Go.RowKit
theorem info_u8 : (Try.prog.info? 5).map (fun i => (i.zero, i.size, i.bytes)) = some (some (.int .u8 0), 1, 1) := by kernel_rfl
end Go.Proofs.Ytlglilmgklipdaa
namespace Go.Proofs.Ytlglilmgklipdaa
set_option linter.unusedVariables false
open Go.RowKit Go.Deep
attribute [local go_sem] Oper.semAt_some
theorem digits_any (n : Nat) (w : World) :
 Calls Try.prog 115 #[.int .u64 n] w fun e w' => e = .returned (.func (.func 119) #[] #[.pointer (some ⟨w.heap.size, 0, none⟩)]) ∧ w.alloc (.cells #[.int .u64 n] 108) = w' := by
 go_enter Try.func115, Try.ntmps115
 go_wp2
 go_ret
 exact ⟨rfl, rfl⟩
set_option maxRecDepth 100000 in
set_option maxHeartbeats 2000000 in
theorem lebPut_any (n : Nat) (hn : n < 18446744073709551616) (w : World) :
 Calls Try.prog 106 #[.int .u64 n] w fun e w' => e = .returned (.string ⟨(lebL n).toArray⟩) ∧ Below w.heap.size w w' := by
 have Hn := Lib.hid hn
 clear hn
 obtain ⟨i0, hi0, hz0, hz1, hz2⟩ := info_parts info_u8
 refine (callsIn_wide (n := 0)).1 ?_
 refine callsIn_of_wp_marks Try.func106 rfl trivial ?_
 simp only [Try.ntmps106, List.size_toArray, List.length_cons, List.length_nil, Nat.reduceAdd, Nat.reduceSub, Array.replicate_succ, Array.replicate_zero, List.push_toArray, List.append_toArray, List.nil_append, List.cons_append]
 gi_wp2_with fail
 have rg := Row.new w 140 #[.slice none 0 0]
 have b1 := (Below.refl w.heap.size w).alloc (Nat.le_refl _) (.cells #[.slice none 0 0] 140)
 have l1 := rg.lt
 generalize w.alloc (.cells #[.slice none 0 0] 140) = w1 at rg b1 l1 ⊢
 refine ⟨trivial, rfl, (callsIn_wide.2 (digits_any n w1)).mono ?_⟩
 rintro e w2 ⟨rfl, hw2⟩
 have rb := Row.new w1 108 #[.int .u64 n]
 have rg2 := rg.alloc (.cells #[.int .u64 n] 108)
 have b2 := b1.alloc b1.size (.cells #[.int .u64 n] 108)
 rw [hw2] at rb rg2 b2
 obtain ⟨Bs, hBs⟩ : ∃ Bs, Bs = w1.heap.size := ⟨_, rfl⟩
 rw [← hBs] at rb l1 ⊢
 have lb := rb.lt
 obtain ⟨G, hG⟩ : ∃ G, G = w.heap.size := ⟨_, rfl⟩
 have gG : w.heap.size ≤ G := by omega
 rw [← hG] at rg2 l1 ⊢
 clear hBs hw2 rg b1
 have HG := Lib.hid hG
 clear hG
 have Hseq := Lib.hid (digits1_iter Bs n Hn.out w2 rb)
 gi_wp2
 refine rangeO (gf := 119) (lb := #[.pointer (some ⟨Bs, 0, none⟩)]) rfl (enters_of Try.func119 (by kernel_rfl) rfl) Hseq.out (fun r h => by subst h; omega)
  (fun h k => ⟨k.1.trans h.1, Nat.le_trans h.2 k.2⟩) (fun W l o o' hl ho hc => ⟨by rw [World.putObj_heap_other (by omega)], by simp⟩) (World.grownBy.refl _ _) (fun _ => rfl)
  (fun pre W => ∃ v, Row W G 140 #[v] ∧ W.ownsRow w.heap.size 5 1 v pre.length (u8s pre) ∧ Below w.heap.size w W ∧ v.ownBlock ≠ some Bs ∧ Bs < W.heap.size) (fun _ _ _ => False) ?hI ?hIx ⟨_, rg2, World.ownsRow_nil _ _ _ _, b2, by simp [Value.ownBlock], lb⟩
  (fun x a' W => a' = { tmps := #[.int .u64 n, undef, .string ⟨#[]⟩, .pointer (some ⟨G, 0, none⟩), .int .u8 (x.toNat : Int), .int .u64 n, .func (.func 119) #[] #[.pointer (some ⟨Bs, 0, none⟩)], .int .u8 (x.toNat : Int), undef, undef, undef, undef, undef, undef], defers := [] }) ?hAx ?assign ?body ?done ?stop
 case hI =>
  rintro pre A B row ⟨v, h1, h2, h3, h4, h5⟩ hg hr
  have hrow : ∀ r, row = some r → r ≠ G ∧ v.ownBlock ≠ some r := fun r e => by
   rcases hr r e with h | ⟨h, o, ho, hc⟩
   · have : r = Bs := h
     subst this
     exact ⟨by omega, h4⟩
   · exact ⟨by omega, own_cells h2 ho hc⟩
  refine ⟨v, h1.grown hg (fun e => (hrow G e).1 rfl), h2.kept hg ?_, h3.grown hg h3.size (fun k e => ?_), h4, Nat.lt_of_lt_of_le h5 hg.size⟩
  · cases row with
    | none => cases v.ownBlock <;> simp
    | some r => exact .inr (hrow r rfl).2
  · rcases hr k e with h | ⟨h, _⟩
    · have : k = Bs := h
      omega
    · have := b2.size; omega
 case hIx => exact fun _ _ _ _ _ h _ _ => h
 case hAx => exact fun x a' _ _ _ _ h _ _ => h
 case assign =>
  rintro l pre x W K hI hK
  have HK := Lib.hid hK
  clear hK
  gi_wp2
  exact HK.out _ _ (KeepsFrom.refl _ _) ⟨rfl, Nat.le_refl _⟩ hI rfl
 case body =>
  rintro l pre x a' W hl _ ⟨v, h1, h2, h3, h4, h5⟩ rfl hpl
  have hpl' : pre.length < 10 := hpl
  have hc := h1.cellv (i := 0) (v := v) rfl
  have hf := h1.free 0
  have ha := h2.alloc (.cells #[.int .u8 (x.toNat : Int)] 5)
  have HA := Lib.hid ha
  clear ha
  gi_wp2_with (gi_at_builtin; refine wpListIn_append_own_at _ rfl (.tmp 8) (.tmp 10) 140 rfl w.heap.size 5 i0 (.int .u8 0) 1 1 Try.underlying140 hi0 hz0 hz1 hz2 rfl (by decide) v pre.length (u8s pre) rfl HA.out ⟨W.heap.size, 0, none⟩ 1 1 (u8s [x]) rfl rfl (cells_new _ _ _) (u8s_oneCell _) (by unfold maxLen; omega) (by omega) (by have := h3.size; simp; omega) ?_)
  intro v' W3 hown hg _ hat
  have r3 := (h1.alloc (.cells #[.int .u8 (x.toNat : Int)] 5)).grown hg (own_ne HA.out (h1.alloc _) (by decide))
  have b3 := below_grown_own (h3.alloc h3.size _) HA.out hg (by have := h3.size; simp; omega) (Nat.le_refl _)
  have k3 : KeepsFrom w2.heap.size W W3 := (KeepsFrom.alloc _ W (.cells #[.int .u8 (x.toNat : Int)] 5)).trans (KeepsFrom.of_own HA.out hg)
  have e3 : W3.heap[Bs]? = W.heap[Bs]? := (hg.block Bs (by simp; omega) (fun e => h4 e.symm)).trans (Below.heap_alloc _ _ _ h5)
  have l3 : W.heap.size < W3.heap.size := by have := hg.size; simp at this; omega
  have n3 : v'.ownBlock ≠ some Bs := by
   rcases hat with h | h
   · rw [h]; exact h4
   · rw [h]; intro e; injection e; omega
  obtain ⟨A', m', c', rfl⟩ : ∃ A m c, v' = .slice A m c := own_slice hown
  have hc3 := r3.cellv (i := 0) (v := v) rfl
  have hf3 := r3.free 0
  have nG := own_ne hown r3 (by decide)
  have Hown := Lib.hid hown
  clear hown hg hat hc hf
  gi_wp2
  have o4 := only_set W3 G 0 (.slice A' m' c')
  refine ⟨k3.trans (KeepsFrom.of_only r3 o4), ⟨(o4.block Bs (by omega)).trans e3, by have := o4.size; omega⟩, _, r3.set 0 _, ?_, below_only b3 o4 gG, n3, by have := o4.size; omega⟩
  have := own_only Hown.out o4 nG
  rw [← u8s_append] at this
  simpa using this
 case stop => exact fun D c pre W _ _ h _ => h.elim
 case done =>
  rintro D ys W hD rfl ⟨v, h1, h2, h3, _, _⟩ hK
  have hconv := run_string_of_own (P := Try.prog) 140 9 5 Try.underlying140 Try.underlying5 Try.underlying9 _ h2
  have hc := h1.cellv (i := 0) (v := v) rfl
  have HK := Lib.hid hK
  clear hK h2
  gi_wp2
  refine ⟨by simp, .inl ⟨_, _, rfl, run_takeDeferred HK.out, ?_⟩⟩
  exact ⟨_, results_tmp rfl _ _ _, rfl, h3.grown (grownBy_putObj' _ _ _) h3.size (fun k e => by cases e; have := b2.size; omega)⟩
end Go.Proofs.Ytlglilmgklipdaa
namespace Go.Proofs.Ytlglilmgklipdaa
set_option linter.unusedVariables false
open Go.RowKit Go.Deep
theorem xor_max (u : Int) : bits .xor .u64 IntKind.u64.max (IntKind.u64.wrap (u * 2)) = 18446744073709551615 - IntKind.u64.wrap (u * 2) := by
 obtain ⟨m, hm, hlt⟩ : ∃ m : Nat, IntKind.u64.wrap (u * 2) = (m : Int) ∧ m < 18446744073709551616 := by
  rw [IntKind.wrap_u64]; exact ⟨((u * 2) % 18446744073709551616).toNat, by omega, by omega⟩
 rw [hm]
 show IntKind.u64.wrap ((BitVec.ofInt 64 IntKind.u64.max ^^^ BitVec.ofInt 64 (m : Int)).toNat : Int) = _
 have e1 : BitVec.ofInt 64 IntKind.u64.max = BitVec.allOnes 64 := by decide +kernel
 have e2 : (BitVec.ofInt 64 (m : Int)).toNat = m := by rw [BitVec.ofInt_natCast, BitVec.toNat_ofNat]; exact Nat.mod_eq_of_lt (by omega)
 rw [e1, BitVec.allOnes_xor, BitVec.toNat_not, e2, IntKind.wrap_u64]
 omega
theorem zig1_any (u : Int) (w : World) : Calls Try.prog 120 #[.int .u64 u] w fun e w' => e = .returned (.int .u64 (IntKind.u64.wrap (u * 2))) ∧ w = w' := by
 go_enter Try.func120, Try.ntmps120
 go_wp2
 go_ret
 exact ⟨rfl, rfl⟩
theorem zig2_any (u : Int) (w : World) : Calls Try.prog 121 #[.int .u64 u] w fun e w' => e = .returned (.int .u64 (bits .xor .u64 IntKind.u64.max (IntKind.u64.wrap (u * 2)))) ∧ w = w' := by
 have hsg : ¬ IntKind.u64.signed = true := by decide
 go_enter Try.func121, Try.ntmps121
 go_wp2
 go_ret
 exact ⟨rfl, rfl⟩
theorem zig_pos (n : Int) (hn : InI n) (h : 0 ≤ n) : IntKind.u64.wrap (IntKind.u64.wrap n * 2) = (zigN n : Int) := by
 simp only [IntKind.wrap_u64]; unfold zigN; rw [if_pos h]; have := hn.2; omega
theorem zig_neg (n : Int) (hn : InI n) (h : ¬ 0 ≤ n) : bits .xor .u64 IntKind.u64.max (IntKind.u64.wrap (IntKind.u64.wrap n * 2)) = (zigN n : Int) := by
 rw [xor_max]
 simp only [IntKind.wrap_u64]; unfold zigN; rw [if_neg h]; have := hn.1; omega
theorem ret_u64 {a b : Int} (h : a = b) : Ending.returned (.int .u64 a) = .returned (.int .u64 b) := by rw [h]
set_option maxRecDepth 100000 in
set_option maxHeartbeats 1000000 in
theorem zig_any (n : Int) (hn : InI n) (w : World) :
 Calls Try.prog 116 #[.int .i64 n] w fun e w' => e = .returned (.int .u64 (zigN n)) ∧ Below w.heap.size w w' := by
 have Hn := Lib.hid hn
 clear hn
 go_enter Try.func116, Try.ntmps116
 go_wp2_with (refine at_alloc _ rfl ?_)
 refine Stop.to ?_
 refine wpList_alloc_gen rfl 164 rfl _ _ rfl rfl ?_
 intro g w1 hg r1 b1
 go_wp2_with (refine at_store _ _ _ rfl ?_)
 refine Stop.to ?_
 refine wpList_store_gen rfl 164 _ _ rfl g #[.func (.func 120) #[] #[], .func (.func 121) #[] #[]] rfl rfl 164 _ r1 (by kernel_rfl) rfl (by kernel_rfl) ?_
 intro w2 r2 o2
 have b2 := below_only ((Below.refl w.heap.size w).trans (b1.mono hg)) o2 hg
 have c0 := r2.cellv (i := 0) (v := .func (.func 120) #[] #[]) rfl
 have c1 := r2.cellv (i := 1) (v := .func (.func 121) #[] #[]) rfl
 clear o2 r1 b1 hg
 by_cases h0 : 0 ≤ n
 · have hs : IntKind.u64.wrap n / 9223372036854775808 = 0 := by rw [IntKind.wrap_u64]; have := Hn.out.1; have := Hn.out.2; omega
   have H0 := Lib.hid h0
   clear h0
   go_wp2_with fail
   refine (zig1_any _ w2).mono ?_
   rintro e w3 ⟨rfl, rfl⟩
   go_wp2_with fail
   go_ret
   exact ⟨ret_u64 (zig_pos n Hn.out H0.out), b2⟩
 · have hs : IntKind.u64.wrap n / 9223372036854775808 = 1 := by rw [IntKind.wrap_u64]; have := Hn.out.1; have := Hn.out.2; omega
   have H0 := Lib.hid h0
   clear h0
   go_wp2_with fail
   refine (zig2_any _ w2).mono ?_
   rintro e w3 ⟨rfl, rfl⟩
   go_wp2_with fail
   go_ret
   exact ⟨ret_u64 (zig_neg n Hn.out (by have := H0.out; omega)), b2⟩
theorem zigPut_any (n : Int) (hn : InI n) (w : World) :
 Calls Try.prog 107 #[.int .i64 n] w fun e w' => e = .returned (.string ⟨(zz n).toArray⟩) ∧ Below w.heap.size w w' := by
 have Hn := Lib.hid hn
 clear hn
 go_enter Try.func107, Try.ntmps107
 go_wp2_with fail
 refine (zig_any n Hn.out w).mono ?_
 rintro e w1 ⟨rfl, b1⟩
 go_wp2_with fail
 refine (lebPut_any (zigN n) (zigN_lt Hn.out) w1).mono ?_
 rintro e w2 ⟨rfl, b2⟩
 go_wp2_with fail
 go_ret
 exact ⟨rfl, b1.trans (b2.mono b1.size)⟩
end Go.Proofs.Ytlglilmgklipdaa
namespace Go.Proofs.Ytlglilmgklipdaa
set_option linter.unusedVariables false
open Go.RowKit Go.Deep
def Wr (W : World) (B g : Nat) (l : List UInt8) : Prop := B ≤ g ∧ ∃ v, Row W g 142 #[v] ∧ W.ownsRow B 5 1 v l.length (u8s l)
structure WrEff (B g : Nat) (w w' : World) : Prop where
 os : w'.os = w.os
 tape : w'.tape = w.tape
 output : w'.output = w.output
 size : w.heap.size ≤ w'.heap.size
 block : ∀ k, k < w.heap.size → k ≠ g → (∀ cs, B ≤ k → ¬ Row w k 5 cs) → w'.heap[k]? = w.heap[k]?
theorem WrEff.of_below {B g : Nat} {w w' : World} (b : Below w.heap.size w w') : WrEff B g w w' := ⟨b.os, b.tape, b.output, b.size, fun k hk _ _ => b.block k hk⟩
theorem WrEff.refl (B g : Nat) (w : World) : WrEff B g w w := ⟨rfl, rfl, rfl, Nat.le_refl _, fun _ _ _ _ => rfl⟩
theorem WrEff.trans {B g : Nat} {a b c : World} (h : WrEff B g a b) (k : WrEff B g b c) : WrEff B g a c :=
 ⟨k.os.trans h.os, k.tape.trans h.tape, k.output.trans h.output, Nat.le_trans h.size k.size, fun i hi hg hr => by
  have e := h.block i hi hg hr
  refine (k.block i (Nat.lt_of_lt_of_le hi h.size) hg (fun cs hB hrow => hr cs hB ?_)).trans e
  rw [Row] at hrow ⊢; rw [← e]; exact hrow⟩
theorem WrEff.row {B g k : Nat} {w w' : World} {t : TypeId} {cs : Array Value} (h : WrEff B g w w') (hr : Row w k t cs) (hg : k ≠ g) (ht : t ≠ 5) : Row w' k t cs :=
 (h.block k hr.lt hg (fun cs' _ h' => ht (by rw [Row] at hr h'; rw [hr] at h'; injection h' with h'; injection h' with _ h''))).trans hr
theorem WrEff.below {B g : Nat} {w w' : World} (h : WrEff B g w w') (hB : B ≤ g) (hs : B ≤ w.heap.size) : Below B w w' :=
 ⟨h.os, h.tape, h.output, h.size, fun k hk => h.block k (by omega) (by omega) (fun _ hb _ => by omega)⟩
theorem WrEff.keeps {B g C : Nat} {w w' : World} {t : TypeId} {cs : Array Value} (h : WrEff B g w w') (hg : Row w g t cs) : KeepsFrom C w w' :=
 ⟨h.size, fun k o _ hk ho => (h.block k (Array.getElem?_eq_some_iff.1 hk).1 (fun e => by subst e; rw [hg] at hk; cases hk; cases ho) (fun cs' _ h' => by rw [Row] at h'; rw [h'] at hk; cases hk; cases ho)).trans hk⟩
theorem Wr.go {W W' : World} {B g : Nat} {l : List UInt8} (h : Wr W B g l) (b : Below W.heap.size W W') : Wr W' B g l := by
 obtain ⟨h0, v, h1, h2⟩ := h
 exact ⟨h0, v, h1.below b h1.lt, own_below h2 b⟩
instance St.wr {B g : Nat} {l : List UInt8} : St (fun W => Wr W B g l) := ⟨fun h b => h.go b⟩
theorem Wr.lt {W : World} {B g : Nat} {l : List UInt8} (h : Wr W B g l) : g < W.heap.size := by obtain ⟨_, v, h1, _⟩ := h; exact h1.lt
theorem WrEff.of_own {B g n : Nat} {w w' : World} {v : Value} {xs : List Value} (h : w.ownsRow B 5 1 v n xs) (hg : w.grownBy w' v.ownBlock) : WrEff B g w w' :=
 ⟨hg.os, hg.tape, hg.output, hg.size, fun k hk _ hr => hg.block k hk (fun e => by
  rcases h.2 with ⟨rfl, _⟩ | ⟨g', cap, cur, rfl, hB, hh, _⟩
  · simp [Value.ownBlock] at e
  · have : g' = k := by simpa [Value.ownBlock] using e.symm
    subst this
    exact hr _ hB hh)⟩
theorem WrEff.of_only {B g : Nat} {w w' : World} (o : Only g w w') : WrEff B g w w' := ⟨o.os, o.tape, o.output, Nat.le_of_eq o.size.symm, fun k _ hk _ => o.block k hk⟩
theorem wireNew_any (w : World) :
 Calls Try.prog 67 #[] w fun e w' => e = .returned (.pointer (some ⟨w.heap.size, 0, none⟩)) ∧ Wr w' w.heap.size w.heap.size [] ∧ Below w.heap.size w w' := by
 go_enter Try.func67, Try.ntmps67
 go_wp2
 go_ret
 exact ⟨rfl, ⟨Nat.le_refl _, .slice none 0 0, Row.new _ _ _, World.ownsRow_nil _ _ _ _⟩, (Below.refl _ _).alloc (Nat.le_refl _) _⟩
theorem strCells_eq (s : ByteArray) : Lib.strCells s = u8s s.data.toList := by
 rfl
set_option maxHeartbeats 1000000 in
theorem raw_any (B g : Nat) (l : List UInt8) (s : ByteArray) (hl : l.length ≤ 1000000) (hs : s.size ≤ 1000000) (w : World) (h : Wr w B g l) :
 Calls Try.prog 105 #[.pointer (some ⟨g, 0, none⟩), .string s] w fun e w' => e = .returned (.pointer (some ⟨g, 0, none⟩)) ∧ Wr w' B g (l ++ s.data.toList) ∧ WrEff B g w w' := by
 obtain ⟨i0, hi0, hz0, hz1, hz2⟩ := info_parts info_u8
 obtain ⟨hBg, v, hr, hown⟩ := h
 have hc := hr.cellv (i := 0) (v := v) rfl
 have hf := hr.free 0
 have hBs : B ≤ w.heap.size := Nat.le_of_lt (Nat.lt_of_le_of_lt hBg hr.lt)
 have Hown := Lib.hid hown
 clear hown
 go_enter Try.func105, Try.ntmps105
 go_wp2_with (at_builtin; refine Lib.wpList_append_own_string w rfl (.tmp 9) (.tmp 10) 140 9 rfl B 5 i0 Try.underlying140 Try.underlying9 hi0 hz0 hz1 hz2 v l.length (u8s l) rfl Hown.out s rfl (by unfold maxLen; omega) (by omega) hBs ?_)
 intro v' w1 hown' hg _
 have r1 := hr.grown hg (own_ne Hown.out hr (by decide))
 have e1 := WrEff.of_own (g := g) Hown.out hg
 obtain ⟨A', m', c', rfl⟩ : ∃ A m c, v' = .slice A m c := own_slice hown'
 have hc1 := r1.cellv (i := 0) (v := v) rfl
 have hf1 := r1.free 0
 have nG := own_ne hown' r1 (by decide)
 have Hown' := Lib.hid hown'
 clear hown' hg hc hf
 go_wp2
 go_ret
 have o2 := only_set w1 g 0 (.slice A' m' c')
 refine ⟨rfl, ⟨hBg, _, r1.set 0 _, ?_⟩, e1.trans (WrEff.of_only o2)⟩
 have := own_only Hown'.out o2 nG
 rw [strCells_eq, ← u8s_append] at this
 simpa using this
theorem num_any (B g : Nat) (l : List UInt8) (n : Nat) (hl : l.length ≤ 1000000) (hn : n < 18446744073709551616) (w : World) (h : Wr w B g l) :
 Calls Try.prog 68 #[.pointer (some ⟨g, 0, none⟩), .int .u64 n] w fun e w' => e = .returned (.pointer (some ⟨g, 0, none⟩)) ∧ Wr w' B g (l ++ lebL n) ∧ WrEff B g w w' := by
 have Hn := Lib.hid hn
 clear hn
 go_enter Try.func68, Try.ntmps68
 go_wp2_with fail
 refine (lebPut_any n Hn.out w).mono ?_
 rintro e w1 ⟨rfl, b1⟩
 go_wp2_with fail
 refine (raw_any B g l _ hl (by rw [size_mk]; have := lebL_len n; omega) w1 (h.go b1)).mono ?_
 rintro e w2 ⟨rfl, h2, e2⟩
 go_wp2_with fail
 go_ret
 exact ⟨rfl, h2, (WrEff.of_below b1).trans e2⟩
theorem int_any (B g : Nat) (l : List UInt8) (n : Int) (hl : l.length ≤ 1000000) (hn : InI n) (w : World) (h : Wr w B g l) :
 Calls Try.prog 69 #[.pointer (some ⟨g, 0, none⟩), .int .i64 n] w fun e w' => e = .returned (.pointer (some ⟨g, 0, none⟩)) ∧ Wr w' B g (l ++ zz n) ∧ WrEff B g w w' := by
 have Hn := Lib.hid hn
 clear hn
 go_enter Try.func69, Try.ntmps69
 go_wp2_with fail
 refine (zigPut_any n Hn.out w).mono ?_
 rintro e w1 ⟨rfl, b1⟩
 go_wp2_with fail
 refine (raw_any B g l _ hl (by rw [size_mk]; have := zz_len n; omega) w1 (h.go b1)).mono ?_
 rintro e w2 ⟨rfl, h2, e2⟩
 go_wp2_with fail
 go_ret
 exact ⟨rfl, h2, (WrEff.of_below b1).trans e2⟩
theorem wrBytes_any (B g : Nat) (l : List UInt8) (w : World) (h : Wr w B g l) :
 Calls Try.prog 71 #[.pointer (some ⟨g, 0, none⟩)] w fun e w' => e = .returned (.string ⟨l.toArray⟩) ∧ w = w' := by
 obtain ⟨hBg, v, hr, hown⟩ := h
 have hc := hr.cellv (i := 0) (v := v) rfl
 have hconv := run_string_of_own (P := Try.prog) 140 9 5 Try.underlying140 Try.underlying5 Try.underlying9 _ hown
 clear hown
 go_enter Try.func71, Try.ntmps71
 go_wp2_with fail
 go_ret
 exact ⟨rfl, rfl⟩
end Go.Proofs.Ytlglilmgklipdaa
namespace Go.Proofs.Ytlglilmgklipdaa
set_option linter.unusedVariables false
open Go.RowKit Go.Deep
attribute [local go_sem] Oper.semAt_some
def EvV.nums (e : EvV) : List Int := [e.var, e.at_, e.val]
def RunV.nums (r : RunV) : List Int := r.evs.flatMap EvV.nums ++ [r.kind, r.value]
theorem nums_len : ∀ l : List EvV, (l.flatMap EvV.nums).length = 3 * l.length
 | [] => rfl
 | a :: l => by have := nums_len l; simp only [List.flatMap_cons, List.length_append, List.length_cons]; rw [this]; simp [EvV.nums]; omega
abbrev IntI := { x : Int // InI x }
set_option maxRecDepth 100000 in
set_option maxHeartbeats 2000000 in
theorem numbers1_iter (bs : Nat) (r : RunV) (Kp : World → World → Prop) (w : World) (hok : r.ok w) (hrow : Row w bs 32 r.cells) (hl : r.evs.length ≤ 1000000)
 (hRun : ∀ A B, Kp A B → Row A bs 32 r.cells → Row B bs 32 r.cells) (hRd : ∀ A B, Kp A B → Rd A r.addr (r.evs.flatMap EvV.cells) → Rd B r.addr (r.evs.flatMap EvV.cells))
 (hSz : ∀ A B, Kp A B → A.heap.size ≤ B.heap.size) (hEv : ∀ A B k cs, w.heap.size ≤ k → Kp A B → Row A k 41 cs → Row B k 41 cs) :
 IterO Try.prog 108 #[.pointer (some ⟨bs, 0, none⟩)] (fun x : IntI => #[.int .i64 x.1]) (fun _ => False) Kp (fun xs => xs.map (·.1) = r.nums) (fun _ => True) (3 * r.evs.length + 2) w := by
 intro l J Jx W _ hwW hJ hJx hY h0
 have hbw : Below w.heap.size w W := ⟨hwW.os, hwW.tape, hwW.output, hwW.size, fun k hk => hwW.block k hk (by simp)⟩
 have hrW := hrow.below hbw hrow.lt
 have hdW := hok.reads.go hbw
 have Hok := Lib.hid hok
 have HRun := Lib.hid hRun
 have HRd := Lib.hid hRd
 have HEv := Lib.hid hEv
 have HSz := Lib.hid hSz
 have hsz := hbw.size
 have HJ := Lib.hid hJ
 have HY := Lib.hid hY
 have Hl := Lib.hid hl
 clear hrow hwW hok hRun hRd hEv hSz hJ hJx hY hbw hl
 have hc2 := hrW.cellv (i := 3) (v := .slice r.addr r.evs.length r.cap) rfl
 refine callsIn_of_wp Try.func108 rfl trivial ?_ rfl
 simp only [Try.ntmps108, List.size_toArray, List.length_cons, List.length_nil, Nat.reduceAdd, Nat.reduceSub, Array.replicate_succ, Array.replicate_zero, List.push_toArray, List.append_toArray, List.nil_append, List.cons_append]
 gi_wp2
 gi_loopw [8] (fun i wr => ∃ (k : Nat) (pre : List IntI), i = .int .i64 (k : Int) ∧ k ≤ r.evs.length ∧ Row wr bs 32 r.cells ∧ Rd wr r.addr (r.evs.flatMap EvV.cells) ∧ pre.map (·.1) = (r.evs.take k).flatMap EvV.nums ∧ w.heap.size ≤ wr.heap.size ∧ J pre wr) (fun i _ => r.evs.length - (intOf i).toNat)
 case atStart => exact ⟨0, [], by simp, Nat.zero_le _, hrW, hdW, by simp, hsz, h0⟩
 case round =>
  clear hrW hdW hc2 h0 hsz
  obtain ⟨k, pre, rfl, hk, hr, hd, hpre, hsz, hj⟩ := hrel
  have hpl : pre.length = 3 * k := by
   have := congrArg List.length hpre
   rw [List.length_map, nums_len, List.length_take] at this; omega
  have Hpre := Lib.hid hpre
  clear hpre
  by_cases hkn : k < r.evs.length
  · obtain ⟨e, he⟩ : ∃ e, r.evs[k]? = some e := ⟨_, List.getElem?_eq_getElem hkn⟩
    obtain ⟨ad, had, hce⟩ := hd.part (k * 3) e.cells (evcells_at r.evs k e he) (by simp [EvV.cells])
    have He := Lib.hid he
    have Hce := Lib.hid hce
    have hkn' : (k : Int) < (r.evs.length : Int) := by omega
    have hll := Hl.out
    clear he hce
    rw [had]
    have Had := Lib.hid had
    clear had
    have Hone : Hid (e.cells.toArray.all (·.oneCell') = true) := by show _ = true; simp [EvV.cells, Value.oneCell']
    gi_wp2_with (first
     | (refine wpListIn_load_at rfl 41 _ rfl (ad.add (k * 3)) rfl e.cells _ Hce.out Try.underlying41 rfl (by kernel_rfl) ?_)
     | (refine gi_at_store_ _ _ _ rfl ?_))
    refine Stop.to ?_
    refine wpListIn_store_row rfl 41 _ _ rfl wr.heap.size e.cells.toArray rfl rfl 41 _ (heap_alloc_new wr _) (by kernel_rfl) rfl Hone.out ?_
    rw [World.setRow_alloc_new]
    have rx := Row.new wr 41 e.cells.toArray
    have hr := hr.alloc (.cells e.cells.toArray 41)
    have hd := St.alloc (S := fun W => Rd W r.addr (r.evs.flatMap EvV.cells)) hd (.cells e.cells.toArray 41)
    have hj := HJ.out _ _ _ none hj (World.grownBy_alloc wr (.cells e.cells.toArray 41) none) (fun r e => by cases e)
    have hll2 : pre.length + 3 ≤ 3 * r.evs.length := by omega
    have Heok : Hid e.ok := Hok.out.evs e (List.mem_of_getElem? He.out)
    clear hpl
    have hsz2 : w.heap.size ≤ (wr.alloc (.cells e.cells.toArray 41)).heap.size := by simp; omega
    generalize wr.alloc (.cells e.cells.toArray 41) = w2 at rx hr hd hj hsz2 ⊢
    obtain ⟨gx, hgx⟩ : ∃ gx, gx = wr.heap.size := ⟨_, rfl⟩
    have lgx : w.heap.size ≤ gx := by omega
    rw [← hgx] at rx ⊢
    clear hgx hsz
    have c0 := rx.cellv (i := 0) (v := .int .i64 e.var) rfl
    obtain ⟨fn, tmps, assign, body, hy, hR⟩ := HY.out _ ⟨e.var, Heok.out.1⟩ w2 hj (by have := hll2; (try simp only [List.length_append, List.length_cons, List.length_nil]); omega)
    have HR := Lib.hid hR
    have Hj := Lib.hid hj
    clear hR hj
    gi_wp2
    refine ⟨rfl, HR.out.mono ?_⟩
    rintro e' w3 (⟨rfl, hj, hk⟩ | ⟨rfl, hjx⟩)
    rotate_left
    · clear hy c0
      gi_wp2
      refine ⟨fun _ h => (by cases h), ?_⟩
      gi_wp2
      refine bodyPost_ret (results_none rfl _ _ _) rfl ?_
      exact ⟨⟨_, rfl⟩, .inr ⟨_, trivial, hjx⟩⟩
    have rx := HEv.out _ _ _ _ lgx hk rx
    have hsz2 := Nat.le_trans hsz2 (HSz.out _ _ hk)
    have hr := HRun.out _ _ hk hr
    have hd := HRd.out _ _ hk hd
    clear hy c0 HR Hj
    have c1 := rx.cellv (i := 1) (v := .int .i64 e.at_) rfl
    obtain ⟨fn, tmps, assign, body, hy, hR⟩ := HY.out _ ⟨e.at_, Heok.out.2.1⟩ w3 hj (by have := hll2; (try simp only [List.length_append, List.length_cons, List.length_nil]); omega)
    have HR := Lib.hid hR
    have Hj := Lib.hid hj
    clear hR hj
    gi_wp2
    refine ⟨rfl, HR.out.mono ?_⟩
    rintro e' w4 (⟨rfl, hj, hk⟩ | ⟨rfl, hjx⟩)
    rotate_left
    · clear hy c1
      gi_wp2
      refine ⟨fun _ h => (by cases h), ?_⟩
      gi_wp2
      refine bodyPost_ret (results_none rfl _ _ _) rfl ?_
      exact ⟨⟨_, rfl⟩, .inr ⟨_, trivial, hjx⟩⟩
    have rx := HEv.out _ _ _ _ lgx hk rx
    have hsz2 := Nat.le_trans hsz2 (HSz.out _ _ hk)
    have hr := HRun.out _ _ hk hr
    have hd := HRd.out _ _ hk hd
    clear hy c1 HR Hj
    have c2 := rx.cellv (i := 2) (v := .int .i64 e.val) rfl
    obtain ⟨fn, tmps, assign, body, hy, hR⟩ := HY.out _ ⟨e.val, Heok.out.2.2⟩ w4 hj (by have := hll2; (try simp only [List.length_append, List.length_cons, List.length_nil]); omega)
    have HR := Lib.hid hR
    have Hj := Lib.hid hj
    clear hR hj
    gi_wp2
    refine ⟨rfl, HR.out.mono ?_⟩
    rintro e' w5 (⟨rfl, hj, hk⟩ | ⟨rfl, hjx⟩)
    rotate_left
    · clear hy c2
      gi_wp2
      refine bodyPost_ret (results_none rfl _ _ _) rfl ?_
      exact ⟨⟨_, rfl⟩, .inr ⟨_, trivial, hjx⟩⟩
    have rx := HEv.out _ _ _ _ lgx hk rx
    have hsz2 := Nat.le_trans hsz2 (HSz.out _ _ hk)
    have hr := HRun.out _ _ hk hr
    have hd := HRd.out _ _ hk hd
    clear hy c2 HR Hj
    gi_wp2
    go_roundw
    case rel =>
     refine ⟨k + 1, _, by go_num, by omega, hr, by have := hd; rw [Had.out] at this; exact this, ?_, hsz2, hj⟩
     rw [List.take_succ_eq_append_getElem hkn, List.flatMap_append]
     have hee : r.evs[k] = e := by have := He.out; rw [List.getElem?_eq_getElem hkn] at this; injection this
     rw [hee]
     simp [EvV.nums, Hpre.out]
    case measure => simp [intOf]; omega
  · obtain rfl : k = r.evs.length := by omega
    have c0 := hr.cellv (i := 0) (v := .int .i64 r.kind) rfl
    obtain ⟨fn, tmps, assign, body, hy, hR⟩ := HY.out _ ⟨r.kind, Hok.out.kind⟩ wr hj (by omega)
    have HR := Lib.hid hR
    have Hj := Lib.hid hj
    clear hR hj hkn
    gi_wp2
    refine ⟨rfl, HR.out.mono ?_⟩
    rintro e' w3 (⟨rfl, hj, hk⟩ | ⟨rfl, hjx⟩)
    rotate_left
    · clear hy c0
      gi_wp2
      go_end0
      exact ⟨⟨_, rfl⟩, .inr ⟨_, trivial, hjx⟩⟩
    have hr := HRun.out _ _ hk hr
    clear hy c0 HR Hj hd
    have c1 := hr.cellv (i := 1) (v := .int .i64 r.value) rfl
    obtain ⟨fn, tmps, assign, body, hy, hR⟩ := HY.out _ ⟨r.value, Hok.out.value⟩ w3 hj (by rw [List.length_append, List.length_singleton]; omega)
    have HR := Lib.hid hR
    have Hj := Lib.hid hj
    clear hR hj
    gi_wp2
    refine ⟨rfl, HR.out.mono ?_⟩
    rintro e' w4 (⟨rfl, hj, hk⟩ | ⟨rfl, hjx⟩)
    · clear hy c1
      gi_wp2
      go_end0
      exact ⟨⟨_, rfl⟩, .inl ⟨_, by have := Hpre.out; rw [List.take_length] at this; simp [RunV.nums, this], hj⟩⟩
    · clear hy c1
      gi_wp2
      go_end0
      exact ⟨⟨_, rfl⟩, .inr ⟨_, trivial, hjx⟩⟩
end Go.Proofs.Ytlglilmgklipdaa
