/- Lemmas for TraceSameP. -/
import Derived.Test.YtlglilmgklipdaaZt2
import Derived.Test.YtlglilmgklipdaaZt1
import Derived.Test.YtlglilmgklipdaaZt3
import Derived.Lib.ConvBytes
import Derived.Laws.Cover3
import Derived.Test.YtlglilmgklipdaaRows
import Derived.ChangeMaps4
namespace Go.Proofs.Ytlglilmgklipdaa
set_option linter.unusedVariables false
open Go.RowKit Go.Deep
attribute [local go_sem] Oper.semAt_some
abbrev Chunk := { l : List UInt8 // l.length = 64 }
def chunkOf (l : List UInt8) (h : 64 ≤ l.length) : Chunk := ⟨l.take 64, by simp; omega⟩
def chunks : Nat → List UInt8 → List Chunk
 | 0, _ => []
 | n + 1, l => if h : 64 ≤ l.length then chunkOf l h :: chunks n (l.drop 64) else []
def strAt (w : World) (b : Nat) : Nat := match w.cell? ⟨b, 0, none⟩ with | some (.string s) => s.size | _ => 0
theorem chunks_at : ∀ (n k : Nat) (l : List UInt8), k < n → 64 * (k + 1) ≤ l.length → ∃ c : Chunk, (chunks n l)[k]? = some c ∧ c.1 = (l.drop (64 * k)).take 64
 | 0, k, l, h, _ => by omega
 | n + 1, 0, l, _, h => by
  rw [chunks, dif_pos (by omega)]
  exact ⟨_, rfl, by simp [chunkOf]⟩
 | n + 1, k + 1, l, h, h2 => by
  rw [chunks, dif_pos (by omega)]
  obtain ⟨c, h3, h4⟩ := chunks_at n k (l.drop 64) (by omega) (by simp; omega)
  exact ⟨c, by simpa using h3, by rw [h4, List.drop_drop, Nat.mul_add, Nat.add_comm]⟩
theorem chunks_len : ∀ (n : Nat) (l : List UInt8), 64 * n ≤ l.length → (chunks n l).length = n
 | 0, l, _ => rfl
 | n + 1, l, h => by
  rw [chunks, dif_pos (by omega), List.length_cons, chunks_len n (l.drop 64) (by simp; omega)]
theorem chunks_take (l : List UInt8) (k : Nat) (x : Chunk) (hx : x.1 = (l.drop (64 * k)).take 64) (h : 64 * (k + 1) ≤ l.length) :
 (chunks (l.length / 64) l).take (k + 1) = (chunks (l.length / 64) l).take k ++ [x] := by
 obtain ⟨c, h3, h4⟩ := chunks_at (l.length / 64) k l (by omega) h
 have hl : k < (chunks (l.length / 64) l).length := (List.getElem?_eq_some_iff.1 h3).1
 rw [List.take_succ_eq_append_getElem hl]
 rw [List.getElem?_eq_getElem hl] at h3
 have : c = x := Subtype.ext (h4.trans hx.symm)
 rw [← this]
 injection h3 with h3
 rw [h3]
theorem bytesWorld_grown (w : World) (e : TypeId) (s : ByteArray) : w.grownBy (Lib.bytesWorld w e s) none :=
 ⟨rfl, rfl, rfl, by rw [Lib.bytesWorld_size]; omega, fun k hk _ => Lib.bytesWorld_at_old w e s k hk⟩
set_option maxHeartbeats 1000000 in
theorem blocks1_iter (bs : Nat) (s : List UInt8) (hs : s.length ≤ 2000000) (w : World) (hrow : Row w bs 9 #[.string ⟨s.toArray⟩]) :
 IterO Try.prog 109 #[.pointer (some ⟨bs, 0, none⟩)] (fun x : Chunk => #[.agg (u8s x.1).toArray]) (· = bs) (fun A B => B.heap[bs]? = A.heap[bs]? ∧ A.heap.size ≤ B.heap.size) (fun xs => xs = chunks (s.length / 64) s) (fun _ => True) (s.length / 64) w := by
 intro l J Jx W _ hwW hJ hJx hY h0
 refine callsIn_of_wp Try.func109 rfl trivial ?_ rfl
 simp only [Try.ntmps109, List.size_toArray, List.length_cons, List.length_nil, Nat.reduceAdd, Nat.reduceSub, Array.replicate_succ, Array.replicate_zero, List.push_toArray, List.append_toArray, List.nil_append, List.cons_append]
 gi_wp2
 have hrW : Row W bs 9 #[.string ⟨s.toArray⟩] := (hwW.block bs hrow.lt (by simp)).trans hrow
 clear hrow hwW
 gi_loopw [3] (fun _ wr => ∃ (k : Nat) (q : ByteArray), q.data.toList = s.drop (64 * k) ∧ 64 * k ≤ s.length ∧ Row wr bs 9 #[.string q] ∧ J ((chunks (s.length / 64) s).take k) wr) (fun _ wr => strAt wr bs)
 case atStart => exact ⟨0, ⟨s.toArray⟩, by simp, by omega, hrW, by simpa using h0⟩
 case round =>
  obtain ⟨k, q, hq, hk, hr, hj⟩ := hrel
  have hqs : q.size + 64 * k = s.length := by
   have := congrArg List.length hq
   simp at this; omega
  have Hq := Lib.hid hq
  have Hqs := Lib.hid hqs
  clear hq hqs
  have hc := hr.cellv (i := 0) (v := .string q) rfl
  have hf := hr.free 0
  by_cases h64 : 64 ≤ q.size
  · have hconv := fun w => Lib.run_convert_string_bytes (P := Try.prog) w 9 140 5 (q.extract 0 64) Try.underlying9 Try.underlying140 Try.underlying5
    have hsz : (q.extract 0 64).size = 64 := by simp; omega
    simp only [hsz] at hconv
    have Hsz := Lib.hid hsz
    have harr := fun w => run_arrayAt (P := Try.prog) w 121 5 64 (some ⟨wr.heap.size, 0, none⟩) 64 (grownCap wr 64 0 5) Try.underlying121 (Nat.le_refl _)
    clear hsz
    obtain ⟨x, hx⟩ : ∃ x : Chunk, x.1 = (q.extract 0 64).data.toList := ⟨⟨(q.extract 0 64).data.toList, by have := Hsz.out; simpa using this⟩, rfl⟩
    have hcells : ∀ j v, (u8s x.1)[j]? = some v → (Lib.bytesWorld wr 5 (q.extract 0 64)).cell? ⟨wr.heap.size, j, none⟩ = some v := by
     intro j v hv
     rw [u8s_getElem?, hx] at hv
     have hj : j < (q.extract 0 64).size := by
      rcases Nat.lt_or_ge j (q.extract 0 64).data.toList.length with h | h
      · simpa using h
      · rw [List.getElem?_eq_none h] at hv; cases hv
     rw [Lib.bytesWorld_cell _ _ _ j hj, ← hv, List.getD, List.getElem?_eq_getElem (by simpa using hj)]
     rfl
    have Hcells := Lib.hid hcells
    have Hx := Lib.hid hx
    have hg2 : wr.grownBy (Lib.bytesWorld wr 5 (q.extract 0 64)) none := bytesWorld_grown _ _ _
    have hj2 := hJ _ _ _ none hj hg2 (fun r e => by cases e)
    have hr2 : Row (Lib.bytesWorld wr 5 (q.extract 0 64)) bs 9 #[.string q] := (hg2.block bs hr.lt (by simp)).trans hr
    have hkl : k < s.length / 64 := by have := Hqs.out; omega
    obtain ⟨fn, tmps, assign, body, hy, hR⟩ := hY _ x _ hj2 (by rw [List.length_take]; omega)
    have Hhg2 := Lib.hid hg2
    have HR := Lib.hid hR
    have Hr2 := Lib.hid hr2
    clear hcells hx hg2 hj hr2 hr hR
    gi_wp2_with (refine wpListIn_load_head rfl 121 _ rfl wr.heap.size rfl (u8s x.1) _ Hcells.out Try.underlying121 rfl (by rw [u8s_length, x.2]; kernel_rfl) ?_)
    refine ⟨rfl, HR.out.mono ?_⟩
    rintro e W' (⟨rfl, hj3, hk3, hs3⟩ | ⟨rfl, hjx⟩)
    · have hr3 : Row W' bs 9 #[.string q] := hk3.trans Hr2.out
      have hc3 := hr3.cellv (i := 0) (v := .string q) rfl
      have hf3 := hr3.free 0
      have Hj3 := Lib.hid hj3
      clear hj3 hk3 hj2 hy hf hconv harr
      gi_wp2
      go_roundw
      case rel =>
       refine ⟨k + 1, q.extract 64 q.size, ?_, by have := Hqs.out; omega, hr3.set _ _, ?_⟩
       · have := Hq.out
         simp only [ByteArray.data_extract, Array.toList_extract, List.extract_eq_take_drop, this, List.drop_drop]
         rw [List.take_of_length_le (by simp; have := Hqs.out; omega), Nat.mul_add]
       · refine hJ _ _ _ (some bs) ?_ (grownBy_setCell' _ _ _) (fun r e => by cases e; exact .inl rfl)
         rw [chunks_take s k x (by rw [Hx.out]; simp [Hq.out]) (by have := Hqs.out; omega)]
         exact Hj3.out
      case measure =>
       have hrn := hr3.set 0 (.string (q.extract 64 q.size))
       have hrn2 := hrn.cell 0
       unfold strAt
       rw [hrn2, hc]
       simp; omega
    · clear hj2 hy hconv harr
      gi_wp2
      refine bodyPost_ret (results_none rfl _ _ _) rfl ?_
      exact ⟨⟨_, rfl⟩, .inr ⟨_, trivial, hjx⟩⟩
  · gi_wp2
    go_end0
    refine ⟨⟨_, rfl⟩, .inl ⟨_, rfl, ?_⟩⟩
    have hkk : k = s.length / 64 := by have := Hqs.out; omega
    rw [List.take_of_length_le (by rw [chunks_len _ _ (by omega)]; omega)] at hj
    exact hj
end Go.Proofs.Ytlglilmgklipdaa
namespace Go.Proofs.Ytlglilmgklipdaa
set_option linter.unusedVariables false
open Go.RowKit Go.Deep
def padB (R L k i : Nat) : UInt8 := if i = 0 then 128 else if i + k < L then 0 else UInt8.ofNat (R / 256 ^ (L - 1 - i))
def padL (R L k : Nat) : List UInt8 := (List.range L).map (padB R L k)
def padC (R L k : Nat) : Array Value := (u8s (padL R L k)).toArray
theorem padC_at (R L k i : Nat) : (padC R L k)[i]? = if i < L then some (.int .u8 ((padB R L k i).toNat : Int)) else none := by
 unfold padC padL
 simp only [List.getElem?_toArray, u8s_getElem?, List.getElem?_map]
 by_cases h : i < L <;> simp [h]
theorem padC_size (R L k : Nat) : (padC R L k).size = L := by simp [padC, padL, u8s]
theorem padC_step (R L k : Nat) (hk : k + 1 < L) : (padC R L k).setIfInBounds (L - 1 - k) (.int .u8 ((UInt8.ofNat (R / 256 ^ k)).toNat : Int)) = padC R L (k + 1) := by
 apply Array.ext_getElem?
 intro i
 rw [Array.getElem?_setIfInBounds, padC_at, padC_at, padC_size]
 by_cases hi : L - 1 - k = i
 · subst hi
   rw [if_pos rfl, if_pos (by omega), if_pos (by omega)]
   unfold padB
   rw [if_neg (by omega), if_neg (by omega), show L - 1 - (L - 1 - k) = k from by omega]
 · rw [if_neg hi]
   by_cases hL : i < L
   · rw [if_pos hL, if_pos hL]
     congr 4
     unfold padB
     by_cases h0 : i = 0
     · simp [h0]
     · rw [if_neg h0, if_neg h0]
       by_cases h1 : i + (k + 1) < L
       · rw [if_pos h1, if_pos (by omega)]
       · rw [if_neg h1, if_neg (by omega)]
   · rw [if_neg hL, if_neg hL]
theorem padC_start (R L : Nat) (cs : Array Value) (hs : cs.size = L) (h : ∀ i, i < L → cs[i]? = some (.int .u8 0)) : cs.setIfInBounds 0 (.int .u8 128) = padC R L 0 := by
 apply Array.ext_getElem?
 intro i
 rw [Array.getElem?_setIfInBounds, padC_at, hs]
 by_cases hi : 0 = i
 · subst hi
   rw [if_pos rfl]
   by_cases hL : 0 < L <;> simp [hL, padB]
 · rw [if_neg hi]
   by_cases hL : i < L
   · rw [if_pos hL, h i hL]
     unfold padB
     rw [if_neg (by omega), if_pos (by omega)]; rfl
   · rw [if_neg hL, Array.getElem?_eq_none (by omega)]
theorem made_at (z : Value) (n i : Nat) (h : i < n) : (madeCells #[z] n)[i]? = some z := by
 unfold madeCells
 simp [h, Nat.mod_one]
theorem u8_mod (q : Nat) : ((q : Int) % 256) = ((UInt8.ofNat q).toNat : Int) := by simp
theorem int_pred (L k : Nat) : (L : Int) - 1 - (k : Int) - 1 = (L : Int) - 1 - ((k + 1 : Nat) : Int) := by omega
theorem div_step (R k : Nat) : ((R / 256 ^ k : Nat) : Int) / 256 = ((R / 256 ^ (k + 1) : Nat) : Int) := by
 rw [Nat.pow_succ, ← Nat.div_div_eq_div_mul]; omega
def padN (n : Nat) : Nat := 72 - (n + 8) % 64
def padT (n : Nat) : List UInt8 := padL (n * 8 % 18446744073709551616) (padN n) 8
theorem padL_done (R L k : Nat) (hk : k ≤ 8) (h : R / 256 ^ k = 0) : padL R L k = padL R L 8 := by
 unfold padL
 apply List.map_congr_left
 intro i hi
 unfold padB
 by_cases h0 : i = 0
 · simp [h0]
 · rw [if_neg h0, if_neg h0]
   by_cases h1 : i + 8 < L
   · rw [if_pos (by omega), if_pos h1]
   · rw [if_neg h1]
     by_cases h2 : i + k < L
     · rw [if_pos h2]
       have : R / 256 ^ (L - 1 - i) = 0 := by
        have hp : 256 ^ k ≤ 256 ^ (L - 1 - i) := Nat.pow_le_pow_right (by omega) (by omega)
        rw [Nat.div_eq_zero_iff] at h ⊢
        rcases h with h | h
        · exact absurd h (Nat.pos_iff_ne_zero.1 (Nat.pow_pos (by omega)))
        · exact .inr (by omega)
       rw [this]; rfl
     · rw [if_neg h2]
set_option maxHeartbeats 400000 in
theorem pad_any (n : Int) (h0 : 0 ≤ n) (h1 : n ≤ 9223372036854775807) (w : World) :
 Calls Try.prog 74 #[.int .i64 n] w fun e w' => e = .returned (.string ⟨(padT n.toNat).toArray⟩) ∧ Below w.heap.size w w' := by
 obtain ⟨L, hL, hL9, hL72⟩ : ∃ L : Nat, 72 - (n + 8) % 64 = (L : Int) ∧ 9 ≤ L ∧ L ≤ 72 := ⟨(72 - (n + 8) % 64).toNat, by omega, by omega, by omega⟩
 obtain ⟨cs, hcs⟩ : ∃ cs, cs = madeCells #[Value.int .u8 0] L := ⟨_, rfl⟩
 have hmk := run_make_row' (P := Try.prog) 140 5 (.int .u8 0) 1 Try.underlying140 info_u8 rfl .i64 .i64 L (by omega) (by omega)
 have hat : ∀ i, i < L → cs[i]? = some (.int .u8 0) := fun i hi => by rw [hcs]; exact made_at _ _ _ hi
 have hsz := size_madeCells #[Value.int .u8 0] L
 rw [← hcs] at hmk hsz
 have hcs0 : cs[0]? = some (.int .u8 0) := hat 0 (by omega)
 obtain ⟨R, hR, hRlt⟩ : ∃ R : Nat, IntKind.u64.wrap (n * 8) = (R : Int) ∧ R < 18446744073709551616 := by
  rw [IntKind.wrap_u64]; exact ⟨((n * 8) % 18446744073709551616).toNat, by omega, by omega⟩
 have HRlt := Lib.hid hRlt
 have Hat := Lib.hid hat
 have Hsz := Lib.hid hsz
 have Hfin : Hid (padL R L 8 = padT n.toNat) := by
  unfold padT
  rw [show padN n.toNat = L from by unfold padN; omega, show n.toNat * 8 % 18446744073709551616 = R from by rw [IntKind.wrap_u64] at hR; omega]; rfl
 clear hcs hat hsz hRlt
 go_enter Try.func74, Try.ntmps74
 go_wp2
 go_loopw [4, 5] (fun i r wr => ∃ k : Nat, i = .int .i64 ((L : Int) - 1 - (k : Int)) ∧ r = .int .u64 ((R / 256 ^ k : Nat) : Int) ∧ k ≤ 8 ∧ Row wr w.heap.size 5 (padC R L k) ∧ Below w.heap.size w wr) (fun _ r _ => (intOf r).toNat)
 case atStart => exact ⟨0, by simp, by simp, by omega, by rw [← padC_start R L cs Hsz.out Hat.out]; exact Row.new _ _ _, (Below.refl _ _).alloc (Nat.le_refl _) _⟩
 case round =>
  obtain ⟨k, rfl, rfl, hk, hrow, hb⟩ := hrel
  by_cases hz : R / 256 ^ k = 0
  · have hconv := run_string_of_row (P := Try.prog) 140 9 5 5 Try.underlying140 Try.underlying5 Try.underlying9 (cap := L) hrow (padL R L k) (n := L) (by simp [padL]) (fun j hj => by simp [padC])
    rw [padL_done R L k hk hz, Hfin.out] at hconv
    have hz' : ((R / 256 ^ k : Nat) : Int) = 0 := by omega
    rw [hz']
    clear hz hz' Hfin
    go_wp2
    go_ret
    exact ⟨rfl, hb⟩
  · have hk8 : k < 8 := by
     rcases Nat.lt_or_ge k 8 with h | h
     · exact h
     · obtain rfl : k = 8 := by omega
       exact absurd (Nat.div_eq_of_lt HRlt.out) hz
    have hpos : 0 < R / 256 ^ k := Nat.pos_of_ne_zero hz
    obtain ⟨q, hq⟩ : ∃ q, q = R / 256 ^ k := ⟨_, rfl⟩
    rw [← hq] at hz hpos ⊢
    have Hq := Lib.hid hq
    clear hq
    have hc := hrow.cellv (i := L - 1 - k) (v := .int .u8 ((padB R L k (L - 1 - k)).toNat : Int)) (by rw [padC_at, if_pos (by omega)])
    have hf := hrow.free (L - 1 - k)
    go_wp2
    go_roundw
    case rel => exact ⟨k + 1, by rw [int_pred], by rw [← div_step, Hq.out], by omega, by rw [← padC_step R L k (by omega), u8_mod, Hq.out]; exact hrow.set _ _, hb.setCell (p := ⟨w.heap.size, L - 1 - k, none⟩) (Nat.le_refl _) _⟩
    case measure => simp [intOf]; omega
end Go.Proofs.Ytlglilmgklipdaa
namespace Go.Proofs.Ytlglilmgklipdaa
set_option linter.unusedVariables false
open Go.RowKit Go.Deep
attribute [local go_sem] Oper.semAt_some
theorem shaBlocks_any (s : ByteArray) (w : World) :
 Calls Try.prog 73 #[.string s] w fun e w' => e = .returned (.func (.func 109) #[] #[.pointer (some ⟨w.heap.size, 0, none⟩)]) ∧ w.alloc (.cells #[.string s] 9) = w' := by
 go_enter Try.func73, Try.ntmps73
 go_wp2
 go_ret
 exact ⟨rfl, rfl⟩
def hashFold (H : List (BitVec 32)) (l : List Chunk) : List (BitVec 32) := l.foldl (fun H c => blockL H c.1) H
def sumL (s : List UInt8) : List UInt8 := bytesL (hashFold startL (chunks ((s ++ padT s.length).length / 64) (s ++ padT s.length)))
theorem hashFold_len : ∀ (l : List Chunk) (H : List (BitVec 32)), H.length = 8 → (hashFold H l).length = 8
 | [], _, h => h
 | _ :: l, _, h => hashFold_len l _ (addTo_len _ _ h 8)
theorem padT_len (n : Nat) : (padT n).length = padN n := by simp [padT, padL]
theorem padN_bd (n : Nat) : 9 ≤ padN n ∧ padN n ≤ 72 := by unfold padN; omega
set_option maxHeartbeats 2000000 in
theorem sum_any (s : ByteArray) (hs : s.size ≤ 1000000) (w : World) :
 Calls Try.prog 48 #[.string s] w fun e w' => e = .returned (.string ⟨(sumL s.data.toList).toArray⟩) ∧ Below w.heap.size w w' := by
 refine (callsIn_wide (n := 0)).1 ?_
 refine callsIn_of_wp_marks Try.func48 rfl trivial ?_
 simp only [Try.ntmps48, List.size_toArray, List.length_cons, List.length_nil, Nat.reduceAdd, Nat.reduceSub, Array.replicate_succ, Array.replicate_zero, List.push_toArray, List.append_toArray, List.nil_append, List.cons_append]
 gi_wp2_with fail
 refine ⟨trivial, rfl, (callsIn_wide.2 (start_any w)).mono ?_⟩
 rintro e w1 ⟨rfl, b1⟩
 gi_wp2_with (refine wpListIn_store_row rfl 115 _ _ rfl w1.heap.size (wds startL).toArray rfl rfl 115 _ (heap_alloc_new w1 _) (by kernel_rfl) rfl (wds_one _) ?_; rw [World.setRow_alloc_new])
 have rh := Row.new w1 115 (wds startL).toArray
 have b2 := b1.alloc b1.size (.cells (wds startL).toArray 115)
 have g1 := b1.size
 obtain ⟨G, hG⟩ : ∃ G, G = w1.heap.size := ⟨_, rfl⟩
 rw [← hG] at rh g1 ⊢
 clear hG
 have lh := rh.lt
 generalize w1.alloc (.cells (wds startL).toArray 115) = w2 at rh b2 lh ⊢
 clear b1
 refine ⟨trivial, rfl, (callsIn_wide.2 (pad_any (s.size : Int) (by omega) (by omega) w2)).mono ?_⟩
 rw [Int.toNat_natCast]
 rintro e w3 ⟨rfl, b3⟩
 have rh3 := rh.below b3 lh
 have b3' := b2.trans (b3.mono b2.size)
 have l3 := b3.size
 clear b3 b2 rh
 have hpl : (padT s.size).length ≤ 72 := by rw [padT_len]; exact (padN_bd _).2
 gi_wp2_with fail
 have hq : (s ++ (⟨(padT s.size).toArray⟩ : ByteArray)).data.toList = s.data.toList ++ padT s.data.toList.length := by simp
 have hqs : (s ++ (⟨(padT s.size).toArray⟩ : ByteArray)).size ≤ 1000072 := by rw [ByteArray.size_append, size_mk (padT s.size)]; omega
 generalize (s ++ (⟨(padT s.size).toArray⟩ : ByteArray)) = q at hq hqs ⊢
 have Hq := Lib.hid hq
 clear hq hpl
 refine ⟨trivial, rfl, (callsIn_wide.2 (shaBlocks_any q w3)).mono ?_⟩
 rintro e w4 ⟨rfl, hw4⟩
 have rb := Row.new w3 9 #[.string q]
 have rh4 := rh3.alloc (.cells #[.string q] 9)
 have b4 := b3'.alloc b3'.size (.cells #[.string q] 9)
 have g4 : G < w3.heap.size := rh3.lt
 have gs4 : (w3.alloc (.cells #[.string q] 9)).heap.size = w3.heap.size + 1 := by simp
 rw [hw4] at rb rh4 b4 gs4
 obtain ⟨Bs, hBs⟩ : ∃ Bs, Bs = w3.heap.size := ⟨_, rfl⟩
 rw [← hBs] at rb g4 gs4 ⊢
 clear hBs hw4 rh3 b3' l3 lh
 have gB : w.heap.size ≤ Bs := by omega
 have hlen : q.data.toList.length ≤ 2000000 := by simp; omega
 have Hseq := Lib.hid (blocks1_iter Bs q.data.toList hlen w4 rb)
 gi_wp2
 refine rangeO (gf := 109) (lb := #[.pointer (some ⟨Bs, 0, none⟩)]) rfl (enters_of Try.func109 (by kernel_rfl) rfl) Hseq.out (fun r h => by subst h; omega)
  (fun h k => ⟨k.1.trans h.1, Nat.le_trans h.2 k.2⟩) (fun W l o o' hl ho hc => ⟨by rw [World.putObj_heap_other (by omega)], by simp⟩) (World.grownBy.refl _ _) (fun _ => rfl)
  (fun pre W => Row W G 115 (wds (hashFold startL pre)).toArray ∧ Below w.heap.size w W ∧ Bs < W.heap.size) (fun _ _ _ => False) ?hI ?hIx ⟨rh4, b4, by omega⟩
  (fun x a' W => ∃ Bx, Bs < Bx ∧ Row W Bx 121 (u8s x.1).toArray ∧ a' = { tmps := #[.string s, undef, .string ⟨#[]⟩, .pointer (some ⟨G, 0, none⟩), .pointer (some ⟨Bx, 0, none⟩), undef, .agg (wds startL).toArray, .string s, .string s, .int .i64 s.size, .string ⟨(padT s.size).toArray⟩, .string q, .func (.func 109) #[] #[.pointer (some ⟨Bs, 0, none⟩)], .agg (u8s x.1).toArray, undef, undef, undef, undef, undef, undef, undef], defers := [] }) ?hAx ?assign ?body ?done ?stop
 case hI =>
  intro pre A B row hs hg hr
  refine ⟨(hg.block G hs.1.lt (fun e => ?_)).trans hs.1, hs.2.1.grown hg hs.2.1.size (fun k hk => ?_), Nat.lt_of_lt_of_le hs.2.2 hg.size⟩
  · rcases hr _ e.symm with h | ⟨h, _⟩ <;> omega
  · rcases hr _ hk with h | ⟨h, _⟩ <;> omega
 case hIx => exact fun _ _ _ _ _ h _ _ => h
 case hAx =>
  rintro x a' _ A B row ⟨Bx, h1, h2, h3⟩ hg hr
  refine ⟨Bx, h1, (hg.block Bx h2.lt (fun e => ?_)).trans h2, h3⟩
  rcases hr _ e.symm with h | ⟨_, o, ho, hc⟩
  · omega
  · rw [h2] at ho; cases ho; cases hc
 case assign =>
  rintro l pre x W K ⟨hr, hb, hlt⟩ hK
  have hx : (u8s x.1).toArray.size = 64 := u8s_size _ x.2
  have Hx := Lib.hid hx
  clear hx
  have HK := Lib.hid hK
  clear hK
  gi_wp2_with (refine wpListIn_store_row rfl 121 _ _ rfl W.heap.size (u8s x.1).toArray rfl rfl 121 _ (heap_alloc_new W _) (by rw [Hx.out]; kernel_rfl) (by rw [Hx.out]; rfl) (u8s_one _) ?_; rw [World.setRow_alloc_new])
  exact HK.out _ _ (KeepsFrom.alloc _ _ _) ⟨Below.heap_alloc _ _ _ hlt, by simp⟩ ⟨hr.alloc _, hb.alloc hb.size _, by simp; omega⟩ ⟨_, hlt, Row.new _ _ _, rfl⟩
 case body =>
  rintro l pre x a' W hl _ ⟨hr, hb, hlt⟩ ⟨Bx, hBx, hrx, rfl⟩ _
  have hx : (u8s x.1).toArray.size = 64 := u8s_size _ x.2
  obtain ⟨H, hH⟩ : ∃ H, H = hashFold startL pre := ⟨_, rfl⟩
  have hHl : H.length = 8 := by rw [hH]; exact hashFold_len _ _ rfl
  rw [← hH] at hr
  have Hx := Lib.hid hx
  have HH := Lib.hid hH
  have HHl := Lib.hid hHl
  clear hx hH hHl
  gi_wp2_with (first
   | (refine wpListIn_load_row rfl 115 _ rfl G rfl 115 (wds H).toArray (0, 0) _ hr Try.underlying115 rfl (by rw [wds_size _ HHl.out]; kernel_rfl) ?_)
   | (refine wpListIn_load_row rfl 121 _ rfl Bx rfl 121 (u8s x.1).toArray (0, 0) _ hrx Try.underlying121 rfl (by rw [Hx.out]; kernel_rfl) ?_))
  refine ⟨trivial, rfl, (CallsIn.inRound l (callsIn_wide.2 (block_any H HHl.out x.1 x.2 W))).mono ?_⟩
  rintro e W2 ⟨rfl, hb2⟩
  have hr2 := hr.below hb2 hr.lt
  have hn : (blockL H x.1).length = 8 := addTo_len _ _ HHl.out 8
  have Hn := Lib.hid hn
  clear hn
  gi_wp2_with (refine wpListIn_store_row rfl 115 _ _ rfl G (wds (blockL H x.1)).toArray rfl rfl 115 _ hr2 (by rw [wds_size _ Hn.out]; kernel_rfl) (by rw [wds_size _ Hn.out, wds_size _ HHl.out]) (wds_one _) ?_)
  refine ⟨(KeepsFrom.of_below hb2).trans (KeepsFrom.setRow hr2 _), ⟨(setRow_other _ _ _ _ (by omega)).trans (hb2.block _ hlt), Nat.le_trans hb2.size (by simp [World.setRow])⟩, ?_, ?_, ?_⟩
  · have := hr2.setRow (wds (blockL H x.1)).toArray
    have e : blockL H x.1 = hashFold startL (pre ++ [x]) := by rw [HH.out, hashFold, hashFold, List.foldl_append]; rfl
    rw [e] at this
    rw [e]; exact this
  · exact below_setRow_ (hb.trans (hb2.mono hb.size)) g1 _
  · have := hb2.size; simp [World.setRow]; omega
 case stop => exact fun D c pre W _ _ h _ => h.elim
 case done =>
  rintro D ys W hD rfl ⟨hr, hb, _⟩ hK
  obtain ⟨H, hH⟩ : ∃ H, H = hashFold startL (chunks (q.data.toList.length / 64) q.data.toList) := ⟨_, rfl⟩
  have hHl : H.length = 8 := by rw [hH]; exact hashFold_len _ _ rfl
  have hfin : bytesL H = sumL s.data.toList := by rw [hH, Hq.out]; rfl
  rw [← hH] at hr
  have HHl := Lib.hid hHl
  have Hfin := Lib.hid hfin
  have HK := Lib.hid hK
  clear hH hHl hfin hK
  gi_wp2_with (refine wpListIn_load_row rfl 115 _ rfl G rfl 115 (wds H).toArray (0, 0) _ hr Try.underlying115 rfl (by rw [wds_size _ HHl.out]; kernel_rfl) ?_)
  refine ⟨trivial, rfl, (callsIn_wide.2 (bytes_any H HHl.out W)).mono ?_⟩
  rintro e W5 ⟨rfl, hb5⟩
  have hK5 : W5.heap[D]? = some (.deferred (some [])) := (hb5.block D (Array.getElem?_eq_some_iff.1 HK.out).1).trans HK.out
  rw [Hfin.out]
  have HK5 := Lib.hid hK5
  clear hK5 HK hr
  gi_wp2
  refine ⟨by simp, .inl ⟨_, _, rfl, run_takeDeferred HK5.out, ?_⟩⟩
  exact ⟨_, results_tmp rfl _ _ _, rfl, (hb.trans (hb5.mono hb.size)).grown (grownBy_putObj' _ _ _) (Nat.le_trans hb.size hb5.size) (fun k e => by cases e; omega)⟩
end Go.Proofs.Ytlglilmgklipdaa
namespace Go.Proofs.Ytlglilmgklipdaa
set_option linter.unusedVariables false
open Go.RowKit Go.Deep
def part (l : List UInt8) (n j : Nat) : List UInt8 := l.take j ++ List.replicate (n - j) 0
end Go.Proofs.Ytlglilmgklipdaa
namespace Go.Proofs.Ytlglilmgklipdaa
set_option linter.unusedVariables false
open Go.RowKit Go.Deep
def digL (r : RunV) : List UInt8 := sumL (traceL r.kind r.value r.evs)
set_option maxHeartbeats 1000000 in
theorem trDigest_any (r : RunV) (w : World) (hok : r.ok w) (hl : r.evs.length ≤ 10000) :
 Calls Try.prog 31 #[r.val] w fun e w' => e = .returned (.string ⟨(digL r).toArray⟩) ∧ Below w.heap.size w w' := by
 have Hok := Lib.hid hok
 have Hl := Lib.hid hl
 clear hok hl
 go_enter Try.func31, Try.ntmps31
 rw [show r.val = .agg r.cells from rfl]
 go_wp2_with (refine at_box _ _ rfl ?_)
 refine Stop.to ?_
 refine wpList_box_gen rfl 32 _ rfl r.cells rfl ?_
 intro G w1 hG r1 b1
 have b1 := (Below.refl w.heap.size w).trans (b1.mono hG)
 have hok1 : r.ok w1 := ⟨Hok.out.kind, Hok.out.value, Hok.out.steps, Hok.out.len, Hok.out.cap, Hok.out.nil, Hok.out.reads.go b1, Hok.out.evs⟩
 have Hok1 := Lib.hid hok1
 clear hok1
 go_wp2_with (refine wpList_load_row rfl 32 _ rfl G rfl 32 r.cells (0, 0) _ r1 Try.underlying32 rfl (by kernel_rfl) ?_)
 refine (trBytes_any r w1 Hok1.out (by have := Hl.out; omega)).mono ?_
 rintro e w2 ⟨rfl, b2⟩
 have b2 := b1.trans (b2.mono b1.size)
 go_wp2_with fail
 refine (sum_any ⟨(traceL r.kind r.value r.evs).toArray⟩ (by rw [size_mk]; have := traceL_len r.kind r.value r.evs; have := Hl.out; omega) w2).mono ?_
 rintro e w3 ⟨rfl, b3⟩
 go_wp2_with fail
 go_ret
 exact ⟨rfl, b2.trans (b3.mono b2.size)⟩
theorem sumL_len (l : List UInt8) : (sumL l).length = 32 := by
 rw [sumL, bytesL_len, hashFold_len _ _ rfl]
theorem RunV.ok.ok_go {r : RunV} {w w' : World} (h : r.ok w) (b : Below w.heap.size w w') : r.ok w' :=
 ⟨h.kind, h.value, h.steps, h.len, h.cap, h.nil, h.reads.go b, h.evs⟩
instance St.runok {r : RunV} : St (fun W => r.ok W) := ⟨fun h b => h.ok_go b⟩
def run3 : RunV := { kind := 0, value := 3, steps := 7, addr := none, cap := 0, evs := [] }
theorem InI_03 : InI 0 ∧ InI 3 ∧ InI 7 := by unfold InI; omega
theorem run3_ok (w : World) : run3.ok w := ⟨InI_03.1, InI_03.2.1, InI_03.2.2, Nat.le_refl _, by decide, fun _ => rfl, Rd.nil _ _, fun _ h => by simp [run3] at h⟩
theorem run3_bytes : traceL 0 3 [] = [0, 0, 6] := by decide
theorem zero_run {w : World} : (zeroValue 32).run Try.prog w = .ok (.agg #[.int .i64 0, .int .i64 0, .int .i64 0, .slice none 0 0]) w := by kernel_rfl
def run3C : Array Value := #[.int .i64 0, .int .i64 3, .int .i64 7, .slice none 0 0]
def dig3 : List UInt8 := sumL [0, 0, 6]
theorem bytes3 (w : World) : Calls Try.prog 47 #[.agg run3C] w fun e w' => e = .returned (.string ⟨#[0, 0, 6]⟩) ∧ Below w.heap.size w w' := by
 have h := trBytes_any run3 w (run3_ok w) (Nat.zero_le _)
 rwa [show traceL run3.kind run3.value run3.evs = [0, 0, 6] from run3_bytes] at h
theorem digest3 (w : World) : Calls Try.prog 31 #[.agg run3C] w fun e w' => e = .returned (.string ⟨dig3.toArray⟩) ∧ Below w.heap.size w w' := by
 have h := trDigest_any run3 w (run3_ok w) (Nat.zero_le _)
 rwa [show digL run3 = dig3 from by unfold digL; rw [show traceL run3.kind run3.value run3.evs = [0, 0, 6] from run3_bytes]; rfl] at h
theorem sum3 (w : World) : Calls Try.prog 48 #[.string ⟨#[0, 0, 6]⟩] w fun e w' => e = .returned (.string ⟨dig3.toArray⟩) ∧ Below w.heap.size w w' := sum_any ⟨#[0, 0, 6]⟩ (by decide) w
set_option maxHeartbeats 2000000 in
theorem trWorks_any (w : World) : Calls Try.prog 29 #[] w fun e w' => e = .returned (.bool true) ∧ Below w.heap.size w w' := by
 go_enter Try.func29, Try.ntmps29
 go_wp2_with (refine at_alloc _ rfl ?_)
 refine Stop.to ?_
 refine wpList_alloc_gen rfl 32 rfl _ _ zero_run rfl ?_
 intro g w1 hg r1 b1
 go_wp2_with (refine at_store _ _ _ rfl ?_)
 refine Stop.to ?_
 refine wpList_store_gen rfl 32 _ _ rfl g run3C rfl rfl 32 _ r1 (by kernel_rfl) rfl (by kernel_rfl) ?_
 intro w2 r2 o2
 have b2 := ((Below.refl w.heap.size w).trans (b1.mono hg)).trans (o2.below hg)
 have lg := r2.lt
 clear o2 r1 b1
 go_wp2_with (refine wpList_load_row rfl 32 _ rfl g rfl 32 run3C (0, 0) _ r2 Try.underlying32 rfl (by kernel_rfl) ?_)
 refine (bytes3 w2).mono ?_
 rintro e w3 ⟨rfl, b3⟩
 have r3 := r2.below b3 r2.lt
 have b3 := b2.trans (b3.mono b2.size)
 clear r2 b2
 go_wp2_with (refine wpList_load_rowG rfl 32 _ rfl g rfl 32 run3C (0, 0) _ r3 Try.underlying32 rfl (by kernel_rfl) ?_)
 refine (digest3 w3).mono ?_
 rintro e w4 ⟨rfl, b4⟩
 have r4 := r3.below b4 r3.lt
 have b4 := b3.trans (b4.mono b3.size)
 clear r3 b3
 go_wp2_with fail
 refine (sum3 w4).mono ?_
 rintro e w5 ⟨rfl, b5⟩
 have r5 := r4.below b5 r4.lt
 have b5 := b4.trans (b5.mono b4.size)
 clear r4 b4
 go_wp2_with (refine wpList_load_rowG rfl 32 _ rfl g rfl 32 run3C (0, 0) _ r5 Try.underlying32 rfl (by kernel_rfl) ?_)
 refine (digest3 w5).mono ?_
 rintro e w6 ⟨rfl, b6⟩
 have b6 := b5.trans (b6.mono b5.size)
 have hlen : (⟨dig3.toArray⟩ : ByteArray).size = 32 := by rw [size_mk]; exact sumL_len _
 have hlen' : dig3.length = 32 := sumL_len _
 clear r5 b5
 go_wp2_with fail
 go_ret
 exact ⟨rfl, b6⟩
end Go.Proofs.Ytlglilmgklipdaa
namespace Go.Proofs.Ytlglilmgklipdaa
set_option linter.unusedVariables false
open Go.RowKit Go.Deep
def MapB (w : World) (r : Nat) (es : List (Int × Value)) : Prop := ∃ (arr : Array MapEntry) (clock : Nat), w.heap[r]? = some (.map arr clock) ∧ arr.toList.map (fun e => (e.key, e.val)) = es.map (fun p => (Value.int .i64 p.1, p.2))
def assoc (k : Int) : List (Int × Value) → Option Value
 | [] => none
 | (k', v) :: es => if k = k' then some v else assoc k es
theorem MapB.lt {w : World} {r : Nat} {es : List (Int × Value)} (h : MapB w r es) : r < w.heap.size := by
 obtain ⟨arr, clock, he, _⟩ := h
 exact (Array.getElem?_eq_some_iff.1 he).1
theorem MapB.below {w w' : World} {r B : Nat} {es : List (Int × Value)} (h : MapB w r es) (b : Below B w w') (hr : r < B) : MapB w' r es := by
 obtain ⟨arr, clock, he, hm⟩ := h
 exact ⟨arr, clock, (b.block r hr).trans he, hm⟩
instance St.mapB {r : Nat} {es : List (Int × Value)} : St (fun W => MapB W r es) := ⟨fun h b => h.below b h.lt⟩
theorem findNow_int (k : Int) : ∀ (l : List MapEntry) (es : List (Int × Value)) (i : Nat), l.map (fun e => (e.key, e.val)) = es.map (fun p => (Value.int .i64 p.1, p.2)) →
 (match assoc k es with | some v => ∃ j, Instr.findNow (.int .i64) (.int .i64 k) l i = some (some (j, v)) | none => Instr.findNow (.int .i64) (.int .i64 k) l i = some none)
 | [], es, i, h => by
  have : es = [] := by simpa using h.symm
  subst this; rfl
 | e :: l, [], i, h => by simp at h
 | e :: l, (k', v) :: es, i, h => by
  simp only [List.map_cons, List.cons.injEq, Prod.mk.injEq] at h
  obtain ⟨⟨h1, h2⟩, h3⟩ := h
  have ih := findNow_int k l es (i + 1) h3
  have e1 : Instr.findNow (.int .i64) (.int .i64 k) (e :: l) i = match Instr.sameNow (.int .i64) (.int .i64 k) e.key with | some true => some (some (i, e.val)) | some false => Instr.findNow (.int .i64) (.int .i64 k) l (i + 1) | none => none := rfl
  rw [e1, h1]
  have e2 : Instr.sameNow (.int .i64) (.int .i64 k) (.int .i64 k') = some (k == k') := rfl
  rw [e2, assoc]
  by_cases hk : k = k'
  · rw [if_pos hk]
    refine ⟨i, ?_⟩
    rw [show (k == k') = true by simpa using hk, h2]
  · rw [if_neg hk, show (k == k') = false by simpa using hk]
    exact ih
section
variable {P : Program} {w : World} {t kt et : TypeId} {r : Nat} {es : List (Int × Value)}
theorem run_checkKey_int {b : Bool} {k : Int} (hk : P.underlying kt = some (.int .i64)) : (Instr.checkKey b 10000 kt (.int .i64 k)).run P w = .ok () w := by
 show (Instr.checkKey b (9999 + 1) kt (.int .i64 k)).run P w = .ok () w
 rw [Instr.checkKey]
 simp [run_underlying hk]
theorem run_lookup_map (ht : P.underlying t = some (.map kt et)) (hk : P.underlying kt = some (.int .i64)) (h : MapB w r es) (k : Int) {z : Value} (hz : (zeroValue et).run P w = .ok z w) :
 (Instr.lookup t (.map (some r)) (.int .i64 k) false).run P w = .ok ((assoc k es).getD z) w := by
 obtain ⟨arr, clock, he, hm⟩ := h
 have hf := findNow_int k arr.toList es 0 hm
 unfold Instr.lookup Instr.findKey
 cases ha : assoc k es with
 | some v =>
  rw [ha] at hf
  obtain ⟨j, hj⟩ := hf
  simp [run_underlying ht, run_underlying hk, run_checkKey_int hk, MapKept.run_getObj_map he, hj]
 | none =>
  rw [ha] at hf
  simp only at hf
  simp [run_underlying ht, run_underlying hk, run_checkKey_int hk, MapKept.run_getObj_map he, hf, hz]
theorem run_insert_map (ht : P.underlying t = some (.map kt et)) (hk : P.underlying kt = some (.int .i64)) (h : MapB w r es) (k : Int) (v : Value) (hn : assoc k es = none) :
 ∃ w', (Instr.mapUpdate t (.map (some r)) (.int .i64 k) v).run P w = .ok () w' ∧ MapB w' r (es ++ [(k, v)]) ∧ Only r w w' := by
 obtain ⟨arr, clock, he, hm⟩ := h
 have hf := findNow_int k arr.toList es 0 hm
 rw [hn] at hf
 simp only at hf
 have hlt : r < w.heap.size := (Array.getElem?_eq_some_iff.1 he).1
 refine ⟨{ w with heap := w.heap.setIfInBounds r (.map (arr.push { key := .int .i64 k, val := v, born := clock }) (clock + 1)) }, ?_, ⟨arr.push { key := .int .i64 k, val := v, born := clock }, clock + 1, ?_, ?_⟩, ⟨rfl, rfl, rfl, by simp, fun j hj => ?_⟩⟩
 · unfold Instr.mapUpdate Instr.findKey
   simp [run_underlying ht, run_underlying hk, run_checkKey_int hk, MapKept.run_getObj_map he, hf, MapKept.run_setObj_map _ he]
 · simp [hlt]
 · simp [hm]
 · simp [Array.getElem?_setIfInBounds]; intro e; exact absurd e.symm hj
theorem MapB.new (w : World) : MapB (w.alloc (.map #[] 0)) w.heap.size [] := ⟨#[], 0, heap_alloc_new w _, rfl⟩
end
section
variable {P : Program} {ops : Array Oper} {rest : List Oper} {o : Oper} {a : Act} {w : World} {Q : Exit → Act → World → Prop} {t kt et : TypeId} {r : Nat} {es : List (Int × Value)}
theorem run_exec_insert {ρ : Operand → Value} {m x y : Operand} (ho : o.op = .insert t m x y ∨ o.op = .mapUpdate t m x y) {k v : Value} {r : Value} (hm : ρ m = r) (hx : ρ x = k) (hy : ρ y = v) {w' : World} (h : (Instr.mapUpdate t r k v).run P w = .ok () w') : (execOp ρ o).run P w = .ok .skip w' := by
 rcases ho with ho | ho <;> simp [execOp, ho, hm, hx, hy, h]
theorem wpList_insert_map (hgd : o.guard = none) (m x y : Operand) (ho : o.op = .insert t m x y ∨ o.op = .mapUpdate t m x y) (ht : P.underlying t = some (.map kt et)) (hk : P.underlying kt = some (.int .i64)) (hb : MapB w r es) (hm : a.eval m = .map (some r)) (k : Int) (v : Value) (hx : a.eval x = .int .i64 k) (hy : a.eval y = v) (hn : assoc k es = none)
 (h : ∀ w', MapB w' r (es ++ [(k, v)]) → Only r w w' → wpList P ops Q rest (a.put o.dst undef) w') : wpList P ops Q (o :: rest) a w :=
 wpList_plain hgd fun _ hK => by
  obtain ⟨w', h1, h2, h3⟩ := run_insert_map ht hk hb k v hn
  unfold Oper.wp
  rw [run_exec_insert ho hm hx hy h1]
  exact hK _ _ (h w' h2 h3)
theorem wpList_lookup_map (hgd : o.guard = none) (m x : Operand) (ho : o.op = .lookup t m x false) (ht : P.underlying t = some (.map kt et)) (hk : P.underlying kt = some (.int .i64)) (hb : MapB w r es) (hm : a.eval m = .map (some r)) (k : Int) (hx : a.eval x = .int .i64 k) {z : Value} (hz : (zeroValue et).run P w = .ok z w)
 (h : wpList P ops Q rest (a.put o.dst ((assoc k es).getD z)) w) : wpList P ops Q (o :: rest) a w :=
 wpList_val hgd _ (by simp only [execOp, ho, hm, hx, Sem.run_bind, run_lookup_map ht hk hb k hz, Result.andThen_ok, Sem.run_pure]) h
end
end Go.Proofs.Ytlglilmgklipdaa
