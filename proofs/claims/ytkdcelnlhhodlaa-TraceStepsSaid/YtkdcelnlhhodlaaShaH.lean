/- Walks over package sha: blocks, and the function that it hands back. -/
import Derived.Test.YtkdcelnlhhodlaaDump
import Derived.Test.YtkdcelnlhhodlaaIter
import Derived.Lib.ConvBytes
import Derived.Laws.Cover3
namespace Go.Proofs.Ytkdcelnlhhodlaa
open Go.RowKit Go.Deep
attribute [local go_sem] Oper.semAt_some

abbrev Chunk := { l : List UInt8 // l.length = 64 }
def chunkOf (l : List UInt8) (h : 64 ≤ l.length) : Chunk := ⟨l.take 64, by simp; omega⟩
def chunks : Nat → List UInt8 → List Chunk
  | 0, _ => []
  | n + 1, l => if h : 64 ≤ l.length then chunkOf l h :: chunks n (l.drop 64) else []
def strAt (w : World) (b : Nat) : Nat := match w.cell? ⟨b, 0, none⟩ with | some (.string s) => s.size | _ => 0

theorem chunks_at : ∀ (n k : Nat) (l : List UInt8), k < n → 64 * (k + 1) ≤ l.length → ∃ c : Chunk, (chunks n l)[k]? = some c ∧ c.1 = (l.drop (64 * k)).take 64
  | 0, k, l, h, _ => by omega
  | n + 1, 0, l, _, h => by
    rw [chunks, dif_pos (by omega)]
    exact ⟨_, rfl, by simp [chunkOf]⟩
  | n + 1, k + 1, l, h, h2 => by
    rw [chunks, dif_pos (by omega)]
    obtain ⟨c, h3, h4⟩ := chunks_at n k (l.drop 64) (by omega) (by simp; omega)
    exact ⟨c, by simpa using h3, by rw [h4, List.drop_drop, Nat.mul_add, Nat.add_comm]⟩
theorem chunks_len : ∀ (n : Nat) (l : List UInt8), 64 * n ≤ l.length → (chunks n l).length = n
  | 0, l, _ => rfl
  | n + 1, l, h => by
    rw [chunks, dif_pos (by omega), List.length_cons, chunks_len n (l.drop 64) (by simp; omega)]
theorem chunks_take (l : List UInt8) (k : Nat) (x : Chunk) (hx : x.1 = (l.drop (64 * k)).take 64) (h : 64 * (k + 1) ≤ l.length) :
    (chunks (l.length / 64) l).take (k + 1) = (chunks (l.length / 64) l).take k ++ [x] := by
  obtain ⟨c, h3, h4⟩ := chunks_at (l.length / 64) k l (by omega) h
  have hl : k < (chunks (l.length / 64) l).length := (List.getElem?_eq_some_iff.1 h3).1
  rw [List.take_succ_eq_append_getElem hl]
  rw [List.getElem?_eq_getElem hl] at h3
  have : c = x := Subtype.ext (h4.trans hx.symm)
  rw [← this]
  injection h3 with h3
  rw [h3]

theorem bytesWorld_grown (w : World) (e : TypeId) (s : ByteArray) : w.grownBy (Lib.bytesWorld w e s) none :=
  ⟨rfl, rfl, rfl, by rw [Lib.bytesWorld_size]; omega, fun k hk _ => Lib.bytesWorld_at_old w e s k hk⟩

set_option maxHeartbeats 1000000 in
theorem blocks1_iter (bs : Nat) (s : List UInt8) (hs : s.length ≤ 65536) (w : World) (hrow : Row w bs 9 #[.string ⟨s.toArray⟩]) :
    IterO Try.prog 35 #[.pointer (some ⟨bs, 0, none⟩)] (fun x : Chunk => #[.agg (u8s x.1).toArray]) (· = bs) (fun A B => B.heap[bs]? = A.heap[bs]? ∧ A.heap.size ≤ B.heap.size) (fun xs => xs = chunks (s.length / 64) s) (fun _ => True) (s.length / 64) w := by
  intro l J Jx W _ hwW hJ hJx hY h0
  refine callsIn_of_wp Try.func35 rfl trivial ?_ rfl
  simp only [Try.ntmps35, List.size_toArray, List.length_cons, List.length_nil, Nat.reduceAdd, Nat.reduceSub, Array.replicate_succ, Array.replicate_zero, List.push_toArray, List.append_toArray, List.nil_append, List.cons_append]
  gi_wp2
  have hrW : Row W bs 9 #[.string ⟨s.toArray⟩] := (hwW.block bs hrow.lt (by simp)).trans hrow
  clear hrow hwW
  gi_loopw [3] (fun _ wr => ∃ (k : Nat) (q : ByteArray), q.data.toList = s.drop (64 * k) ∧ 64 * k ≤ s.length ∧ Row wr bs 9 #[.string q] ∧ J ((chunks (s.length / 64) s).take k) wr) (fun _ wr => strAt wr bs)
  case atStart => exact ⟨0, ⟨s.toArray⟩, by simp, by omega, hrW, by simpa using h0⟩
  case round =>
    obtain ⟨k, q, hq, hk, hr, hj⟩ := hrel
    have hqs : q.size + 64 * k = s.length := by
      have := congrArg List.length hq
      simp at this; omega
    have Hq := Lib.hid hq
    have Hqs := Lib.hid hqs
    clear hq hqs
    have hc := hr.cellv (i := 0) (v := .string q) rfl
    have hf := hr.free 0
    by_cases h64 : 64 ≤ q.size
    · have hconv := fun w => Lib.run_convert_string_bytes (P := Try.prog) w 9 57 5 (q.extract 0 64) Try.underlying9 Try.underlying57 Try.underlying5
      have hsz : (q.extract 0 64).size = 64 := by simp; omega
      simp only [hsz] at hconv
      have Hsz := Lib.hid hsz
      have harr := fun w => run_arrayAt (P := Try.prog) w 55 5 64 (some ⟨wr.heap.size, 0, none⟩) 64 (grownCap wr 64 0 5) Try.underlying55 (Nat.le_refl _)
      clear hsz
      obtain ⟨x, hx⟩ : ∃ x : Chunk, x.1 = (q.extract 0 64).data.toList := ⟨⟨(q.extract 0 64).data.toList, by have := Hsz.out; simpa using this⟩, rfl⟩
      have hcells : ∀ j v, (u8s x.1)[j]? = some v → (Lib.bytesWorld wr 5 (q.extract 0 64)).cell? ⟨wr.heap.size, j, none⟩ = some v := by
        intro j v hv
        rw [u8s_getElem?, hx] at hv
        have hj : j < (q.extract 0 64).size := by
          rcases Nat.lt_or_ge j (q.extract 0 64).data.toList.length with h | h
          · simpa using h
          · rw [List.getElem?_eq_none h] at hv; cases hv
        rw [Lib.bytesWorld_cell _ _ _ j hj, ← hv, List.getD, List.getElem?_eq_getElem (by simpa using hj)]
        rfl
      have Hcells := Lib.hid hcells
      have Hx := Lib.hid hx
      have hg2 : wr.grownBy (Lib.bytesWorld wr 5 (q.extract 0 64)) none := bytesWorld_grown _ _ _
      have hj2 := hJ _ _ _ none hj hg2 (fun r e => by cases e)
      have hr2 : Row (Lib.bytesWorld wr 5 (q.extract 0 64)) bs 9 #[.string q] := (hg2.block bs hr.lt (by simp)).trans hr
      have hkl : k < s.length / 64 := by have := Hqs.out; omega
      obtain ⟨fn, tmps, assign, body, hy, hR⟩ := hY _ x _ hj2 (by rw [List.length_take]; omega)
      have Hhg2 := Lib.hid hg2
      have HR := Lib.hid hR
      have Hr2 := Lib.hid hr2
      clear hcells hx hg2 hj hr2 hr hR
      gi_wp2_with (refine wpListIn_load_head rfl 55 _ rfl wr.heap.size rfl (u8s x.1) _ Hcells.out Try.underlying55 rfl (by rw [u8s_length, x.2]; kernel_rfl) ?_)
      refine ⟨rfl, HR.out.mono ?_⟩
      rintro e W' (⟨rfl, hj3, hk3, hs3⟩ | ⟨rfl, hjx⟩)
      · have hr3 : Row W' bs 9 #[.string q] := hk3.trans Hr2.out
        have hc3 := hr3.cellv (i := 0) (v := .string q) rfl
        have hf3 := hr3.free 0
        have Hj3 := Lib.hid hj3
        clear hj3 hk3 hj2 hy hf hconv harr
        gi_wp2
        go_roundw
        case rel =>
          refine ⟨k + 1, q.extract 64 q.size, ?_, by have := Hqs.out; omega, hr3.set _ _, ?_⟩
          · have := Hq.out
            simp only [ByteArray.data_extract, Array.toList_extract, List.extract_eq_take_drop, this, List.drop_drop]
            rw [List.take_of_length_le (by simp; have := Hqs.out; omega), Nat.mul_add]
          · refine hJ _ _ _ (some bs) ?_ (grownBy_setCell' _ _ _) (fun r e => by cases e; exact .inl rfl)
            rw [chunks_take s k x (by rw [Hx.out]; simp [Hq.out]) (by have := Hqs.out; omega)]
            exact Hj3.out
        case measure =>
          have hrn := hr3.set 0 (.string (q.extract 64 q.size))
          have hrn2 := hrn.cell 0
          unfold strAt
          rw [hrn2, hc]
          simp; omega
      · clear hj2 hy hconv harr
        gi_wp2
        refine bodyPost_ret (results_none rfl _ _ _) rfl ?_
        exact ⟨⟨_, rfl⟩, .inr ⟨_, trivial, hjx⟩⟩
    · gi_wp2
      go_end0
      refine ⟨⟨_, rfl⟩, .inl ⟨_, rfl, ?_⟩⟩
      have hkk : k = s.length / 64 := by have := Hqs.out; omega
      rw [List.take_of_length_le (by rw [chunks_len _ _ (by omega)]; omega)] at hj
      exact hj

end Go.Proofs.Ytkdcelnlhhodlaa
