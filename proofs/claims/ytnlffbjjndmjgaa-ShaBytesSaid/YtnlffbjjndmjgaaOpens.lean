/- Arguments opened: arrays of integers by value. -/
import Derived.Test.YtnlffbjjndmjgaaWord
import Derived.ProofKit
import Derived.OpenShut
namespace Go.Proofs.Ytnlffbjjndmjgaa
open Go.ChangeShapes Go.WideShapes Go.RowKit

section
variable {H : Type} {enc : TypeId × Value → H} {P : Program} {w : World} {base : Nat} {spare : Nat → Bool} {held : Bool}

theorem okWide_arr {r : Reach} {b0 : Nat} {t e : TypeId} {n : Nat} {v : Value} (ht : P.underlying t = some (.array n e)) (h : Value.okWide P w r b0 t v) : ∃ cs, v = .agg cs ∧ cs.size = P.cellsOf t := by
  simp only [Value.okWide, ht] at h
  obtain ⟨cs, h1, h2, _⟩ := h
  exact ⟨cs, h1, h2⟩

theorem ints_of_cells {k : IntKind} : ∀ (l : List Value), (∀ i, i < l.length → ∃ n, l[i]? = some (.int k n) ∧ (Lit.int k n).wf = true) → ∃ ns : List Int, l = ns.map (Value.int k) ∧ ∀ n ∈ ns, (Lit.int k n).wf = true
  | [], _ => ⟨[], rfl, by simp⟩
  | v :: l, h => by
    obtain ⟨n, hv, hn⟩ := h 0 (by simp)
    obtain ⟨ns, hl, hns⟩ := ints_of_cells l (fun i hi => by simpa using h (i + 1) (by simpa using hi))
    simp at hv
    refine ⟨n :: ns, by rw [hv, hl]; rfl, fun m hm => ?_⟩
    rcases List.mem_cons.1 hm with h | h
    · rw [h]; exact hn
    · exact hns m h

theorem open_arr {r : Reach} {b0 : Nat} {t e : TypeId} {n : Nat} {k : IntKind} {v : Value} {d : DataW H} {p : List MemPlace} (ht : P.underlying t = some (.array n e)) (he : P.underlying e = some (.int k)) (hC : P.cellsOf e = 1) (hT : P.cellsOf t = n)
    (hv : Value.okWide P w r b0 t v) (h : DataW.Trod enc P w base spare held t v d p) :
    ∃ ns : List Int, v = .agg (ns.map (Value.int k)).toArray ∧ ns.length = n ∧ ∀ m ∈ ns, (Lit.int k m).wf = true := by
  obtain ⟨cs, rfl, hsz⟩ := okWide_arr ht hv
  obtain ⟨fuel, hf⟩ := h
  obtain ⟨xs, m, _, _, _, hl, hg⟩ := DataW.trod_array ht hf
  have hsz' : cs.toList.length = n := by rw [Array.length_toList, hsz, hT]
  obtain ⟨ns, hns, hw⟩ := ints_of_cells (k := k) cs.toList (fun i hi => by
    have h1 := hg i (by omega)
    rw [hC, Nat.mul_one, List.getElem?_eq_getElem (by omega)] at h1
    have h2 : ((Value.agg cs).cells.toList.drop i).take 1 = [cs.toList[i]] := by
      show (cs.toList.drop i).take 1 = _
      rw [List.drop_eq_getElem_cons hi]; rfl
    rw [h2] at h1
    obtain ⟨q, hq, _, hwf⟩ := DataW.trod_int he h1
    refine ⟨q, ?_, hwf⟩
    rw [List.getElem?_eq_getElem hi]
    injection hq with hq
    rw [hq])
  refine ⟨ns, ?_, ?_, hw⟩
  · rw [← hns]
  · have := congrArg List.length hns
    rw [List.length_map] at this; omega

theorem open_words {r : Reach} {b0 : Nat} {t e : TypeId} {n : Nat} {v : Value} {d : DataW H} {p : List MemPlace} (ht : P.underlying t = some (.array n e)) (he : P.underlying e = some (.int .u32)) (hC : P.cellsOf e = 1) (hT : P.cellsOf t = n)
    (hv : Value.okWide P w r b0 t v) (h : DataW.Trod enc P w base spare held t v d p) :
    ∃ l : List (BitVec 32), l.length = n ∧ v = .agg (wds l).toArray := by
  obtain ⟨ns, rfl, hl, hw⟩ := open_arr ht he hC hT hv h
  refine ⟨ns.map fun m => BitVec.ofNat 32 m.toNat, by simpa using hl, ?_⟩
  congr 2
  rw [wds, List.map_map]
  apply List.map_congr_left
  intro m hm
  have hb := bounds_u32 (hw m hm)
  show Value.int .u32 m = Value.int .u32 (wd (BitVec.ofNat 32 m.toNat))
  rw [← wd_of m (by omega) (by omega)]

theorem open_bytes {r : Reach} {b0 : Nat} {t e : TypeId} {n : Nat} {v : Value} {d : DataW H} {p : List MemPlace} (ht : P.underlying t = some (.array n e)) (he : P.underlying e = some (.int .u8)) (hC : P.cellsOf e = 1) (hT : P.cellsOf t = n)
    (hv : Value.okWide P w r b0 t v) (h : DataW.Trod enc P w base spare held t v d p) :
    ∃ l : List UInt8, l.length = n ∧ v = .agg (u8s l).toArray := by
  obtain ⟨ns, rfl, hl, hw⟩ := open_arr ht he hC hT hv h
  refine ⟨ns.map fun m => UInt8.ofNat m.toNat, by simpa using hl, ?_⟩
  congr 2
  rw [u8s, List.map_map]
  apply List.map_congr_left
  intro m hm
  have hb := bounds_u8 (hw m hm)
  show Value.int .u8 m = Value.int .u8 (((UInt8.ofNat m.toNat).toNat : Nat) : Int)
  rw [show (((UInt8.ofNat m.toNat).toNat : Nat) : Int) = m from by simp; omega]
end
end Go.Proofs.Ytnlffbjjndmjgaa
