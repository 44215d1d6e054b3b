/- The walk over the law ShaHex. -/
import Derived.Test.YtnlffbjjndmjgaaShaW
namespace Go.Proofs.Ytnlffbjjndmjgaa
open Go.RowKit Go.Deep

theorem hexL_append (a b : List UInt8) : hexL (a ++ b) = hexL a ++ hexL b := by simp [hexL]
theorem hexD_inj : ∀ m n : Fin 16, hexD m.val = hexD n.val → m = n := by decide
theorem hexB_inj {a b : UInt8} (h : hexB a = hexB b) : a = b := by
  have ha := a.toNat_lt
  have hb := b.toNat_lt
  injection h with h1 h2
  injection h2 with h2 _
  have e1 := congrArg Fin.val (hexD_inj ⟨a.toNat / 16, by omega⟩ ⟨b.toNat / 16, by omega⟩ h1)
  have e2 := congrArg Fin.val (hexD_inj ⟨a.toNat % 16, by omega⟩ ⟨b.toNat % 16, by omega⟩ h2)
  simp only at e1 e2
  exact UInt8.toNat_inj.1 (by omega)
theorem hexL_inj : ∀ (a b : List UInt8), hexL a = hexL b → a = b
  | [], [], _ => rfl
  | [], b :: l, h => by have := congrArg List.length h; rw [hexL_len, hexL_len] at this; simp at this
  | a :: k, [], h => by have := congrArg List.length h; rw [hexL_len, hexL_len] at this; simp at this
  | a :: k, b :: l, h => by
    have h' : hexB a ++ hexL k = hexB b ++ hexL l := h
    have := List.append_inj h' rfl
    rw [hexB_inj this.1, hexL_inj k l this.2]
theorem hexL_beq (a b : List UInt8) : (hexL a == hexL b) = (a == b) := by
  rw [Bool.eq_iff_iff, beq_iff_eq, beq_iff_eq]
  exact ⟨hexL_inj a b, fun h => by rw [h]⟩

theorem hex_both (a b : ByteArray) (ha : a.size ≤ 500) (hb : b.size ≤ 500) (w : World) : Calls Try.prog 12 #[.string (a ++ b)] w fun e w' => e = .returned (.string (⟨(hexL a.data.toList).toArray⟩ ++ ⟨(hexL b.data.toList).toArray⟩)) ∧ Below w.heap.size w w' := by
  have h := hex_any (a ++ b) (by rw [ByteArray.size_append]; omega) w
  have e : (⟨(hexL (a ++ b).data.toList).toArray⟩ : ByteArray) = ⟨(hexL a.data.toList).toArray⟩ ++ ⟨(hexL b.data.toList).toArray⟩ := by
    apply ByteArray.ext
    simp [hexL_append]
  rwa [e] at h

set_option maxHeartbeats 1000000 in
theorem shaHex_walk (a b : ByteArray) (w : World) : Calls Try.prog 7 #[.string a, .string b] w fun e w' => e = .returned (.bool true) ∧ Below w.heap.size w w' := by
  by_cases ha : 500 < a.size
  · go_enter Try.func7, Try.ntmps7
    go_wp2_with fail
    refine (works_any w).mono ?_
    rintro e w1 ⟨rfl, b1⟩
    go_wp2_with fail
    go_ret
    exact ⟨rfl, b1⟩
  · by_cases hb : 500 < b.size
    · go_enter Try.func7, Try.ntmps7
      go_wp2_with fail
      refine (works_any w).mono ?_
      rintro e w1 ⟨rfl, b1⟩
      go_wp2_with fail
      go_ret
      exact ⟨rfl, b1⟩
    · have ha' : a.size ≤ 500 := by omega
      have hb' : b.size ≤ 500 := by omega
      go_enter Try.func7, Try.ntmps7
      go_wp2_with fail
      refine (works_any w).mono ?_
      rintro e w1 ⟨rfl, b1⟩
      go_wp2_with fail
      refine (hex_any a (by omega) w1).mono ?_
      rintro e w2 ⟨rfl, b2⟩
      go_wp2_with fail
      refine (hex_any b (by omega) w2).mono ?_
      rintro e w3 ⟨rfl, b3⟩
      have hla : (hexL a.data.toList).length = 2 * a.size := by rw [hexL_len]; simp
      have hlb : (hexL b.data.toList).length = 2 * b.size := by rw [hexL_len]; simp
      have hbe : (hexL a.data.toList == hexL b.data.toList) = (a.toList == b.toList) := by rw [hexL_beq, Lib.toList_data, Lib.toList_data]
      go_wp2_with fail
      refine (hex_both a b ha' hb' w3).mono ?_
      rintro e w4 ⟨rfl, b4⟩
      go_wp2_with fail
      go_ret
      exact ⟨rfl, b1.trans ((b2.trans ((b3.trans (b4.mono b3.size)).mono b2.size)).mono b1.size)⟩

end Go.Proofs.Ytnlffbjjndmjgaa
