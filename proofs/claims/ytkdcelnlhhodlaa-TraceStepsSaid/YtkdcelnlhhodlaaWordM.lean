/- Plain laws on words: a word turned right, bit by bit. -/
import Derived.Test.YtkdcelnlhhodlaaWord
namespace Go.Proofs.Ytkdcelnlhhodlaa

theorem rot_one (x : BitVec 32) : x.rotateRight 1 = x >>> 1 + x <<< 31 := by
  have h : x >>> 1 &&& x <<< 31 = 0#32 := by
    apply BitVec.eq_of_getLsbD_eq
    intro i hi
    simp only [BitVec.getLsbD_and, BitVec.getLsbD_ushiftRight, BitVec.getLsbD_shiftLeft, BitVec.getLsbD_zero]
    by_cases h31 : i < 31
    · simp [h31]
    · have : i = 31 := by omega
      subst this
      simp [BitVec.getLsbD_of_ge]
  rw [BitVec.add_eq_or_of_and_eq_zero _ _ h]
  rfl
theorem rot_step (x : BitVec 32) (n : Nat) (h : n < 31) : (x.rotateRight n).rotateRight 1 = x.rotateRight (n + 1) := by
  apply BitVec.eq_of_getLsbD_eq
  intro i hi
  rw [BitVec.getLsbD_rotateRight, BitVec.getLsbD_rotateRight]
  simp only [BitVec.getLsbD_rotateRight]
  rw [Nat.mod_eq_of_lt (show n < 32 by omega), Nat.mod_eq_of_lt (show n + 1 < 32 by omega)]
  by_cases h1 : i < 31
  · by_cases h2 : 1 + i < 32 - n
    · have h3 : i < 31 - n := by omega
      simp [h1, h2, h3]; congr 1; omega
    · have h3 : ¬ i < 31 - n := by omega
      have h4 : 1 + i < 32 := by omega
      simp [h1, h2, h3, h4, hi]; congr 1; omega
  · have : i = 31 := by omega
    subst this
    have h2 : 0 < 32 - n := by omega
    have h3 : ¬ 31 < 31 - n := by omega
    simp [h2, h3]; congr 1; omega
theorem rot_zero (x : BitVec 32) : x.rotateRight 0 = x := by
  apply BitVec.eq_of_getLsbD_eq
  intro i hi
  rw [BitVec.getLsbD_rotateRight]
  simp [hi]
theorem wd_rot1 (x : BitVec 32) : wd x / 2 + wd x % 2 * 2147483648 = wd (x.rotateRight 1) := by
  rw [rot_one]
  unfold wd
  rw [BitVec.toNat_add, BitVec.toNat_ushiftRight, BitVec.toNat_shiftLeft, Nat.shiftRight_eq_div_pow, Nat.shiftLeft_eq]
  have := x.isLt
  omega
end Go.Proofs.Ytkdcelnlhhodlaa
