/- Walks over package sha's small functions: Pad. -/
import Derived.Test.YtkdcelnlhhodlaaRows
import Derived.Test.YtkdcelnlhhodlaaDump
namespace Go.Proofs.Ytkdcelnlhhodlaa
open Go.RowKit Go.Deep

set_option maxHeartbeats 400000 in
theorem pad_neg (n : Int) (h : n < 0) (w : World) :
    Calls Try.prog 23 #[.int .i64 n] w fun e w' => e = .returned (.string ⟨#[]⟩) ∧ w = w' := by
  go_enter Try.func23, Try.ntmps23
  go_wp2
  go_ret
  exact ⟨rfl, rfl⟩

/-- Byte i of what is put behind, k of its last bytes being laid. -/
def padB (R L k i : Nat) : UInt8 := if i = 0 then 128 else if i + k < L then 0 else UInt8.ofNat (R / 256 ^ (L - 1 - i))
def padL (R L k : Nat) : List UInt8 := (List.range L).map (padB R L k)
def padC (R L k : Nat) : Array Value := (u8s (padL R L k)).toArray

theorem padC_at (R L k i : Nat) : (padC R L k)[i]? = if i < L then some (.int .u8 ((padB R L k i).toNat : Int)) else none := by
  unfold padC padL
  simp only [List.getElem?_toArray, u8s_getElem?, List.getElem?_map]
  by_cases h : i < L <;> simp [h]
theorem padC_size (R L k : Nat) : (padC R L k).size = L := by simp [padC, padL, u8s]
theorem padC_step (R L k : Nat) (hk : k + 1 < L) : (padC R L k).setIfInBounds (L - 1 - k) (.int .u8 ((UInt8.ofNat (R / 256 ^ k)).toNat : Int)) = padC R L (k + 1) := by
  apply Array.ext_getElem?
  intro i
  rw [Array.getElem?_setIfInBounds, padC_at, padC_at, padC_size]
  by_cases hi : L - 1 - k = i
  · subst hi
    rw [if_pos rfl, if_pos (by omega), if_pos (by omega)]
    unfold padB
    rw [if_neg (by omega), if_neg (by omega), show L - 1 - (L - 1 - k) = k from by omega]
  · rw [if_neg hi]
    by_cases hL : i < L
    · rw [if_pos hL, if_pos hL]
      congr 4
      unfold padB
      by_cases h0 : i = 0
      · simp [h0]
      · rw [if_neg h0, if_neg h0]
        by_cases h1 : i + (k + 1) < L
        · rw [if_pos h1, if_pos (by omega)]
        · rw [if_neg h1, if_neg (by omega)]
    · rw [if_neg hL, if_neg hL]
theorem padC_start (R L : Nat) (cs : Array Value) (hs : cs.size = L) (h : ∀ i, i < L → cs[i]? = some (.int .u8 0)) : cs.setIfInBounds 0 (.int .u8 128) = padC R L 0 := by
  apply Array.ext_getElem?
  intro i
  rw [Array.getElem?_setIfInBounds, padC_at, hs]
  by_cases hi : 0 = i
  · subst hi
    rw [if_pos rfl]
    by_cases hL : 0 < L <;> simp [hL, padB]
  · rw [if_neg hi]
    by_cases hL : i < L
    · rw [if_pos hL, h i hL]
      unfold padB
      rw [if_neg (by omega), if_pos (by omega)]; rfl
    · rw [if_neg hL, Array.getElem?_eq_none (by omega)]

theorem made_at (z : Value) (n i : Nat) (h : i < n) : (madeCells #[z] n)[i]? = some z := by
  unfold madeCells
  simp [h, Nat.mod_one]

theorem u8_mod (q : Nat) : ((q : Int) % 256) = ((UInt8.ofNat q).toNat : Int) := by simp
theorem int_pred (L k : Nat) : (L : Int) - 1 - (k : Int) - 1 = (L : Int) - 1 - ((k + 1 : Nat) : Int) := by omega
theorem div_step (R k : Nat) : ((R / 256 ^ k : Nat) : Int) / 256 = ((R / 256 ^ (k + 1) : Nat) : Int) := by
  rw [Nat.pow_succ, ← Nat.div_div_eq_div_mul]; omega
theorem int_eq (k : IntKind) {a b : Int} (h : a = b) : Value.int k a = Value.int k b := by rw [h]

/-- What is behind a text of n bytes: its length. -/
def padN (n : Nat) : Nat := 72 - (n + 8) % 64
/-- What is put behind a text of n bytes. -/
def padT (n : Nat) : List UInt8 := padL (n * 8 % 18446744073709551616) (padN n) 8

theorem padL_done (R L k : Nat) (hk : k ≤ 8) (h : R / 256 ^ k = 0) : padL R L k = padL R L 8 := by
  unfold padL
  apply List.map_congr_left
  intro i hi
  unfold padB
  by_cases h0 : i = 0
  · simp [h0]
  · rw [if_neg h0, if_neg h0]
    by_cases h1 : i + 8 < L
    · rw [if_pos (by omega), if_pos h1]
    · rw [if_neg h1]
      by_cases h2 : i + k < L
      · rw [if_pos h2]
        have : R / 256 ^ (L - 1 - i) = 0 := by
          have hp : 256 ^ k ≤ 256 ^ (L - 1 - i) := Nat.pow_le_pow_right (by omega) (by omega)
          rw [Nat.div_eq_zero_iff] at h ⊢
          rcases h with h | h
          · exact absurd h (Nat.pos_iff_ne_zero.1 (Nat.pow_pos (by omega)))
          · exact .inr (by omega)
        rw [this]; rfl
      · rw [if_neg h2]

set_option maxHeartbeats 400000 in
theorem pad_any (n : Int) (h0 : 0 ≤ n) (h1 : n ≤ 9223372036854775807) (w : World) :
    Calls Try.prog 23 #[.int .i64 n] w fun e w' => e = .returned (.string ⟨(padT n.toNat).toArray⟩) ∧ Below w.heap.size w w' := by
  obtain ⟨L, hL, hL9, hL72⟩ : ∃ L : Nat, 72 - (n + 8) % 64 = (L : Int) ∧ 9 ≤ L ∧ L ≤ 72 := ⟨(72 - (n + 8) % 64).toNat, by omega, by omega, by omega⟩
  obtain ⟨cs, hcs⟩ : ∃ cs, cs = madeCells #[Value.int .u8 0] L := ⟨_, rfl⟩
  have hmk := run_make_row' (P := Try.prog) 57 5 (.int .u8 0) 1 Try.underlying57 info_u8 rfl .i64 .i64 L (by omega) (by omega)
  have hat : ∀ i, i < L → cs[i]? = some (.int .u8 0) := fun i hi => by rw [hcs]; exact made_at _ _ _ hi
  have hsz := size_madeCells #[Value.int .u8 0] L
  rw [← hcs] at hmk hsz
  have hcs0 : cs[0]? = some (.int .u8 0) := hat 0 (by omega)
  obtain ⟨R, hR, hRlt⟩ : ∃ R : Nat, IntKind.u64.wrap (n * 8) = (R : Int) ∧ R < 18446744073709551616 := by
    rw [IntKind.wrap_u64]; exact ⟨((n * 8) % 18446744073709551616).toNat, by omega, by omega⟩
  have HRlt := Lib.hid hRlt
  have Hat := Lib.hid hat
  have Hsz := Lib.hid hsz
  have Hfin : Hid (padL R L 8 = padT n.toNat) := by
    unfold padT
    rw [show padN n.toNat = L from by unfold padN; omega, show n.toNat * 8 % 18446744073709551616 = R from by rw [IntKind.wrap_u64] at hR; omega]; rfl
  clear hcs hat hsz hRlt
  go_enter Try.func23, Try.ntmps23
  go_wp2
  go_loopw [4, 5] (fun i r wr => ∃ k : Nat, i = .int .i64 ((L : Int) - 1 - (k : Int)) ∧ r = .int .u64 ((R / 256 ^ k : Nat) : Int) ∧ k ≤ 8 ∧ Row wr w.heap.size 5 (padC R L k) ∧ Below w.heap.size w wr) (fun _ r _ => (intOf r).toNat)
  case atStart => exact ⟨0, by simp, by simp, by omega, by rw [← padC_start R L cs Hsz.out Hat.out]; exact Row.new _ _ _, (Below.refl _ _).alloc (Nat.le_refl _) _⟩
  case round =>
    obtain ⟨k, rfl, rfl, hk, hrow, hb⟩ := hrel
    by_cases hz : R / 256 ^ k = 0
    · have hconv := run_string_of_row (P := Try.prog) 57 9 5 5 Try.underlying57 Try.underlying5 Try.underlying9 (cap := L) hrow (padL R L k) (n := L) (by simp [padL]) (fun j hj => by simp [padC])
      rw [padL_done R L k hk hz, Hfin.out] at hconv
      have hz' : ((R / 256 ^ k : Nat) : Int) = 0 := by omega
      rw [hz']
      clear hz hz' Hfin
      go_wp2
      go_ret
      exact ⟨rfl, hb⟩
    · have hk8 : k < 8 := by
        rcases Nat.lt_or_ge k 8 with h | h
        · exact h
        · obtain rfl : k = 8 := by omega
          exact absurd (Nat.div_eq_of_lt HRlt.out) hz
      have hpos : 0 < R / 256 ^ k := Nat.pos_of_ne_zero hz
      obtain ⟨q, hq⟩ : ∃ q, q = R / 256 ^ k := ⟨_, rfl⟩
      rw [← hq] at hz hpos ⊢
      have Hq := Lib.hid hq
      clear hq
      have hc := hrow.cellv (i := L - 1 - k) (v := .int .u8 ((padB R L k (L - 1 - k)).toNat : Int)) (by rw [padC_at, if_pos (by omega)])
      have hf := hrow.free (L - 1 - k)
      go_wp2
      go_roundw
      case rel => exact ⟨k + 1, by rw [int_pred], by rw [← div_step, Hq.out], by omega, by rw [← padC_step R L k (by omega), u8_mod, Hq.out]; exact hrow.set _ _, hb.setCell (p := ⟨w.heap.size, L - 1 - k, none⟩) (Nat.le_refl _) _⟩
      case measure => simp [intOf]; omega

end Go.Proofs.Ytkdcelnlhhodlaa
