/- Words of 32 bits behind one name, and the walk's laws on them. Conditions: none beyond each law's own. -/
import Derived.Test.YtkdcelnlhhodlaaBase
namespace Go.Proofs.Ytkdcelnlhhodlaa
open Go.RowKit

/-- A word's number. -/
def wd (x : BitVec 32) : Int := (x.toNat : Int)

theorem wd_nonneg (x : BitVec 32) : 0 ≤ wd x := by unfold wd; omega
theorem wd_lt (x : BitVec 32) : wd x < 4294967296 := by unfold wd; have := x.isLt; omega
theorem wd_inj {x y : BitVec 32} (h : wd x = wd y) : x = y := by
  unfold wd at h; exact BitVec.eq_of_toNat_eq (by omega)
theorem wd_wrap (x : BitVec 32) : IntKind.u32.wrap (wd x) = wd x := by
  rw [IntKind.wrap_u32]; have := wd_nonneg x; have := wd_lt x; omega
theorem wd_of (n : Int) (h0 : 0 ≤ n) (h1 : n < 4294967296) : n = wd (BitVec.ofNat 32 n.toNat) := by
  unfold wd; rw [BitVec.toNat_ofNat, Nat.mod_eq_of_lt (by omega)]; omega
theorem wd_ofInt (x : BitVec 32) : BitVec.ofInt 32 (wd x) = x := by
  unfold wd; apply BitVec.eq_of_toNat_eq; rw [BitVec.ofInt_natCast, BitVec.toNat_ofNat, Nat.mod_eq_of_lt x.isLt]
theorem wd_add (x y : BitVec 32) : IntKind.u32.wrap (wd x + wd y) = wd (x + y) := by
  rw [IntKind.wrap_u32]; unfold wd; rw [BitVec.toNat_add]; omega
theorem wd_xor (x y : BitVec 32) : bits .xor .u32 (wd x) (wd y) = wd (x ^^^ y) := by
  show IntKind.u32.wrap ((BitVec.ofInt 32 (wd x) ^^^ BitVec.ofInt 32 (wd y)).toNat : Int) = _
  rw [wd_ofInt, wd_ofInt]; exact wd_wrap _
theorem wd_and (x y : BitVec 32) : bits .and .u32 (wd x) (wd y) = wd (x &&& y) := by
  show IntKind.u32.wrap ((BitVec.ofInt 32 (wd x) &&& BitVec.ofInt 32 (wd y)).toNat : Int) = _
  rw [wd_ofInt, wd_ofInt]; exact wd_wrap _
theorem wd_or (x y : BitVec 32) : bits .or .u32 (wd x) (wd y) = wd (x ||| y) := by
  show IntKind.u32.wrap ((BitVec.ofInt 32 (wd x) ||| BitVec.ofInt 32 (wd y)).toNat : Int) = _
  rw [wd_ofInt, wd_ofInt]; exact wd_wrap _
theorem wd_shl (x : BitVec 32) (m : Nat) : IntKind.u32.wrap (wd x * (2 : Int) ^ m) = wd (x <<< m) := by
  rw [IntKind.wrap_u32]; unfold wd; rw [BitVec.toNat_shiftLeft, Nat.shiftLeft_eq, Int.natCast_emod, Int.natCast_mul, Int.natCast_pow]; rfl
theorem wd_shr (x : BitVec 32) (m : Nat) : wd x / (2 : Int) ^ m = wd (x >>> m) := by
  unfold wd; rw [BitVec.toNat_ushiftRight, Nat.shiftRight_eq_div_pow, Int.natCast_ediv, Int.natCast_pow]; rfl

theorem wd_add' (x y : BitVec 32) : (wd x + wd y) % 4294967296 = wd (x + y) := by rw [← wd_add, IntKind.wrap_u32]
theorem wd_shl' (x : BitVec 32) (m : Nat) : wd x * (2 : Int) ^ m % (4294967296 : Int) = wd (x <<< m) := by rw [← wd_shl, IntKind.wrap_u32]
theorem wd_shl8 (x : BitVec 32) : wd x * (256 : Int) % (4294967296 : Int) = wd (x <<< 8) := wd_shl' x 8
theorem wd_shr1 (x : BitVec 32) : wd x / (2 : Int) = wd (x >>> 1) := wd_shr x 1
theorem wd_shr3 (x : BitVec 32) : wd x / (8 : Int) = wd (x >>> 3) := wd_shr x 3
theorem wd_shr8 (x : BitVec 32) : wd x / (256 : Int) = wd (x >>> 8) := wd_shr x 8
theorem wd_shr10 (x : BitVec 32) : wd x / (1024 : Int) = wd (x >>> 10) := wd_shr x 10
theorem wd_shr16 (x : BitVec 32) : wd x / (65536 : Int) = wd (x >>> 16) := wd_shr x 16
theorem wd_shr24 (x : BitVec 32) : wd x / (16777216 : Int) = wd (x >>> 24) := wd_shr x 24

/-- Words as cells. -/
def wds (l : List (BitVec 32)) : List Value := l.map fun b => .int .u32 (wd b)
theorem wds_getElem? (l : List (BitVec 32)) (i : Nat) : (wds l)[i]? = l[i]?.map fun b => .int .u32 (wd b) := by simp [wds]
theorem wds_length (l : List (BitVec 32)) : (wds l).length = l.length := by simp [wds]
theorem wds_one (l : List (BitVec 32)) : (wds l).toArray.all (·.oneCell') = true := by
  refine Array.all_eq_true_iff_forall_mem.2 (fun v hv => ?_)
  simp only [wds, List.mem_toArray, List.mem_map] at hv
  obtain ⟨x, _, rfl⟩ := hv; rfl
theorem u8s_one (l : List UInt8) : (u8s l).toArray.all (·.oneCell') = true := by
  refine Array.all_eq_true_iff_forall_mem.2 (fun v hv => ?_)
  simp only [u8s, List.mem_toArray, List.mem_map] at hv
  obtain ⟨x, _, rfl⟩ := hv; rfl
theorem wds_size (l : List (BitVec 32)) {n : Nat} (h : l.length = n) : (wds l).toArray.size = n := by rw [List.size_toArray, wds_length, h]
theorem u8s_size (l : List UInt8) {n : Nat} (h : l.length = n) : (u8s l).toArray.size = n := by rw [List.size_toArray, u8s_length, h]
theorem wds_at (l : List (BitVec 32)) (i : Nat) (h : i < l.length) : (wds l).toArray[i]? = some (.int .u32 (wd (l.getD i 0))) := by
  simp [wds, List.getElem?_eq_getElem h, List.getD]
theorem wds_set (l : List (BitVec 32)) (i : Nat) (x : BitVec 32) : (wds l).toArray.setIfInBounds i (.int .u32 (wd x)) = (wds (l.set i x)).toArray := by
  simp [wds, List.map_set]
theorem u8s_at (l : List UInt8) (i : Nat) (h : i < l.length) : (u8s l).toArray[i]? = some (.int .u8 ((l.getD i 0).toNat : Int)) := by
  simp [u8s, List.getElem?_eq_getElem h, List.getD]
theorem wd_byte (b : UInt8) : ((b.toNat : Nat) : Int) = wd (BitVec.ofNat 32 b.toNat) := by
  have := b.toNat_lt
  unfold wd; rw [BitVec.toNat_ofNat, Nat.mod_eq_of_lt (by omega)]
end Go.Proofs.Ytkdcelnlhhodlaa
