/- Walks over package sha: cubes, Start. -/
import Derived.Test.YtkdcelnlhhodlaaRows
import Derived.Test.YtkdcelnlhhodlaaShaC
import Derived.Deep.WholeRow
namespace Go.Proofs.Ytkdcelnlhhodlaa
open Go.RowKit Go.Deep

def cubeL : List (BitVec 32) := [
  0x428a2f98, 0x71374491, 0xb5c0fbcf, 0xe9b5dba5, 0x3956c25b, 0x59f111f1, 0x923f82a4, 0xab1c5ed5,
  0xd807aa98, 0x12835b01, 0x243185be, 0x550c7dc3, 0x72be5d74, 0x80deb1fe, 0x9bdc06a7, 0xc19bf174,
  0xe49b69c1, 0xefbe4786, 0x0fc19dc6, 0x240ca1cc, 0x2de92c6f, 0x4a7484aa, 0x5cb0a9dc, 0x76f988da,
  0x983e5152, 0xa831c66d, 0xb00327c8, 0xbf597fc7, 0xc6e00bf3, 0xd5a79147, 0x06ca6351, 0x14292967,
  0x27b70a85, 0x2e1b2138, 0x4d2c6dfc, 0x53380d13, 0x650a7354, 0x766a0abb, 0x81c2c92e, 0x92722c85,
  0xa2bfe8a1, 0xa81a664b, 0xc24b8b70, 0xc76c51a3, 0xd192e819, 0xd6990624, 0xf40e3585, 0x106aa070,
  0x19a4c116, 0x1e376c08, 0x2748774c, 0x34b0bcb5, 0x391c0cb3, 0x4ed8aa4a, 0x5b9cca4f, 0x682e6ff3,
  0x748f82ee, 0x78a5636f, 0x84c87814, 0x8cc70208, 0x90befffa, 0xa4506ceb, 0xbef9a3f7, 0xc67178f2]

set_option maxHeartbeats 1000000 in
set_option maxRecDepth 100000 in
theorem cubes_any (w : World) :
    Calls Try.prog 37 #[] w fun e w' => ∃ g', e = .returned (.pointer (some ⟨g', 0, none⟩)) ∧ w.heap.size ≤ g' ∧ Row w' g' 77 (wds cubeL).toArray ∧ Below w.heap.size w w' := by
  go_enter Try.func37, Try.ntmps37
  go_wp2_with (
    (refine wpList_build rfl 77 _ rfl (by kernel_rfl) ?_
     generalize hX : (Program.built _ _ _).getD #[] = X
     have hX2 : X = (wds cubeL).toArray := by rw [← hX]; kernel_rfl
     clear hX
     subst hX2))
  go_ret
  exact ⟨_, rfl, Nat.le_refl _, Row.new _ _ _, (Below.refl _ _).alloc (Nat.le_refl _) _⟩

set_option maxHeartbeats 1000000 in
set_option maxRecDepth 100000 in
theorem refCubes_any (w : World) :
    Calls Try.prog 42 #[] w fun e w' => e = .returned (.agg (wds cubeL).toArray) ∧ Below w.heap.size w w' := by
  go_enter Try.func42, Try.ntmps42
  go_wp2_with (first
    | (refine wpList_build rfl 77 _ rfl (by kernel_rfl) ?_
       generalize hX : (Program.built _ _ _).getD #[] = X
       have hX2 : X = (wds cubeL).toArray := by rw [← hX]; kernel_rfl
       clear hX
       subst hX2)
    | (refine wpList_store_row rfl 77 _ _ rfl w.heap.size (wds cubeL).toArray rfl rfl 77 _ (heap_alloc_new w _) (by kernel_rfl) rfl (by kernel_rfl) ?_
       rw [World.setRow_alloc_new]))
  exact bodyPost_ret (v := .agg (wds cubeL).toArray) (results_cell_row Try.results42 _ _ w.heap.size 77 _ (0, 0) _ rfl (heap_alloc_new w _) Try.underlying77 rfl (by kernel_rfl)) rfl ⟨rfl, (Below.refl _ _).alloc (Nat.le_refl _) _⟩

def startL : List (BitVec 32) := [0x6a09e667, 0xbb67ae85, 0x3c6ef372, 0xa54ff53a, 0x510e527f, 0x9b05688c, 0x1f83d9ab, 0x5be0cd19]

theorem startL_cells : (wds startL).toArray = #[.int .u32 1779033703, .int .u32 3144134277, .int .u32 1013904242, .int .u32 2773480762, .int .u32 1359893119, .int .u32 2600822924, .int .u32 528734635, .int .u32 1541459225] := by rfl

set_option maxHeartbeats 1000000 in
theorem start_any (w : World) :
    Calls Try.prog 21 #[] w fun e w' => e = .returned (.agg (wds startL).toArray) ∧ Below w.heap.size w w' := by
  go_enter Try.func21, Try.ntmps21
  go_wp2
  exact bodyPost_ret (v := .agg (wds startL).toArray) (results_cell_row Try.results21 _ _ w.heap.size 50 _ (0, 0) _ rfl (heap_alloc_new w _) Try.underlying50 rfl (by kernel_rfl)) rfl ⟨rfl, (Below.refl _ _).alloc (Nat.le_refl _) _⟩

set_option maxHeartbeats 1000000 in
theorem refStart_any (w : World) :
    Calls Try.prog 31 #[] w fun e w' => e = .returned (.agg (wds startL).toArray) ∧ Below w.heap.size w w' := by
  go_enter Try.func31, Try.ntmps31
  go_wp2
  exact bodyPost_ret (v := .agg (wds startL).toArray) (results_cell_row Try.results31 _ _ w.heap.size 48 _ (0, 0) _ rfl (heap_alloc_new w _) Try.underlying48 rfl (by kernel_rfl)) rfl ⟨rfl, (Below.refl _ _).alloc (Nat.le_refl _) _⟩

end Go.Proofs.Ytkdcelnlhhodlaa
