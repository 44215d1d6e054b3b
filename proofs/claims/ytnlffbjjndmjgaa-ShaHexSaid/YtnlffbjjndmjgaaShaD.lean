/- Walks over package sha: cubes, Start. -/
import Derived.Test.YtnlffbjjndmjgaaRows
import Derived.Test.YtnlffbjjndmjgaaShaC
import Derived.Deep.WholeRow
namespace Go.Proofs.Ytnlffbjjndmjgaa
open Go.RowKit Go.Deep

def cubeL : List (BitVec 32) := [
  1116352408, 1899447441, 3049323471, 3921009573, 961987163, 1508970993, 2453635748, 2870763221,
  3624381080, 310598401, 607225278, 1426881987, 1925078388, 2162078206, 2614888103, 3248222580,
  3835390401, 4022224774, 264347078, 604807628, 770255983, 1249150122, 1555081692, 1996064986,
  2554220882, 2821834349, 2952996808, 3210313671, 3336571891, 3584528711, 113926993, 338241895,
  666307205, 773529912, 1294757372, 1396182291, 1695183700, 1986661051, 2177026350, 2456956037,
  2730485921, 2820302411, 3259730800, 3345764771, 3516065817, 3600352804, 4094571909, 275423344,
  430227734, 506948616, 659060556, 883997877, 958139571, 1322822218, 1537002063, 1747873779,
  1955562222, 2024104815, 2227730452, 2361852424, 2428436474, 2756734187, 3204031479, 3329325298]

set_option maxHeartbeats 1000000 in
set_option maxRecDepth 100000 in
theorem cubes_any (w : World) :
    Calls Try.prog 26 #[] w fun e w' => ∃ g', e = .returned (.pointer (some ⟨g', 0, none⟩)) ∧ w.heap.size ≤ g' ∧ Row w' g' 58 (wds cubeL).toArray ∧ Below w.heap.size w w' := by
  go_enter Try.func26, Try.ntmps26
  go_wp2_with (
    (refine wpList_build rfl 58 _ rfl (by kernel_rfl) ?_
     generalize hX : (Program.built _ _ _).getD #[] = X
     have hX2 : X = (wds cubeL).toArray := by rw [← hX]; kernel_rfl
     clear hX
     subst hX2))
  go_ret
  exact ⟨_, rfl, Nat.le_refl _, Row.new _ _ _, (Below.refl _ _).alloc (Nat.le_refl _) _⟩

set_option maxHeartbeats 1000000 in
set_option maxRecDepth 100000 in
theorem refCubes_any (w : World) :
    Calls Try.prog 29 #[] w fun e w' => e = .returned (.agg (wds cubeL).toArray) ∧ Below w.heap.size w w' := by
  go_enter Try.func29, Try.ntmps29
  go_wp2_with (first
    | (refine wpList_build rfl 58 _ rfl (by kernel_rfl) ?_
       generalize hX : (Program.built _ _ _).getD #[] = X
       have hX2 : X = (wds cubeL).toArray := by rw [← hX]; kernel_rfl
       clear hX
       subst hX2)
    | (refine wpList_store_row rfl 58 _ _ rfl w.heap.size (wds cubeL).toArray rfl rfl 58 _ (heap_alloc_new w _) (by kernel_rfl) rfl (by kernel_rfl) ?_
       rw [World.setRow_alloc_new]))
  exact bodyPost_ret (v := .agg (wds cubeL).toArray) (results_cell_row Try.results29 _ _ w.heap.size 58 _ (0, 0) _ rfl (heap_alloc_new w _) Try.underlying58 rfl (by kernel_rfl)) rfl ⟨rfl, (Below.refl _ _).alloc (Nat.le_refl _) _⟩

def startL : List (BitVec 32) := [1779033703, 3144134277, 1013904242, 2773480762, 1359893119, 2600822924, 528734635, 1541459225]

theorem startL_cells : (wds startL).toArray = #[.int .u32 1779033703, .int .u32 3144134277, .int .u32 1013904242, .int .u32 2773480762, .int .u32 1359893119, .int .u32 2600822924, .int .u32 528734635, .int .u32 1541459225] := by rfl

set_option maxHeartbeats 1000000 in
theorem start_any (w : World) :
    Calls Try.prog 18 #[] w fun e w' => e = .returned (.agg (wds startL).toArray) ∧ Below w.heap.size w w' := by
  go_enter Try.func18, Try.ntmps18
  go_wp2
  exact bodyPost_ret (v := .agg (wds startL).toArray) (results_cell_row Try.results18 _ _ w.heap.size 29 _ (0, 0) _ rfl (heap_alloc_new w _) Try.underlying29 rfl (by kernel_rfl)) rfl ⟨rfl, (Below.refl _ _).alloc (Nat.le_refl _) _⟩

set_option maxHeartbeats 1000000 in
theorem refStart_any (w : World) :
    Calls Try.prog 19 #[] w fun e w' => e = .returned (.agg (wds startL).toArray) ∧ Below w.heap.size w w' := by
  go_enter Try.func19, Try.ntmps19
  go_wp2
  exact bodyPost_ret (v := .agg (wds startL).toArray) (results_cell_row Try.results19 _ _ w.heap.size 26 _ (0, 0) _ rfl (heap_alloc_new w _) Try.underlying26 rfl (by kernel_rfl)) rfl ⟨rfl, (Below.refl _ _).alloc (Nat.le_refl _) _⟩

end Go.Proofs.Ytnlffbjjndmjgaa
