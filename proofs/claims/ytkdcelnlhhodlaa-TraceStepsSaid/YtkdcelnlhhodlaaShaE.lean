/- Walks over package sha: Block. -/
import Derived.Test.YtkdcelnlhhodlaaRows
import Derived.Test.YtkdcelnlhhodlaaShaD
import Derived.Laws.CopyOwn
namespace Go.Proofs.Ytkdcelnlhhodlaa
open Go.RowKit Go.Deep

def t1Of (e f g h k x : BitVec 32) : BitVec 32 := h + (e.rotateRight 6 ^^^ e.rotateRight 11 ^^^ e.rotateRight 25) + (g ^^^ e &&& (f ^^^ g)) + k + x
def t2Of (a b c : BitVec 32) : BitVec 32 := (a.rotateRight 2 ^^^ a.rotateRight 13 ^^^ a.rotateRight 22) + (a &&& b ^^^ a &&& c ^^^ b &&& c)
def roundOf (W : List (BitVec 32)) (t : Nat) : List (BitVec 32) → List (BitVec 32)
  | [a, b, c, d, e, f, g, h] =>
    let t1 := t1Of e f g h (cubeL.getD t 0) (W.getD t 0)
    [t1 + t2Of a b c, a, b, c, d + t1, e, f, g]
  | l => l
def rounds (W H : List (BitVec 32)) : Nat → List (BitVec 32)
  | 0 => H
  | t + 1 => roundOf W t (rounds W H t)
theorem rounds_len (W H : List (BitVec 32)) (h : H.length = 8) : ∀ t, (rounds W H t).length = 8
  | 0 => h
  | t + 1 => by
    have ih := rounds_len W H h t
    unfold rounds
    match h' : rounds W H t, ih with
    | [a, b, c, d, e, f, g, h], _ => simp [roundOf]
theorem eight {α : Type} {l : List α} (h : l.length = 8) : ∃ a b c d e f g i, l = [a, b, c, d, e, f, g, i] := by
  match l, h with
  | [a, b, c, d, e, f, g, i], _ => exact ⟨a, b, c, d, e, f, g, i, rfl⟩
def addTo (H V : List (BitVec 32)) : Nat → List (BitVec 32)
  | 0 => H
  | j + 1 => (addTo H V j).set j ((addTo H V j).getD j 0 + V.getD j 0)
theorem addTo_len (H V : List (BitVec 32)) (h : H.length = 8) : ∀ j, (addTo H V j).length = 8
  | 0 => h
  | j + 1 => by simp [addTo, addTo_len H V h j]
def blockL (H : List (BitVec 32)) (l : List UInt8) : List (BitVec 32) := addTo H (rounds (wordsL l) H 64) 8
theorem copy_src (a b c d e f g i : BitVec 32) : ∀ j v, (wds [a, b, c, d, e, f, g])[j]? = some v → (wds [a, b, c, d, e, f, g, i]).toArray[0 + j]? = some v := by
  intro j v hj
  match j, hj with
  | 0, hj | 1, hj | 2, hj | 3, hj | 4, hj | 5, hj | 6, hj => exact hj
theorem round_step (W H : List (BitVec 32)) (k : Nat) (a b c d e f g i xk xw : BitVec 32) (h : rounds W H k = [a, b, c, d, e, f, g, i]) (hk : xk = cubeL.getD k 0) (hw : xw = W.getD k 0) :
    ((wds [a, a, b, c, d, e, f, g]).toArray.setIfInBounds 0 (.int .u32 (wd (t1Of e f g i xk xw + t2Of a b c)))).setIfInBounds 4 (.int .u32 (wd (d + t1Of e f g i xk xw))) = (wds (rounds W H (k + 1))).toArray := by
  rw [wds_set, wds_set, rounds, h, roundOf, hk, hw]; rfl
theorem add_step (H V : List (BitVec 32)) (j : Nat) : (wds (addTo H V j)).toArray.setIfInBounds j (.int .u32 (wd ((addTo H V j).getD j 0 + V.getD j 0))) = (wds (addTo H V (j + 1))).toArray := wds_set _ _ _

attribute [local go_sem] wd_or wd_xor wd_and wd_add wd_add' wd_shl wd_shl' wd_shr

set_option maxHeartbeats 2000000 in
set_option maxRecDepth 100000 in
theorem block_any (H : List (BitVec 32)) (hH : H.length = 8) (l : List UInt8) (hl : l.length = 64) (w : World) :
    Calls Try.prog 24 #[.agg (wds H).toArray, .agg (u8s l).toArray] w fun e w' => e = .returned (.agg (wds (blockL H l)).toArray) ∧ Below w.heap.size w w' := by
  have Hl := Lib.hid hl
  have HH := Lib.hid hH
  clear hl hH
  go_enter Try.func24, Try.ntmps24
  go_wp2_with fail
  have r0 : Row (((w.alloc (.cells (wds H).toArray 50)).alloc (.cells (u8s l).toArray 55)).alloc (.cells (wds [0, 0, 0, 0, 0, 0, 0, 0]).toArray 50)) w.heap.size 50 (wds H).toArray := ((Row.new _ _ _).alloc _).alloc _
  have r1 : Row (((w.alloc (.cells (wds H).toArray 50)).alloc (.cells (u8s l).toArray 55)).alloc (.cells (wds [0, 0, 0, 0, 0, 0, 0, 0]).toArray 50)) (w.heap.size + 1) 55 (u8s l).toArray := by
    have h := (Row.new (w.alloc (.cells (wds H).toArray 50)) 55 (u8s l).toArray).alloc (.cells (wds [0, 0, 0, 0, 0, 0, 0, 0]).toArray 50)
    rwa [World.size_alloc] at h
  have r2 : Row (((w.alloc (.cells (wds H).toArray 50)).alloc (.cells (u8s l).toArray 55)).alloc (.cells (wds [0, 0, 0, 0, 0, 0, 0, 0]).toArray 50)) (w.heap.size + 1 + 1) 50 (wds [0, 0, 0, 0, 0, 0, 0, 0]).toArray := by
    have h := Row.new ((w.alloc (.cells (wds H).toArray 50)).alloc (.cells (u8s l).toArray 55)) 50 (wds [0, 0, 0, 0, 0, 0, 0, 0]).toArray
    rwa [World.size_alloc, World.size_alloc] at h
  have b0 : Below w.heap.size w (((w.alloc (.cells (wds H).toArray 50)).alloc (.cells (u8s l).toArray 55)).alloc (.cells (wds [0, 0, 0, 0, 0, 0, 0, 0]).toArray 50)) :=
    (((Below.refl _ _).alloc (Nat.le_refl _) _).alloc (by simp) _).alloc (by simp; omega) _
  have s0 : (((w.alloc (.cells (wds H).toArray 50)).alloc (.cells (u8s l).toArray 55)).alloc (.cells (wds [0, 0, 0, 0, 0, 0, 0, 0]).toArray 50)).heap.size = w.heap.size + 3 := by simp
  rw [show #[Value.int IntKind.u32 0, Value.int IntKind.u32 0, Value.int IntKind.u32 0, Value.int IntKind.u32 0, Value.int IntKind.u32 0, Value.int IntKind.u32 0, Value.int IntKind.u32 0, Value.int IntKind.u32 0] = (wds [0, 0, 0, 0, 0, 0, 0, 0]).toArray from rfl]
  generalize (((w.alloc (.cells (wds H).toArray 50)).alloc (.cells (u8s l).toArray 55)).alloc (.cells (wds [0, 0, 0, 0, 0, 0, 0, 0]).toArray 50)) = w1 at r0 r1 r2 b0 s0 ⊢
  refine (words_any (w.heap.size + 1) _ l Hl.out w1 (by omega) r1).mono ?_
  rintro e w2 ⟨gw, rfl, hgw, rw2, bw2⟩
  replace r0 := r0.below bw2 (by omega)
  replace r2 := r2.below bw2 (by omega)
  replace b0 := b0.trans (bw2.mono (by omega))
  have s2 := bw2.size
  go_wp2_with fail
  refine (cubes_any w2).mono ?_
  rintro e w3 ⟨gk, rfl, hgk, rk3, bw3⟩
  have lw2 := rw2.lt
  replace r0 := r0.below bw3 (by omega)
  replace r2 := r2.below bw3 (by omega)
  replace rw2 := rw2.below bw3 (by omega)
  replace b0 := b0.trans (bw3.mono (by omega))
  have s3 := bw3.size
  have lk3 := rk3.lt
  go_wp2_with (first
    | (refine wpList_load_row rfl 48 _ rfl w.heap.size rfl 50 (wds H).toArray (0, 0) _ r0 Try.underlying48 rfl (by rw [wds_size _ HH.out]; kernel_rfl) ?_)
    | (refine wpList_store_row rfl 48 _ _ rfl w3.heap.size (wds H).toArray rfl rfl 48 _ (heap_alloc_new w3 _) (by rw [wds_size _ HH.out]; kernel_rfl) (by rw [wds_size _ HH.out]; rfl) (wds_one H) ?_
       rw [World.setRow_alloc_new]))
  have rv4 := Row.new w3 48 (wds H).toArray
  have b4 := (Below.refl w3.heap.size w3).alloc (Nat.le_refl _) (.cells (wds H).toArray 48)
  generalize w3.alloc (.cells (wds H).toArray 48) = w4 at rv4 b4 ⊢
  have Hrl := Lib.hid (rounds_len (wordsL l) H HH.out)
  go_loopw [18] (fun i wr => ∃ k : Nat, i = .int .i64 (k : Int) ∧ k ≤ 64 ∧ Row wr w3.heap.size 48 (wds (rounds (wordsL l) H k)).toArray ∧ Below w3.heap.size w3 wr) (fun i _ => (64 - intOf i).toNat)
  case atStart => exact ⟨0, by simp, by omega, rv4, b4⟩
  case round =>
    clear rv4 b4
    obtain ⟨k, rfl, hk, hr, hb⟩ := hrel
    by_cases hk64 : k < 64
    · obtain ⟨a, b, c, d, e, f, g, i, heq⟩ := eight (Hrl.out k)
      rw [heq] at hr
      have Heq := Lib.hid heq
      clear heq
      have c0 := hr.cellv (i := 0) (v := .int .u32 (wd a)) rfl
      have c1 := hr.cellv (i := 1) (v := .int .u32 (wd b)) rfl
      have c2 := hr.cellv (i := 2) (v := .int .u32 (wd c)) rfl
      have c4 := hr.cellv (i := 4) (v := .int .u32 (wd e)) rfl
      have c5 := hr.cellv (i := 5) (v := .int .u32 (wd f)) rfl
      have c6 := hr.cellv (i := 6) (v := .int .u32 (wd g)) rfl
      have c7 := hr.cellv (i := 7) (v := .int .u32 (wd i)) rfl
      have ck := (rk3.below hb (by omega)).cellv (wds_at cubeL k (by show k < 64; omega))
      have cw := (rw2.below hb (by omega)).cellv (wds_at (wordsL l) k (by rw [wordsL, expand_len _ (fill_len _ _)]; omega))
      obtain ⟨xk, hxk⟩ : ∃ x, x = cubeL.getD k 0 := ⟨_, rfl⟩
      obtain ⟨xw, hxw⟩ : ∃ x, x = (wordsL l).getD k 0 := ⟨_, rfl⟩
      rw [← hxk] at ck
      rw [← hxw] at cw
      have Hxk := Lib.hid hxk
      have Hxw := Lib.hid hxw
      clear hxk hxw
      go_wp2
      go_quiet (fail)
      go_wp2
      go_quiet ((go_at_call 38; exact quiet_more (right_same _ _ (by omega) (by omega) _)))
      go_wp2
      go_quiet ((go_at_call 38; exact quiet_more (right_same _ _ (by omega) (by omega) _)))
      go_wp2
      refine region_still_tail 2 (by kernel_rfl) (by kernel_rfl) ?_
      simp only [List.take_succ_cons, List.take_zero, List.drop_succ_cons, List.drop_zero]
      repeat still_step
      refine wpStill_nil ?_
      refine wpList_copy_own rfl _ _ 73 73 rfl 47 Try.underlying73 (by kernel_rfl) w3.heap.size 1 7 7 ⟨w3.heap.size, 0, none⟩ 7 8 rfl rfl (wds [a, b, c, d, e, f, g, i]).toArray 48 hr (wds [a, b, c, d, e, f, g]) rfl ?_ (by simp [wds]) ?_ ?_
      · exact Row.from_ (cur := (wds [a, b, c, d, e, f, g, i]).toArray) hr 0 (copy_src a b c d e f g i)
      · exact fun v hv => (Array.all_eq_true_iff_forall_mem.1 (wds_one _)) v (by simpa using hv)
      generalize hw9 : World.setRow _ _ _ = w9
      have hr9 : Row w9 w3.heap.size 48 (wds [a, a, b, c, d, e, f, g]).toArray := by rw [← hw9]; exact Row.setRow (cs := (wds [a, b, c, d, e, f, g, i]).toArray) hr _
      have hb9 : Below w3.heap.size w3 w9 := by rw [← hw9]; exact below_setRow_ (Below.drew (below_drewN (below_drewN (below_drewN hb _) _) _)) (Nat.le_refl _) _
      clear hw9 c0 c1 c2 c4 c5 c6 c7 ck cw hr hb
      have c4 := hr9.cellv (i := 4) (v := .int .u32 (wd d)) rfl
      have c0 := hr9.cellv (i := 0) (v := .int .u32 (wd a)) rfl
      have f4 := hr9.free 4
      have f0 := hr9.free 0
      go_wp2
      go_roundw
      case rel => exact ⟨k + 1, by go_num, by omega, by rw [← round_step _ _ _ _ _ _ _ _ _ _ _ _ _ Heq.out Hxk.out Hxw.out]; exact (hr9.set _ _).set _ _, (hb9.setCell (p := ⟨w3.heap.size, 0, none⟩) (Nat.le_refl _) _).setCell (p := ⟨w3.heap.size, 4, none⟩) (Nat.le_refl _) _⟩
      case measure => simp [intOf]; omega
    · obtain rfl : k = 64 := by omega
      clear hk64
      rw [show ((64 : Nat) : Int) = 64 from rfl]
      have r0 := r0.below hb (by omega)
      have r2 := r2.below hb (by omega)
      have b0 := b0.trans (hb.mono (by omega))
      have gv : w.heap.size + 2 < w3.heap.size := by omega
      obtain ⟨V, hV⟩ : ∃ V, V = rounds (wordsL l) H 64 := ⟨_, rfl⟩
      have hVl : V.length = 8 := by rw [hV]; exact Hrl.out 64
      rw [← hV] at hr
      have HV := Lib.hid hV
      have HVl := Lib.hid hVl
      clear hV hVl hb rw2 rk3 bw3 bw2
      obtain ⟨G, hG⟩ : ∃ G, G = w3.heap.size := ⟨_, rfl⟩
      rw [← hG] at hr gv ⊢
      clear hG
      go_wp2
      go_loopw [96] (fun i wr => ∃ k : Nat, i = .int .i64 (k : Int) ∧ k ≤ 8 ∧ Row wr w.heap.size 50 (wds (addTo H V k)).toArray ∧ Row wr G 48 (wds V).toArray ∧ Row wr (w.heap.size + 1 + 1) 50 (wds [0, 0, 0, 0, 0, 0, 0, 0]).toArray ∧ Below w.heap.size w wr) (fun i _ => (8 - intOf i).toNat)
      case atStart => exact ⟨0, by simp, by omega, r0, hr, r2, b0⟩
      case round =>
        clear hr r0 r2 b0
        obtain ⟨k, rfl, hk, r0, hr, r2, b0⟩ := hrel
        by_cases hk8 : k < 8
        · have c0 := r0.cellv (wds_at _ k (by rw [addTo_len _ _ HH.out]; exact hk8))
          have c1 := hr.cellv (wds_at _ k (by rw [HVl.out]; exact hk8))
          have f0 := r0.free k
          have hk8' : (k : Int) < 8 := by omega
          go_wp2
          refine region_still_tail 10 (by kernel_rfl) (by kernel_rfl) ?_
          simp only [List.take_succ_cons, List.take_zero, List.drop_succ_cons, List.drop_zero]
          repeat still_step
          refine wpStill_nil ?_
          go_wp2
          go_roundw
          case rel => exact ⟨k + 1, by go_num, by omega, by rw [← add_step]; exact r0.drew.set _ _, (hr.drew).far (by show G ≠ w.heap.size; omega) _, (r2.drew).far (by show w.heap.size + 1 + 1 ≠ w.heap.size; omega) _, b0.drew.setCell (p := ⟨w.heap.size, k, none⟩) (Nat.le_refl _) _⟩
          case measure => simp [intOf]; omega
        · obtain rfl : k = 8 := by omega
          clear hk8
          have hsz : (wds (addTo H V 8)).toArray.size = 8 := wds_size _ (addTo_len _ _ HH.out 8)
          have Hsz := Lib.hid hsz
          clear hsz
          go_wp2_with (first
            | (refine wpList_load_row rfl 50 _ rfl w.heap.size rfl 50 (wds (addTo H V 8)).toArray (0, 0) _ r0 Try.underlying50 rfl (by rw [Hsz.out]; kernel_rfl) ?_)
            | (refine wpList_store_row rfl 50 _ _ rfl (w.heap.size + 1 + 1) (wds (addTo H V 8)).toArray rfl rfl 50 _ r2 (by rw [Hsz.out]; kernel_rfl) (by rw [Hsz.out]; rfl) (wds_one _) ?_))
          exact bodyPost_ret (v := .agg (wds (addTo H V 8)).toArray) (results_cell_row Try.results24 _ _ (w.heap.size + 1 + 1) 50 _ (0, 0) _ rfl (r2.setRow _) Try.underlying50 rfl (by rw [Hsz.out]; kernel_rfl)) rfl ⟨by rw [blockL, ← HV.out], below_setRow_ b0 (by omega) _⟩

end Go.Proofs.Ytkdcelnlhhodlaa
