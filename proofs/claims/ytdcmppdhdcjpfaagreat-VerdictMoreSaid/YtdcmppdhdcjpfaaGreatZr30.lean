/- Lemmas for VerdictMoreP. -/
import Derived.Test.YtdcmppdhdcjpfaaGreatZr29
import Derived.Test.YtdcmppdhdcjpfaaGreatZr28
import Derived.Test.YtdcmppdhdcjpfaaGreatZr1
import Derived.Test.YtdcmppdhdcjpfaaGreatRows
import Derived.Laws.CopyOwn
import Derived.Lib.ConvBytes
import Derived.Laws.Cover3
set_option linter.unusedVariables false
set_option linter.unusedSimpArgs false
set_option maxRecDepth 100000
set_option maxHeartbeats 16000000
namespace Go.Proofs.YtdcmppdhdcjpfaaGreat
open Go.RowKit Go.Deep
def AiB (e f g h k x : BitVec 32) : BitVec 32 := h + (e.rotateRight 6 ^^^ e.rotateRight 11 ^^^ e.rotateRight 25) + (g ^^^ e &&& (f ^^^ g)) + k + x
def Ai6 (a b c : BitVec 32) : BitVec 32 := (a.rotateRight 2 ^^^ a.rotateRight 13 ^^^ a.rotateRight 22) + (a &&& b ^^^ a &&& c ^^^ b &&& c)
def Aa2 (W : List (BitVec 32)) (t : Nat) : List (BitVec 32) → List (BitVec 32)
 | [a, b, c, d, e, f, g, h] =>
  let t1 := AiB e f g h (cubeL.getD t 0) (W.getD t 0)
  [t1 + Ai6 a b c, a, b, c, d + t1, e, f, g]
 | l => l
def K0 (W H : List (BitVec 32)) : Nat → List (BitVec 32)
 | 0 => H
 | t + 1 => Aa2 W t (K0 W H t)
theorem VT (W H : List (BitVec 32)) (h : H.length = 8) : ∀ t, (K0 W H t).length = 8
 | 0 => h
 | t + 1 => by
  have ih := VT W H h t
  unfold K0
  match h' : K0 W H t, ih with
  | [a, b, c, d, e, f, g, h], _ => simp [Aa2]
theorem AiR {α : Type} {l : List α} (h : l.length = 8) : ∃ a b c d e f g i, l = [a, b, c, d, e, f, g, i] := by
 match l, h with
 | [a, b, c, d, e, f, g, i], _ => exact ⟨a, b, c, d, e, f, g, i, rfl⟩
def K7 (H V : List (BitVec 32)) : Nat → List (BitVec 32)
 | 0 => H
 | j + 1 => (K7 H V j).set j ((K7 H V j).getD j 0 + V.getD j 0)
theorem K9 (H V : List (BitVec 32)) (h : H.length = 8) : ∀ j, (K7 H V j).length = 8
 | 0 => h
 | j + 1 => by simp [K7, K9 H V h j]
def Ye (H : List (BitVec 32)) (l : List UInt8) : List (BitVec 32) := K7 H (K0 (X2 l) H 64) 8
theorem AfQ (a b c d e f g i : BitVec 32) : ∀ j v, (wds [a, b, c, d, e, f, g])[j]? = some v → (wds [a, b, c, d, e, f, g, i]).toArray[0 + j]? = some v := by
 intro j v hj
 match j, hj with
 | 0, hj | 1, hj | 2, hj | 3, hj | 4, hj | 5, hj | 6, hj => exact hj
theorem AdS (W H : List (BitVec 32)) (k : Nat) (a b c d e f g i xk xw : BitVec 32) (h : K0 W H k = [a, b, c, d, e, f, g, i]) (hk : xk = cubeL.getD k 0) (hw : xw = W.getD k 0) :
 ((wds [a, a, b, c, d, e, f, g]).toArray.setIfInBounds 0 (.int .u32 (wd (AiB e f g i xk xw + Ai6 a b c)))).setIfInBounds 4 (.int .u32 (wd (d + AiB e f g i xk xw))) = (wds (K0 W H (k + 1))).toArray := by
 rw [Y4, Y4, K0, h, Aa2, hk, hw]; rfl
theorem AfE (H V : List (BitVec 32)) (j : Nat) : (wds (K7 H V j)).toArray.setIfInBounds j (.int .u32 (wd ((K7 H V j).getD j 0 + V.getD j 0))) = (wds (K7 H V (j + 1))).toArray := Y4 _ _ _
attribute [local go_sem] AeG AdZ AdY Abh Abi Abj UX X0
theorem AeL (H : List (BitVec 32)) (hH : H.length = 8) (l : List UInt8) (hl : l.length = 64) (w : World) :
 Calls Tryz.prog 153 #[.agg (wds H).toArray, .agg (u8s l).toArray] w fun e w' => e = .returned (.agg (wds (Ye H l)).toArray) ∧ Below w.heap.size w w' := by
 have Hl := Lh hl
 have HH := Lh hH
 clear hl hH
 go_enter Tryz.func153, Tryz.ntmps153
 go_wp2_with fail
 have r0 : Row (((w.alloc (.cells (wds H).toArray 207)).alloc (.cells (u8s l).toArray 213)).alloc (.cells (wds [0, 0, 0, 0, 0, 0, 0, 0]).toArray 207)) w.heap.size 207 (wds H).toArray := ((Row.new _ _ _).alloc _).alloc _
 have r1 : Row (((w.alloc (.cells (wds H).toArray 207)).alloc (.cells (u8s l).toArray 213)).alloc (.cells (wds [0, 0, 0, 0, 0, 0, 0, 0]).toArray 207)) (w.heap.size + 1) 213 (u8s l).toArray := by
  have h := (Row.new (w.alloc (.cells (wds H).toArray 207)) 213 (u8s l).toArray).alloc (.cells (wds [0, 0, 0, 0, 0, 0, 0, 0]).toArray 207)
  rwa [World.size_alloc] at h
 have r2 : Row (((w.alloc (.cells (wds H).toArray 207)).alloc (.cells (u8s l).toArray 213)).alloc (.cells (wds [0, 0, 0, 0, 0, 0, 0, 0]).toArray 207)) (w.heap.size + 1 + 1) 207 (wds [0, 0, 0, 0, 0, 0, 0, 0]).toArray := by
  have h := Row.new ((w.alloc (.cells (wds H).toArray 207)).alloc (.cells (u8s l).toArray 213)) 207 (wds [0, 0, 0, 0, 0, 0, 0, 0]).toArray
  rwa [World.size_alloc, World.size_alloc] at h
 have b0 : Below w.heap.size w (((w.alloc (.cells (wds H).toArray 207)).alloc (.cells (u8s l).toArray 213)).alloc (.cells (wds [0, 0, 0, 0, 0, 0, 0, 0]).toArray 207)) :=
  (((Below.refl _ _).alloc (Nat.le_refl _) _).alloc (by simp) _).alloc (by simp; omega) _
 have s0 : (((w.alloc (.cells (wds H).toArray 207)).alloc (.cells (u8s l).toArray 213)).alloc (.cells (wds [0, 0, 0, 0, 0, 0, 0, 0]).toArray 207)).heap.size = w.heap.size + 3 := by simp
 rw [show #[Value.int IntKind.u32 0, Value.int IntKind.u32 0, Value.int IntKind.u32 0, Value.int IntKind.u32 0, Value.int IntKind.u32 0, Value.int IntKind.u32 0, Value.int IntKind.u32 0, Value.int IntKind.u32 0] = (wds [0, 0, 0, 0, 0, 0, 0, 0]).toArray from rfl]
 generalize (((w.alloc (.cells (wds H).toArray 207)).alloc (.cells (u8s l).toArray 213)).alloc (.cells (wds [0, 0, 0, 0, 0, 0, 0, 0]).toArray 207)) = w1 at r0 r1 r2 b0 s0 ⊢
 refine (AfA (w.heap.size + 1) _ l Hl.out w1 (by omega) r1).mono ?_
 rintro e w2 ⟨gw, rfl, hgw, rw2, bw2⟩
 replace r0 := r0.below bw2 (by omega)
 replace r2 := r2.below bw2 (by omega)
 replace b0 := b0.trans (bw2.mono (by omega))
 have s2 := bw2.size
 go_wp2_with fail
 refine (AeQ w2).mono ?_
 rintro e w3 ⟨gk, rfl, hgk, rk3, bw3⟩
 have lw2 := rw2.lt
 replace r0 := r0.below bw3 (by omega)
 replace r2 := r2.below bw3 (by omega)
 replace rw2 := rw2.below bw3 (by omega)
 replace b0 := b0.trans (bw3.mono (by omega))
 have s3 := bw3.size
 have lk3 := rk3.lt
 go_wp2_with (first
  | (refine wpList_load_row rfl 205 _ rfl w.heap.size rfl 207 (wds H).toArray (0, 0) _ r0 Tryz.underlying205 rfl (by rw [Ju _ HH.out]; kernel_rfl) ?_)
  | (refine wpList_store_row rfl 205 _ _ rfl w3.heap.size (wds H).toArray rfl rfl 205 _ (heap_alloc_new w3 _) (by rw [Ju _ HH.out]; kernel_rfl) (by rw [Ju _ HH.out]; rfl) (Y3 H) ?_
     rw [World.setRow_alloc_new]))
 have rv4 := Row.new w3 205 (wds H).toArray
 have b4 := (Below.refl w3.heap.size w3).alloc (Nat.le_refl _) (.cells (wds H).toArray 205)
 generalize w3.alloc (.cells (wds H).toArray 205) = w4 at rv4 b4 ⊢
 have Hrl := Lh (VT (X2 l) H HH.out)
 go_loopw [18] (fun i wr => ∃ k : Nat, i = .int .i64 (k : Int) ∧ k ≤ 64 ∧ Row wr w3.heap.size 205 (wds (K0 (X2 l) H k)).toArray ∧ Below w3.heap.size w3 wr) (fun i _ => (64 - intOf i).toNat)
 case atStart => exact ⟨0, by simp, by omega, rv4, b4⟩
 case round =>
  clear rv4 b4
  obtain ⟨k, rfl, hk, hr, hb⟩ := hrel
  by_cases hk64 : k < 64
  · obtain ⟨a, b, c, d, e, f, g, i, heq⟩ := AiR (Hrl.out k)
    rw [heq] at hr
    have Heq := Lh heq
    clear heq
    have c0 := hr.cellv (i := 0) (v := .int .u32 (wd a)) rfl
    have c1 := hr.cellv (i := 1) (v := .int .u32 (wd b)) rfl
    have c2 := hr.cellv (i := 2) (v := .int .u32 (wd c)) rfl
    have c4 := hr.cellv (i := 4) (v := .int .u32 (wd e)) rfl
    have c5 := hr.cellv (i := 5) (v := .int .u32 (wd f)) rfl
    have c6 := hr.cellv (i := 6) (v := .int .u32 (wd g)) rfl
    have c7 := hr.cellv (i := 7) (v := .int .u32 (wd i)) rfl
    have ck := (rk3.below hb (by omega)).cellv (KN cubeL k (by show k < 64; omega))
    have cw := (rw2.below hb (by omega)).cellv (KN (X2 l) k (by rw [X2, Jy _ (Kg _ _)]; omega))
    obtain ⟨xk, hxk⟩ : ∃ x, x = cubeL.getD k 0 := ⟨_, rfl⟩
    obtain ⟨xw, hxw⟩ : ∃ x, x = (X2 l).getD k 0 := ⟨_, rfl⟩
    rw [← hxk] at ck
    rw [← hxw] at cw
    have Hxk := Lh hxk
    have Hxw := Lh hxw
    clear hxk hxw
    go_wp2
    go_quiet (fail)
    go_wp2
    go_quiet ((go_at_call 231; exact VK (Yp _ _ (by omega) (by omega) _)))
    go_wp2
    go_quiet ((go_at_call 231; exact VK (Yp _ _ (by omega) (by omega) _)))
    go_wp2
    refine QT 2 (by kernel_rfl) (by kernel_rfl) ?_
    simp only [List.take_succ_cons, List.take_zero, List.drop_succ_cons, List.drop_zero]
    repeat still_step
    refine wpStill_nil ?_
    refine wpList_copy_own rfl _ _ 284 284 rfl 92 Tryz.underlying284 (by kernel_rfl) w3.heap.size 1 7 7 ⟨w3.heap.size, 0, none⟩ 7 8 rfl rfl (wds [a, b, c, d, e, f, g, i]).toArray 205 hr (wds [a, b, c, d, e, f, g]) rfl ?_ (by simp [wds]) ?_ ?_
    · exact Row.from_ (cur := (wds [a, b, c, d, e, f, g, i]).toArray) hr 0 (AfQ a b c d e f g i)
    · exact fun v hv => (Array.all_eq_true_iff_forall_mem.1 (Y3 _)) v (by simpa using hv)
    generalize hw9 : World.setRow _ _ _ = w9
    have hr9 : Row w9 w3.heap.size 205 (wds [a, a, b, c, d, e, f, g]).toArray := by rw [← hw9]; exact Row.setRow (cs := (wds [a, b, c, d, e, f, g, i]).toArray) hr _
    have hb9 : Below w3.heap.size w3 w9 := by rw [← hw9]; exact Ka (Below.drew (ZK (ZK (ZK hb _) _) _)) (Nat.le_refl _) _
    clear hw9 c0 c1 c2 c4 c5 c6 c7 ck cw hr hb
    have c4 := hr9.cellv (i := 4) (v := .int .u32 (wd d)) rfl
    have c0 := hr9.cellv (i := 0) (v := .int .u32 (wd a)) rfl
    have f4 := hr9.free 4
    have f0 := hr9.free 0
    go_wp2
    go_roundw
    case rel => exact ⟨k + 1, by go_num, by omega, by rw [← AdS _ _ _ _ _ _ _ _ _ _ _ _ _ Heq.out Hxk.out Hxw.out]; exact (hr9.set _ _).set _ _, (hb9.setCell (p := ⟨w3.heap.size, 0, none⟩) (Nat.le_refl _) _).setCell (p := ⟨w3.heap.size, 4, none⟩) (Nat.le_refl _) _⟩
    case measure => simp [intOf]; omega
  · obtain rfl : k = 64 := by omega
    clear hk64
    rw [show ((64 : Nat) : Int) = 64 from rfl]
    have r0 := r0.below hb (by omega)
    have r2 := r2.below hb (by omega)
    have b0 := b0.trans (hb.mono (by omega))
    have gv : w.heap.size + 2 < w3.heap.size := by omega
    obtain ⟨V, hV⟩ : ∃ V, V = K0 (X2 l) H 64 := ⟨_, rfl⟩
    have hVl : V.length = 8 := by rw [hV]; exact Hrl.out 64
    rw [← hV] at hr
    have HV := Lh hV
    have HVl := Lh hVl
    clear hV hVl hb rw2 rk3 bw3 bw2
    obtain ⟨G, hG⟩ : ∃ G, G = w3.heap.size := ⟨_, rfl⟩
    rw [← hG] at hr gv ⊢
    clear hG
    go_wp2
    go_loopw [96] (fun i wr => ∃ k : Nat, i = .int .i64 (k : Int) ∧ k ≤ 8 ∧ Row wr w.heap.size 207 (wds (K7 H V k)).toArray ∧ Row wr G 205 (wds V).toArray ∧ Row wr (w.heap.size + 1 + 1) 207 (wds [0, 0, 0, 0, 0, 0, 0, 0]).toArray ∧ Below w.heap.size w wr) (fun i _ => (8 - intOf i).toNat)
    case atStart => exact ⟨0, by simp, by omega, r0, hr, r2, b0⟩
    case round =>
     clear hr r0 r2 b0
     obtain ⟨k, rfl, hk, r0, hr, r2, b0⟩ := hrel
     by_cases hk8 : k < 8
     · have c0 := r0.cellv (KN _ k (by rw [K9 _ _ HH.out]; exact hk8))
       have c1 := hr.cellv (KN _ k (by rw [HVl.out]; exact hk8))
       have f0 := r0.free k
       have hk8' : (k : Int) < 8 := by omega
       go_wp2
       refine QT 10 (by kernel_rfl) (by kernel_rfl) ?_
       simp only [List.take_succ_cons, List.take_zero, List.drop_succ_cons, List.drop_zero]
       repeat still_step
       refine wpStill_nil ?_
       go_wp2
       go_roundw
       case rel => exact ⟨k + 1, by go_num, by omega, by rw [← AfE]; exact r0.drew.set _ _, (hr.drew).far (by show G ≠ w.heap.size; omega) _, (r2.drew).far (by show w.heap.size + 1 + 1 ≠ w.heap.size; omega) _, b0.drew.setCell (p := ⟨w.heap.size, k, none⟩) (Nat.le_refl _) _⟩
       case measure => simp [intOf]; omega
     · obtain rfl : k = 8 := by omega
       clear hk8
       have hsz : (wds (K7 H V 8)).toArray.size = 8 := Ju _ (K9 _ _ HH.out 8)
       have Hsz := Lh hsz
       clear hsz
       go_wp2_with (first
        | (refine wpList_load_row rfl 207 _ rfl w.heap.size rfl 207 (wds (K7 H V 8)).toArray (0, 0) _ r0 Tryz.underlying207 rfl (by rw [Hsz.out]; kernel_rfl) ?_)
        | (refine wpList_store_row rfl 207 _ _ rfl (w.heap.size + 1 + 1) (wds (K7 H V 8)).toArray rfl rfl 207 _ r2 (by rw [Hsz.out]; kernel_rfl) (by rw [Hsz.out]; rfl) (Y3 _) ?_))
       exact bodyPost_ret (v := .agg (wds (K7 H V 8)).toArray) (results_cell_row Tryz.results153 _ _ (w.heap.size + 1 + 1) 207 _ (0, 0) _ rfl (r2.setRow _) Tryz.underlying207 rfl (by rw [Hsz.out]; kernel_rfl)) rfl ⟨by rw [Ye, ← HV.out], Ka b0 (by omega) _⟩
end Go.Proofs.YtdcmppdhdcjpfaaGreat
namespace Go.Proofs.YtdcmppdhdcjpfaaGreat
open Go.RowKit Go.Deep
def Eo (x : BitVec 32) : List UInt8 := [UInt8.ofNat (x >>> 24).toNat, UInt8.ofNat (x >>> 16).toNat, UInt8.ofNat (x >>> 8).toNat, UInt8.ofNat x.toNat]
def KY (H : List (BitVec 32)) : List UInt8 := H.flatMap Eo
theorem Ac6 (H : List (BitVec 32)) : (KY H).length = 4 * H.length := by
 induction H with
 | nil => rfl
 | cons a l ih => simp only [KY, List.flatMap_cons, List.length_append, List.length_cons] at ih ⊢; rw [ih]; simp [Eo]; omega
theorem Aby (H : List (BitVec 32)) (k : Nat) (h : k < H.length) : KY (H.take (k + 1)) = KY (H.take k) ++ Eo (H.getD k 0) := by
 rw [List.take_succ_eq_append_getElem h, KY, List.flatMap_append]
 simp [KY, List.getD, List.getElem?_eq_getElem h]
theorem Ahc (x : BitVec 32) : wd x % (256 : Int) = ((UInt8.ofNat x.toNat).toNat : Int) := by
 unfold wd; simp
theorem Ae1 (w : World) : (isAgg 92).run Tryz.prog w = .ok false w := by
 unfold isAgg; simp [run_underlying Tryz.underlying92]
theorem Agt (H : List (BitVec 32)) (i : Nat) (hi : i < H.length) (w : World) : (part 92 (wds H).toArray i).run Tryz.prog w = .ok (.int .u32 (wd (H.getD i 0))) w := by
 unfold part
 rw [Sem.run_bind, Ae1]
 simp only [Result.andThen_ok, Bool.false_eq_true, if_false, KN H i hi]
 rfl
theorem Aeu (x : BitVec 32) : [Value.int .u8 (wd (x >>> 24) % (256 : Int)), .int .u8 (wd (x >>> 16) % (256 : Int)), .int .u8 (wd (x >>> 8) % (256 : Int)), .int .u8 (wd x % (256 : Int))] = u8s (Eo x) := by
 simp only [Ahc, u8s, Eo, List.map_cons, List.map_nil]
attribute [local go_sem] AgS AgR Ah6
theorem AeM (H : List (BitVec 32)) (hH : H.length = 8) (w : World) :
 Calls Tryz.prog 154 #[.agg (wds H).toArray] w fun e w' => e = .returned (.string ⟨(KY H).toArray⟩) ∧ Below w.heap.size w w' := by
 have HH := Lh hH
 clear hH
 obtain ⟨i0, hi0, hz0, hz1, hz2⟩ := info_parts UQ
 have r0 := Row.new w 207 (wds H).toArray
 have b0 := (Below.refl w.heap.size w).alloc (Nat.le_refl _) (.cells (wds H).toArray 207)
 have s0 : w.heap.size + 1 ≤ (w.alloc (.cells (wds H).toArray 207)).heap.size := by simp
 go_enter Tryz.func154, Tryz.ntmps154
 go_wp2_with (first
  | (refine wpList_load_row rfl 205 _ rfl w.heap.size rfl 207 (wds H).toArray (0, 0) _ r0 Tryz.underlying205 rfl (by rw [Ju _ HH.out]; kernel_rfl) ?_))
 generalize w.alloc (.cells (wds H).toArray 207) = w1 at r0 b0 s0 ⊢
 go_loopw [3, 8] (fun v i wr => ∃ k : Nat, i = .int .i64 (k : Int) ∧ k ≤ 8 ∧ wr.ownsRow (w.heap.size + 1) 5 1 v (4 * k) (u8s (KY (H.take k))) ∧ Below w.heap.size w wr ∧ w.heap.size + 1 ≤ wr.heap.size) (fun _ i _ => (8 - intOf i).toNat)
 case atStart => exact ⟨0, by simp, by omega, World.ownsRow_nil _ _ _ _, b0, s0⟩
 case round =>
  obtain ⟨k, rfl, hk, hown, hb, hs⟩ := hrel
  by_cases hk8 : k < 8
  · have hidx := EB (P := Tryz.prog) wr 205 92 8 (wds H).toArray .i64 k _ Tryz.underlying205 (Agt H k (by rw [HH.out]; exact hk8) wr) (by kernel_rfl) hk8
    obtain ⟨x, hx⟩ : ∃ x, x = H.getD k 0 := ⟨_, rfl⟩
    rw [← hx] at hidx
    have Hx := Lh hx
    clear hx
    have hk8' : (k : Int) < 8 := by omega
    go_wp2_with (
     (at_builtin
      refine wpList_append_own _ rfl (.tmp 11) (.tmp 23) 277 rfl (w.heap.size + 1) 5 i0 (.int .u8 0) 1 1 Tryz.underlying277 hi0 hz0 hz1 hz2 rfl (by decide) _ _ _ rfl (hown.alloc _) ⟨wr.heap.size, 0, none⟩ 4 4 [.int .u8 (wd (x >>> 24) % (256 : Int)), .int .u8 (wd (x >>> 16) % (256 : Int)), .int .u8 (wd (x >>> 8) % (256 : Int)), .int .u8 (wd x % (256 : Int))] rfl rfl (Jz _ _ _) ?c2 (by unfold maxLen; omega) (by omega) (by simp; omega) ?_))
    case c2 => rw [Aeu]; exact UJ _
    intro v' w2 hown' hg _
    have hb2 := Qm (hb.alloc (by omega) _) (hown.alloc _) hg (by simp; omega) (by omega)
    have hs2 := hg.size
    rw [World.size_alloc] at hs2
    rw [Aeu, Hx.out] at hown'
    clear hg hidx hown hb
    go_wp2
    go_roundw
    case rel => exact ⟨k + 1, by go_num, by omega, by rw [Aby H k (by rw [HH.out]; exact hk8), Yt]; exact hown', hb2, by omega⟩
    case measure => simp [intOf]; omega
  · obtain rfl : k = 8 := by omega
    clear hk8
    rw [show ((8 : Nat) : Int) = 8 from rfl]
    rw [List.take_of_length_le (by rw [HH.out]; omega)] at hown
    have hconv := JO (P := Tryz.prog) 277 9 5 Tryz.underlying277 Tryz.underlying5 Tryz.underlying9 _ hown
    clear hown
    go_wp2
    go_ret
    exact ⟨rfl, hb⟩
end Go.Proofs.YtdcmppdhdcjpfaaGreat
namespace Go.Proofs.YtdcmppdhdcjpfaaGreat
open Go.RowKit Go.Deep
attribute [local go_sem] Oper.semAt_some
abbrev Ux := { l : List UInt8 // l.length = 64 }
def Aeb (l : List UInt8) (h : 64 ≤ l.length) : Ux := ⟨l.take 64, by simp; omega⟩
def JX : Nat → List UInt8 → List Ux
 | 0, _ => []
 | n + 1, l => if h : 64 ≤ l.length then Aeb l h :: JX n (l.drop 64) else []
def Ain (w : World) (b : Nat) : Nat := match w.cell? ⟨b, 0, none⟩ with | some (.string s) => s.size | _ => 0
theorem ER : ∀ (n k : Nat) (l : List UInt8), k < n → 64 * (k + 1) ≤ l.length → ∃ c : Ux, (JX n l)[k]? = some c ∧ c.1 = (l.drop (64 * k)).take 64
 | 0, k, l, h, _ => by omega
 | n + 1, 0, l, _, h => by
  rw [JX, dif_pos (by omega)]
  exact ⟨_, rfl, by simp [Aeb]⟩
 | n + 1, k + 1, l, h, h2 => by
  rw [JX, dif_pos (by omega)]
  obtain ⟨c, h3, h4⟩ := ER n k (l.drop 64) (by omega) (by simp; omega)
  exact ⟨c, by simpa using h3, by rw [h4, List.drop_drop, Nat.mul_add, Nat.add_comm]⟩
theorem U9 : ∀ (n : Nat) (l : List UInt8), 64 * n ≤ l.length → (JX n l).length = n
 | 0, l, _ => rfl
 | n + 1, l, h => by
  rw [JX, dif_pos (by omega), List.length_cons, U9 n (l.drop 64) (by simp; omega)]
theorem AbJ (l : List UInt8) (k : Nat) (x : Ux) (hx : x.1 = (l.drop (64 * k)).take 64) (h : 64 * (k + 1) ≤ l.length) :
 (JX (l.length / 64) l).take (k + 1) = (JX (l.length / 64) l).take k ++ [x] := by
 obtain ⟨c, h3, h4⟩ := ER (l.length / 64) k l (by omega) h
 have hl : k < (JX (l.length / 64) l).length := (List.getElem?_eq_some_iff.1 h3).1
 rw [List.take_succ_eq_append_getElem hl]
 rw [List.getElem?_eq_getElem hl] at h3
 have : c = x := Subtype.ext (h4.trans hx.symm)
 rw [← this]
 injection h3 with h3
 rw [h3]
theorem Y8 (w : World) (e : TypeId) (s : ByteArray) : w.grownBy (Lib.bytesWorld w e s) none :=
 ⟨rfl, rfl, rfl, by rw [Lib.bytesWorld_size]; omega, fun k hk _ => Lib.bytesWorld_at_old w e s k hk⟩
theorem Aaz (bs : Nat) (s : List UInt8) (hs : s.length ≤ 2000000) (w : World) (hrow : Row w bs 9 #[.string ⟨s.toArray⟩]) :
 Abr Tryz.prog 228 #[.pointer (some ⟨bs, 0, none⟩)] (fun x : Ux => #[.agg (u8s x.1).toArray]) (· = bs) (fun A B => B.heap[bs]? = A.heap[bs]? ∧ A.heap.size ≤ B.heap.size) (fun xs => xs = JX (s.length / 64) s) (fun _ => True) (s.length / 64) w := by
 intro l J Jx W _ hwW hJ hJx hY h0
 refine callsIn_of_wp Tryz.func228 rfl trivial ?_ rfl
 simp only [Tryz.ntmps228, List.size_toArray, List.length_cons, List.length_nil, Nat.reduceAdd, Nat.reduceSub, Array.replicate_succ, Array.replicate_zero, List.push_toArray, List.append_toArray, List.nil_append, List.cons_append]
 gi_wp2
 have hrW : Row W bs 9 #[.string ⟨s.toArray⟩] := (hwW.block bs hrow.lt (by simp)).trans hrow
 clear hrow hwW
 gi_loopw [3] (fun _ wr => ∃ (k : Nat) (q : ByteArray), q.data.toList = s.drop (64 * k) ∧ 64 * k ≤ s.length ∧ Row wr bs 9 #[.string q] ∧ J ((JX (s.length / 64) s).take k) wr) (fun _ wr => Ain wr bs)
 case atStart => exact ⟨0, ⟨s.toArray⟩, by simp, by omega, hrW, by simpa using h0⟩
 case round =>
  obtain ⟨k, q, hq, hk, hr, hj⟩ := hrel
  have hqs : q.size + 64 * k = s.length := by
   have := congrArg List.length hq
   simp at this; omega
  have Hq := Lh hq
  have Hqs := Lh hqs
  clear hq hqs
  have hc := hr.cellv (i := 0) (v := .string q) rfl
  have hf := hr.free 0
  by_cases h64 : 64 ≤ q.size
  · have hconv := fun w => Lib.run_convert_string_bytes (P := Tryz.prog) w 9 277 5 (q.extract 0 64) Tryz.underlying9 Tryz.underlying277 Tryz.underlying5
    have hsz : (q.extract 0 64).size = 64 := by simp; omega
    simp only [hsz] at hconv
    have Hsz := Lh hsz
    have harr := fun w => run_arrayAt (P := Tryz.prog) w 213 5 64 (some ⟨wr.heap.size, 0, none⟩) 64 (grownCap wr 64 0 5) Tryz.underlying213 (Nat.le_refl _)
    clear hsz
    obtain ⟨x, hx⟩ : ∃ x : Ux, x.1 = (q.extract 0 64).data.toList := ⟨⟨(q.extract 0 64).data.toList, by have := Hsz.out; simpa using this⟩, rfl⟩
    have hcells : ∀ j v, (u8s x.1)[j]? = some v → (Lib.bytesWorld wr 5 (q.extract 0 64)).cell? ⟨wr.heap.size, j, none⟩ = some v := by
     intro j v hv
     rw [XC, hx] at hv
     have hj : j < (q.extract 0 64).size := by
      rcases Nat.lt_or_ge j (q.extract 0 64).data.toList.length with h | h
      · simpa using h
      · rw [List.getElem?_eq_none h] at hv; cases hv
     rw [Lib.bytesWorld_cell _ _ _ j hj, ← hv, List.getD, List.getElem?_eq_getElem (by simpa using hj)]
     rfl
    have Hcells := Lh hcells
    have Hx := Lh hx
    have hg2 : wr.grownBy (Lib.bytesWorld wr 5 (q.extract 0 64)) none := Y8 _ _ _
    have hj2 := hJ _ _ _ none hj hg2 (fun r e => by cases e)
    have hr2 : Row (Lib.bytesWorld wr 5 (q.extract 0 64)) bs 9 #[.string q] := (hg2.block bs hr.lt (by simp)).trans hr
    have hkl : k < s.length / 64 := by have := Hqs.out; omega
    obtain ⟨fn, tmps, assign, body, hy, hR⟩ := hY _ x _ hj2 (by rw [List.length_take]; omega)
    have Hhg2 := Lh hg2
    have HR := Lh hR
    have Hr2 := Lh hr2
    clear hcells hx hg2 hj hr2 hr hR
    gi_wp2_with (refine Yw rfl 213 _ rfl wr.heap.size rfl (u8s x.1) _ Hcells.out Tryz.underlying213 rfl (by rw [Yu, x.2]; kernel_rfl) ?_)
    refine ⟨rfl, HR.out.mono ?_⟩
    rintro e W' (⟨rfl, hj3, hk3, hs3⟩ | ⟨rfl, hjx⟩)
    · have hr3 : Row W' bs 9 #[.string q] := hk3.trans Hr2.out
      have hc3 := hr3.cellv (i := 0) (v := .string q) rfl
      have hf3 := hr3.free 0
      have Hj3 := Lh hj3
      clear hj3 hk3 hj2 hy hf hconv harr
      gi_wp2
      go_roundw
      case rel =>
       refine ⟨k + 1, q.extract 64 q.size, ?_, by have := Hqs.out; omega, hr3.set _ _, ?_⟩
       · have := Hq.out
         simp only [ByteArray.data_extract, Array.toList_extract, List.extract_eq_take_drop, this, List.drop_drop]
         rw [List.take_of_length_le (by simp; have := Hqs.out; omega), Nat.mul_add]
       · refine hJ _ _ _ (some bs) ?_ (grownBy_setCell' _ _ _) (fun r e => by cases e; exact .inl rfl)
         rw [AbJ s k x (by rw [Hx.out]; simp [Hq.out]) (by have := Hqs.out; omega)]
         exact Hj3.out
      case measure =>
       have hrn := hr3.set 0 (.string (q.extract 64 q.size))
       have hrn2 := hrn.cell 0
       unfold Ain
       rw [hrn2, hc]
       simp; omega
    · clear hj2 hy hconv harr
      gi_wp2
      refine bodyPost_ret (results_none rfl _ _ _) rfl ?_
      exact ⟨⟨_, rfl⟩, .inr ⟨_, trivial, hjx⟩⟩
  · gi_wp2
    go_end0
    refine ⟨⟨_, rfl⟩, .inl ⟨_, rfl, ?_⟩⟩
    have hkk : k = s.length / 64 := by have := Hqs.out; omega
    rw [List.take_of_length_le (by rw [U9 _ _ (by omega)]; omega)] at hj
    exact hj
end Go.Proofs.YtdcmppdhdcjpfaaGreat
namespace Go.Proofs.YtdcmppdhdcjpfaaGreat
open Go.RowKit Go.Deep
def Acy (R L k i : Nat) : UInt8 := if i = 0 then 128 else if i + k < L then 0 else UInt8.ofNat (R / 256 ^ (L - 1 - i))
def VI (R L k : Nat) : List UInt8 := (List.range L).map (Acy R L k)
def AaW (R L k : Nat) : Array Value := (u8s (VI R L k)).toArray
theorem UT (R L k i : Nat) : (AaW R L k)[i]? = if i < L then some (.int .u8 ((Acy R L k i).toNat : Int)) else none := by
 unfold AaW VI
 simp only [List.getElem?_toArray, XC, List.getElem?_map]
 by_cases h : i < L <;> simp [h]
theorem Afl (R L k : Nat) : (AaW R L k).size = L := by simp [AaW, VI, u8s]
theorem Afm (R L k : Nat) (hk : k + 1 < L) : (AaW R L k).setIfInBounds (L - 1 - k) (.int .u8 ((UInt8.ofNat (R / 256 ^ k)).toNat : Int)) = AaW R L (k + 1) := by
 apply Array.ext_getElem?
 intro i
 rw [Array.getElem?_setIfInBounds, UT, UT, Afl]
 by_cases hi : L - 1 - k = i
 · subst hi
   rw [if_pos rfl, if_pos (by omega), if_pos (by omega)]
   unfold Acy
   rw [if_neg (by omega), if_neg (by omega), show L - 1 - (L - 1 - k) = k from by omega]
 · rw [if_neg hi]
   by_cases hL : i < L
   · rw [if_pos hL, if_pos hL]
     congr 4
     unfold Acy
     by_cases h0 : i = 0
     · simp [h0]
     · rw [if_neg h0, if_neg h0]
       by_cases h1 : i + (k + 1) < L
       · rw [if_pos h1, if_pos (by omega)]
       · rw [if_neg h1, if_neg (by omega)]
   · rw [if_neg hL, if_neg hL]
theorem AdL (R L : Nat) (cs : Array Value) (hs : cs.size = L) (h : ∀ i, i < L → cs[i]? = some (.int .u8 0)) : cs.setIfInBounds 0 (.int .u8 128) = AaW R L 0 := by
 apply Array.ext_getElem?
 intro i
 rw [Array.getElem?_setIfInBounds, UT, hs]
 by_cases hi : 0 = i
 · subst hi
   rw [if_pos rfl]
   by_cases hL : 0 < L <;> simp [hL, Acy]
 · rw [if_neg hi]
   by_cases hL : i < L
   · rw [if_pos hL, h i hL]
     unfold Acy
     rw [if_neg (by omega), if_pos (by omega)]; rfl
   · rw [if_neg hL, Array.getElem?_eq_none (by omega)]
theorem AhA (z : Value) (n i : Nat) (h : i < n) : (madeCells #[z] n)[i]? = some z := by
 unfold madeCells
 simp [h, Nat.mod_one]
theorem AiE (q : Nat) : ((q : Int) % 256) = ((UInt8.ofNat q).toNat : Int) := by simp
theorem Af5 (L k : Nat) : (L : Int) - 1 - (k : Int) - 1 = (L : Int) - 1 - ((k + 1 : Nat) : Int) := by omega
theorem AfU (R k : Nat) : ((R / 256 ^ k : Nat) : Int) / 256 = ((R / 256 ^ (k + 1) : Nat) : Int) := by
 rw [Nat.pow_succ, ← Nat.div_div_eq_div_mul]; omega
def AdM (n : Nat) : Nat := 72 - (n + 8) % 64
def YL (n : Nat) : List UInt8 := VI (n * 8 % 18446744073709551616) (AdM n) 8
theorem Afn (R L k : Nat) (hk : k ≤ 8) (h : R / 256 ^ k = 0) : VI R L k = VI R L 8 := by
 unfold VI
 apply List.map_congr_left
 intro i hi
 unfold Acy
 by_cases h0 : i = 0
 · simp [h0]
 · rw [if_neg h0, if_neg h0]
   by_cases h1 : i + 8 < L
   · rw [if_pos (by omega), if_pos h1]
   · rw [if_neg h1]
     by_cases h2 : i + k < L
     · rw [if_pos h2]
       have : R / 256 ^ (L - 1 - i) = 0 := by
        have hp : 256 ^ k ≤ 256 ^ (L - 1 - i) := Nat.pow_le_pow_right (by omega) (by omega)
        rw [Nat.div_eq_zero_iff] at h ⊢
        rcases h with h | h
        · exact absurd h (Nat.pos_iff_ne_zero.1 (Nat.pow_pos (by omega)))
        · exact .inr (by omega)
       rw [this]; rfl
     · rw [if_neg h2]
theorem AhK (n : Int) (h0 : 0 ≤ n) (h1 : n ≤ 9223372036854775807) (w : World) :
 Calls Tryz.prog 152 #[.int .i64 n] w fun e w' => e = .returned (.string ⟨(YL n.toNat).toArray⟩) ∧ Below w.heap.size w w' := by
 obtain ⟨L, hL, hL9, hL72⟩ : ∃ L : Nat, 72 - (n + 8) % 64 = (L : Int) ∧ 9 ≤ L ∧ L ≤ 72 := ⟨(72 - (n + 8) % 64).toNat, by omega, by omega, by omega⟩
 obtain ⟨cs, hcs⟩ : ∃ cs, cs = madeCells #[Value.int .u8 0] L := ⟨_, rfl⟩
 have hmk := run_make_row' (P := Tryz.prog) 277 5 (.int .u8 0) 1 Tryz.underlying277 UQ rfl .i64 .i64 L (by omega) (by omega)
 have hat : ∀ i, i < L → cs[i]? = some (.int .u8 0) := fun i hi => by rw [hcs]; exact AhA _ _ _ hi
 have hsz := size_madeCells #[Value.int .u8 0] L
 rw [← hcs] at hmk hsz
 have hcs0 : cs[0]? = some (.int .u8 0) := hat 0 (by omega)
 obtain ⟨R, hR, hRlt⟩ : ∃ R : Nat, IntKind.u64.wrap (n * 8) = (R : Int) ∧ R < 18446744073709551616 := by
  rw [IntKind.wrap_u64]; exact ⟨((n * 8) % 18446744073709551616).toNat, by omega, by omega⟩
 have HRlt := Lh hRlt
 have Hat := Lh hat
 have Hsz := Lh hsz
 have Hfin : Hid (VI R L 8 = YL n.toNat) := by
  unfold YL
  rw [show AdM n.toNat = L from by unfold AdM; omega, show n.toNat * 8 % 18446744073709551616 = R from by rw [IntKind.wrap_u64] at hR; omega]; rfl
 clear hcs hat hsz hRlt
 go_enter Tryz.func152, Tryz.ntmps152
 go_wp2
 go_loopw [4, 5] (fun i r wr => ∃ k : Nat, i = .int .i64 ((L : Int) - 1 - (k : Int)) ∧ r = .int .u64 ((R / 256 ^ k : Nat) : Int) ∧ k ≤ 8 ∧ Row wr w.heap.size 5 (AaW R L k) ∧ Below w.heap.size w wr) (fun _ r _ => (intOf r).toNat)
 case atStart => exact ⟨0, by simp, by simp, by omega, by rw [← AdL R L cs Hsz.out Hat.out]; exact Row.new _ _ _, (Below.refl _ _).alloc (Nat.le_refl _) _⟩
 case round =>
  obtain ⟨k, rfl, rfl, hk, hrow, hb⟩ := hrel
  by_cases hz : R / 256 ^ k = 0
  · have hconv := KV (P := Tryz.prog) 277 9 5 5 Tryz.underlying277 Tryz.underlying5 Tryz.underlying9 (cap := L) hrow (VI R L k) (n := L) (by simp [VI]) (fun j hj => by simp [AaW])
    rw [Afn R L k hk hz, Hfin.out] at hconv
    have hz' : ((R / 256 ^ k : Nat) : Int) = 0 := by omega
    rw [hz']
    clear hz hz' Hfin
    go_wp2
    go_ret
    exact ⟨rfl, hb⟩
  · have hk8 : k < 8 := by
     rcases Nat.lt_or_ge k 8 with h | h
     · exact h
     · obtain rfl : k = 8 := by omega
       exact absurd (Nat.div_eq_of_lt HRlt.out) hz
    have hpos : 0 < R / 256 ^ k := Nat.pos_of_ne_zero hz
    obtain ⟨q, hq⟩ : ∃ q, q = R / 256 ^ k := ⟨_, rfl⟩
    rw [← hq] at hz hpos ⊢
    have Hq := Lh hq
    clear hq
    have hc := hrow.cellv (i := L - 1 - k) (v := .int .u8 ((Acy R L k (L - 1 - k)).toNat : Int)) (by rw [UT, if_pos (by omega)])
    have hf := hrow.free (L - 1 - k)
    go_wp2
    go_roundw
    case rel => exact ⟨k + 1, by rw [Af5], by rw [← AfU, Hq.out], by omega, by rw [← Afm R L k (by omega), AiE, Hq.out]; exact hrow.set _ _, hb.setCell (p := ⟨w.heap.size, L - 1 - k, none⟩) (Nat.le_refl _) _⟩
    case measure => simp [intOf]; omega
attribute [local go_sem] Oper.semAt_some
theorem EC (s : ByteArray) (w : World) :
 Calls Tryz.prog 151 #[.string s] w fun e w' => e = .returned (.func (.func 228) #[] #[.pointer (some ⟨w.heap.size, 0, none⟩)]) ∧ w.alloc (.cells #[.string s] 9) = w' := by
 go_enter Tryz.func151, Tryz.ntmps151
 go_wp2
 go_ret
 exact ⟨rfl, rfl⟩
def Ki (H : List (BitVec 32)) (l : List Ux) : List (BitVec 32) := l.foldl (fun H c => Ye H c.1) H
def AgG (s : List UInt8) : List UInt8 := KY (Ki Ko (JX ((s ++ YL s.length).length / 64) (s ++ YL s.length)))
theorem Ks : ∀ (l : List Ux) (H : List (BitVec 32)), H.length = 8 → (Ki H l).length = 8
 | [], _, h => h
 | _ :: l, _, h => Ks l _ (K9 _ _ h 8)
theorem Agq (n : Nat) : (YL n).length = AdM n := by simp [YL, VI]
theorem AhJ (n : Nat) : 9 ≤ AdM n ∧ AdM n ≤ 72 := by unfold AdM; omega
theorem AhY (s : ByteArray) (hs : s.size ≤ 1000000) (w : World) :
 Calls Tryz.prog 78 #[.string s] w fun e w' => e = .returned (.string ⟨(AgG s.data.toList).toArray⟩) ∧ Below w.heap.size w w' := by
 refine (callsIn_wide (n := 0)).1 ?_
 refine callsIn_of_wp_marks Tryz.func78 rfl trivial ?_
 simp only [Tryz.ntmps78, List.size_toArray, List.length_cons, List.length_nil, Nat.reduceAdd, Nat.reduceSub, Array.replicate_succ, Array.replicate_zero, List.push_toArray, List.append_toArray, List.nil_append, List.cons_append]
 gi_wp2_with fail
 refine ⟨trivial, rfl, (callsIn_wide.2 (Afu w)).mono ?_⟩
 rintro e w1 ⟨rfl, b1⟩
 gi_wp2_with (refine QZ rfl 207 _ _ rfl w1.heap.size (wds Ko).toArray rfl rfl 207 _ (heap_alloc_new w1 _) (by kernel_rfl) rfl (Y3 _) ?_; rw [World.setRow_alloc_new])
 have rh := Row.new w1 207 (wds Ko).toArray
 have b2 := b1.alloc b1.size (.cells (wds Ko).toArray 207)
 have g1 := b1.size
 obtain ⟨G, hG⟩ : ∃ G, G = w1.heap.size := ⟨_, rfl⟩
 rw [← hG] at rh g1 ⊢
 clear hG
 have lh := rh.lt
 generalize w1.alloc (.cells (wds Ko).toArray 207) = w2 at rh b2 lh ⊢
 clear b1
 refine ⟨trivial, rfl, (callsIn_wide.2 (AhK (s.size : Int) (by omega) (by omega) w2)).mono ?_⟩
 rw [Int.toNat_natCast]
 rintro e w3 ⟨rfl, b3⟩
 have rh3 := rh.below b3 lh
 have b3' := b2.trans (b3.mono b2.size)
 have l3 := b3.size
 clear b3 b2 rh
 have hpl : (YL s.size).length ≤ 72 := by rw [Agq]; exact (AhJ _).2
 gi_wp2_with fail
 have hq : (s ++ (⟨(YL s.size).toArray⟩ : ByteArray)).data.toList = s.data.toList ++ YL s.data.toList.length := by simp
 have hqs : (s ++ (⟨(YL s.size).toArray⟩ : ByteArray)).size ≤ 1000072 := by rw [ByteArray.size_append, YZ (YL s.size)]; omega
 generalize (s ++ (⟨(YL s.size).toArray⟩ : ByteArray)) = q at hq hqs ⊢
 have Hq := Lh hq
 clear hq hpl
 refine ⟨trivial, rfl, (callsIn_wide.2 (EC q w3)).mono ?_⟩
 rintro e w4 ⟨rfl, hw4⟩
 have rb := Row.new w3 9 #[.string q]
 have rh4 := rh3.alloc (.cells #[.string q] 9)
 have b4 := b3'.alloc b3'.size (.cells #[.string q] 9)
 have g4 : G < w3.heap.size := rh3.lt
 have gs4 : (w3.alloc (.cells #[.string q] 9)).heap.size = w3.heap.size + 1 := by simp
 rw [hw4] at rb rh4 b4 gs4
 obtain ⟨Bs, hBs⟩ : ∃ Bs, Bs = w3.heap.size := ⟨_, rfl⟩
 rw [← hBs] at rb g4 gs4 ⊢
 clear hBs hw4 rh3 b3' l3 lh
 have gB : w.heap.size ≤ Bs := by omega
 have hlen : q.data.toList.length ≤ 2000000 := by simp; omega
 have Hseq := Lh (Aaz Bs q.data.toList hlen w4 rb)
 gi_wp2
 refine AaZ (gf := 228) (lb := #[.pointer (some ⟨Bs, 0, none⟩)]) rfl (enters_of Tryz.func228 (by kernel_rfl) rfl) Hseq.out (fun r h => by subst h; omega)
  (fun h k => ⟨k.1.trans h.1, Nat.le_trans h.2 k.2⟩) (fun W l o o' hl ho hc => ⟨by rw [World.putObj_heap_other (by omega)], by simp⟩) (World.grownBy.refl _ _) (fun _ => rfl)
  (fun pre W => Row W G 207 (wds (Ki Ko pre)).toArray ∧ Below w.heap.size w W ∧ Bs < W.heap.size) (fun _ _ _ => False) ?hI ?hIx ⟨rh4, b4, by omega⟩
  (fun x a' W => ∃ Bx, Bs < Bx ∧ Row W Bx 213 (u8s x.1).toArray ∧ a' = { tmps := #[.string s, undef, .string ⟨#[]⟩, .pointer (some ⟨G, 0, none⟩), .pointer (some ⟨Bx, 0, none⟩), undef, .agg (wds Ko).toArray, .string s, .string s, .int .i64 s.size, .string ⟨(YL s.size).toArray⟩, .string q, .func (.func 228) #[] #[.pointer (some ⟨Bs, 0, none⟩)], .agg (u8s x.1).toArray, undef, undef, undef, undef, undef, undef, undef], defers := [] }) ?hAx ?assign ?body ?done ?stop
 case hI =>
  intro pre A B row hs hg hr
  refine ⟨(hg.block G hs.1.lt (fun e => ?_)).trans hs.1, hs.2.1.grown hg hs.2.1.size (fun k hk => ?_), Nat.lt_of_lt_of_le hs.2.2 hg.size⟩
  · rcases hr _ e.symm with h | ⟨h, _⟩ <;> omega
  · rcases hr _ hk with h | ⟨h, _⟩ <;> omega
 case hIx => exact fun _ _ _ _ _ h _ _ => h
 case hAx =>
  rintro x a' _ A B row ⟨Bx, h1, h2, h3⟩ hg hr
  refine ⟨Bx, h1, (hg.block Bx h2.lt (fun e => ?_)).trans h2, h3⟩
  rcases hr _ e.symm with h | ⟨_, o, ho, hc⟩
  · omega
  · rw [h2] at ho; cases ho; cases hc
 case assign =>
  rintro l pre x W K ⟨hr, hb, hlt⟩ hK
  have hx : (u8s x.1).toArray.size = 64 := AcN _ x.2
  have Hx := Lh hx
  clear hx
  have HK := Lh hK
  clear hK
  gi_wp2_with (refine QZ rfl 213 _ _ rfl W.heap.size (u8s x.1).toArray rfl rfl 213 _ (heap_alloc_new W _) (by rw [Hx.out]; kernel_rfl) (by rw [Hx.out]; rfl) (Ah3 _) ?_; rw [World.setRow_alloc_new])
  exact HK.out _ _ (KeepsFrom.alloc _ _ _) ⟨Below.heap_alloc _ _ _ hlt, by simp⟩ ⟨hr.alloc _, hb.alloc hb.size _, by simp; omega⟩ ⟨_, hlt, Row.new _ _ _, rfl⟩
 case body =>
  rintro l pre x a' W hl _ ⟨hr, hb, hlt⟩ ⟨Bx, hBx, hrx, rfl⟩ _
  have hx : (u8s x.1).toArray.size = 64 := AcN _ x.2
  obtain ⟨H, hH⟩ : ∃ H, H = Ki Ko pre := ⟨_, rfl⟩
  have hHl : H.length = 8 := by rw [hH]; exact Ks _ _ rfl
  rw [← hH] at hr
  have Hx := Lh hx
  have HH := Lh hH
  have HHl := Lh hHl
  clear hx hH hHl
  gi_wp2_with (first
   | (refine Q1 rfl 207 _ rfl G rfl 207 (wds H).toArray (0, 0) _ hr Tryz.underlying207 rfl (by rw [Ju _ HHl.out]; kernel_rfl) ?_)
   | (refine Q1 rfl 213 _ rfl Bx rfl 213 (u8s x.1).toArray (0, 0) _ hrx Tryz.underlying213 rfl (by rw [Hx.out]; kernel_rfl) ?_))
  refine ⟨trivial, rfl, (CallsIn.inRound l (callsIn_wide.2 (AeL H HHl.out x.1 x.2 W))).mono ?_⟩
  rintro e W2 ⟨rfl, hb2⟩
  have hr2 := hr.below hb2 hr.lt
  have hn : (Ye H x.1).length = 8 := K9 _ _ HHl.out 8
  have Hn := Lh hn
  clear hn
  gi_wp2_with (refine QZ rfl 207 _ _ rfl G (wds (Ye H x.1)).toArray rfl rfl 207 _ hr2 (by rw [Ju _ Hn.out]; kernel_rfl) (by rw [Ju _ Hn.out, Ju _ HHl.out]) (Y3 _) ?_)
  refine ⟨(KeepsFrom.of_below hb2).trans (KeepsFrom.setRow hr2 _), ⟨(Aa9 _ _ _ _ (by omega)).trans (hb2.block _ hlt), Nat.le_trans hb2.size (by simp [World.setRow])⟩, ?_, ?_, ?_⟩
  · have := hr2.setRow (wds (Ye H x.1)).toArray
    have e : Ye H x.1 = Ki Ko (pre ++ [x]) := by rw [HH.out, Ki, Ki, List.foldl_append]; rfl
    rw [e] at this
    rw [e]; exact this
  · exact Ka (hb.trans (hb2.mono hb.size)) g1 _
  · have := hb2.size; simp [World.setRow]; omega
 case stop => exact fun D c pre W _ _ h _ => h.elim
 case done =>
  rintro D ys W hD rfl ⟨hr, hb, _⟩ hK
  obtain ⟨H, hH⟩ : ∃ H, H = Ki Ko (JX (q.data.toList.length / 64) q.data.toList) := ⟨_, rfl⟩
  have hHl : H.length = 8 := by rw [hH]; exact Ks _ _ rfl
  have hfin : KY H = AgG s.data.toList := by rw [hH, Hq.out]; rfl
  rw [← hH] at hr
  have HHl := Lh hHl
  have Hfin := Lh hfin
  have HK := Lh hK
  clear hH hHl hfin hK
  gi_wp2_with (refine Q1 rfl 207 _ rfl G rfl 207 (wds H).toArray (0, 0) _ hr Tryz.underlying207 rfl (by rw [Ju _ HHl.out]; kernel_rfl) ?_)
  refine ⟨trivial, rfl, (callsIn_wide.2 (AeM H HHl.out W)).mono ?_⟩
  rintro e W5 ⟨rfl, hb5⟩
  have hK5 : W5.heap[D]? = some (.deferred (some [])) := (hb5.block D (Array.getElem?_eq_some_iff.1 HK.out).1).trans HK.out
  rw [Hfin.out]
  have HK5 := Lh hK5
  clear hK5 HK hr
  gi_wp2
  refine ⟨by simp, .inl ⟨_, _, rfl, run_takeDeferred HK5.out, ?_⟩⟩
  exact ⟨_, results_tmp rfl _ _ _, rfl, (hb.trans (hb5.mono hb.size)).grown (grownBy_putObj' _ _ _) (Nat.le_trans hb.size hb5.size) (fun k e => by cases e; omega)⟩
end Go.Proofs.YtdcmppdhdcjpfaaGreat
namespace Go.Proofs.YtdcmppdhdcjpfaaGreat
open Go.RowKit Go.Deep
def part (l : List UInt8) (n j : Nat) : List UInt8 := l.take j ++ List.replicate (n - j) 0
def AbN (r : RunV) : List UInt8 := AgG (Yq r.kind r.value r.evs)
theorem Abe (r : RunV) (w : World) (hok : r.ok w) (hl : r.evs.length ≤ 10000) :
 Calls Tryz.prog 33 #[r.val] w fun e w' => e = .returned (.string ⟨(AbN r).toArray⟩) ∧ Below w.heap.size w w' := by
 have Hok := Lh hok
 have Hl := Lh hl
 clear hok hl
 go_enter Tryz.func33, Tryz.ntmps33
 rw [show r.val = .agg r.cells from rfl]
 go_wp2_with (refine Qp _ _ rfl ?_)
 refine Stop.to ?_
 refine Qf rfl 40 _ rfl r.cells rfl ?_
 intro G w1 hG r1 b1
 have b1 := (Below.refl w.heap.size w).trans (b1.mono hG)
 have hok1 : r.ok w1 := ⟨Hok.out.kind, Hok.out.value, Hok.out.steps, Hok.out.len, Hok.out.cap, Hok.out.nil, Hok.out.reads.go b1, Hok.out.evs⟩
 have Hok1 := Lh hok1
 clear hok1
 go_wp2_with (refine wpList_load_row rfl 40 _ rfl G rfl 40 r.cells (0, 0) _ r1 Tryz.underlying40 rfl (by kernel_rfl) ?_)
 refine (AcH r w1 Hok1.out (by have := Hl.out; omega)).mono ?_
 rintro e w2 ⟨rfl, b2⟩
 have b2 := b1.trans (b2.mono b1.size)
 go_wp2_with fail
 refine (AhY ⟨(Yq r.kind r.value r.evs).toArray⟩ (by rw [YZ]; have := AdW r.kind r.value r.evs; have := Hl.out; omega) w2).mono ?_
 rintro e w3 ⟨rfl, b3⟩
 go_wp2_with fail
 go_ret
 exact ⟨rfl, b2.trans (b3.mono b2.size)⟩
theorem AgH (l : List UInt8) : (AgG l).length = 32 := by
 rw [AgG, Ac6, Ks _ _ rfl]
theorem AbO (r : RunV) : (AbN r).length = 32 := AgH _
theorem RunV.ok.ok_go {r : RunV} {w w' : World} (h : r.ok w) (b : Below w.heap.size w w') : r.ok w' :=
 ⟨h.kind, h.value, h.steps, h.len, h.cap, h.nil, h.reads.go b, h.evs⟩
instance St.runok {r : RunV} : St (fun W => r.ok W) := ⟨fun h b => h.ok_go b⟩
end Go.Proofs.YtdcmppdhdcjpfaaGreat
