/- Lemmas for VerdictOrderP. -/
import Derived.Test.YtdcmppdhdcjpfaaGreatZq29
import Derived.Test.YtdcmppdhdcjpfaaGreatZq28
import Derived.Test.YtdcmppdhdcjpfaaGreatZq1
import Derived.Test.YtdcmppdhdcjpfaaGreatRows
import Derived.Laws.CopyOwn
import Derived.Lib.ConvBytes
import Derived.Laws.Cover3
set_option linter.unusedVariables false
set_option linter.unusedSimpArgs false
set_option maxRecDepth 100000
set_option maxHeartbeats 16000000
namespace Go.Proofs.YtdcmppdhdcjpfaaGreat
open Go.RowKit Go.Deep
def AiP (e f g h k x : BitVec 32) : BitVec 32 := h + (e.rotateRight 6 ^^^ e.rotateRight 11 ^^^ e.rotateRight 25) + (g ^^^ e &&& (f ^^^ g)) + k + x
def Ajk (a b c : BitVec 32) : BitVec 32 := (a.rotateRight 2 ^^^ a.rotateRight 13 ^^^ a.rotateRight 22) + (a &&& b ^^^ a &&& c ^^^ b &&& c)
def Aa0 (W : List (BitVec 32)) (t : Nat) : List (BitVec 32) → List (BitVec 32)
 | [a, b, c, d, e, f, g, h] =>
  let t1 := AiP e f g h (cubeL.getD t 0) (W.getD t 0)
  [t1 + Ajk a b c, a, b, c, d + t1, e, f, g]
 | l => l
def K6 (W H : List (BitVec 32)) : Nat → List (BitVec 32)
 | 0 => H
 | t + 1 => Aa0 W t (K6 W H t)
theorem VW (W H : List (BitVec 32)) (h : H.length = 8) : ∀ t, (K6 W H t).length = 8
 | 0 => h
 | t + 1 => by
  have ih := VW W H h t
  unfold K6
  match h' : K6 W H t, ih with
  | [a, b, c, d, e, f, g, h], _ => simp [Aa0]
theorem Ai5 {α : Type} {l : List α} (h : l.length = 8) : ∃ a b c d e f g i, l = [a, b, c, d, e, f, g, i] := by
 match l, h with
 | [a, b, c, d, e, f, g, i], _ => exact ⟨a, b, c, d, e, f, g, i, rfl⟩
def Xa (H V : List (BitVec 32)) : Nat → List (BitVec 32)
 | 0 => H
 | j + 1 => (Xa H V j).set j ((Xa H V j).getD j 0 + V.getD j 0)
theorem Xc (H V : List (BitVec 32)) (h : H.length = 8) : ∀ j, (Xa H V j).length = 8
 | 0 => h
 | j + 1 => by simp [Xa, Xc H V h j]
def Yg (H : List (BitVec 32)) (l : List UInt8) : List (BitVec 32) := Xa H (K6 (X3 l) H 64) 8
theorem AfU (a b c d e f g i : BitVec 32) : ∀ j v, (wds [a, b, c, d, e, f, g])[j]? = some v → (wds [a, b, c, d, e, f, g, i]).toArray[0 + j]? = some v := by
 intro j v hj
 match j, hj with
 | 0, hj | 1, hj | 2, hj | 3, hj | 4, hj | 5, hj | 6, hj => exact hj
theorem AdP (W H : List (BitVec 32)) (k : Nat) (a b c d e f g i xk xw : BitVec 32) (h : K6 W H k = [a, b, c, d, e, f, g, i]) (hk : xk = cubeL.getD k 0) (hw : xw = W.getD k 0) :
 ((wds [a, a, b, c, d, e, f, g]).toArray.setIfInBounds 0 (.int .u32 (wd (AiP e f g i xk xw + Ajk a b c)))).setIfInBounds 4 (.int .u32 (wd (d + AiP e f g i xk xw))) = (wds (K6 W H (k + 1))).toArray := by
 rw [Y6, Y6, K6, h, Aa0, hk, hw]; rfl
theorem AfK (H V : List (BitVec 32)) (j : Nat) : (wds (Xa H V j)).toArray.setIfInBounds j (.int .u32 (wd ((Xa H V j).getD j 0 + V.getD j 0))) = (wds (Xa H V (j + 1))).toArray := Y6 _ _ _
attribute [local go_sem] AeE AdW AdV Abf Abg Abh UY X2
theorem AeJ (H : List (BitVec 32)) (hH : H.length = 8) (l : List UInt8) (hl : l.length = 64) (w : World) :
 Calls Tryz.prog 153 #[.agg (wds H).toArray, .agg (u8s l).toArray] w fun e w' => e = .returned (.agg (wds (Yg H l)).toArray) ∧ Below w.heap.size w w' := by
 have Hl := Lh hl
 have HH := Lh hH
 clear hl hH
 go_enter Tryz.func153, Tryz.ntmps153
 go_wp2_with fail
 have r0 : Row (((w.alloc (.cells (wds H).toArray 207)).alloc (.cells (u8s l).toArray 213)).alloc (.cells (wds [0, 0, 0, 0, 0, 0, 0, 0]).toArray 207)) w.heap.size 207 (wds H).toArray := ((Row.new _ _ _).alloc _).alloc _
 have r1 : Row (((w.alloc (.cells (wds H).toArray 207)).alloc (.cells (u8s l).toArray 213)).alloc (.cells (wds [0, 0, 0, 0, 0, 0, 0, 0]).toArray 207)) (w.heap.size + 1) 213 (u8s l).toArray := by
  have h := (Row.new (w.alloc (.cells (wds H).toArray 207)) 213 (u8s l).toArray).alloc (.cells (wds [0, 0, 0, 0, 0, 0, 0, 0]).toArray 207)
  rwa [World.size_alloc] at h
 have r2 : Row (((w.alloc (.cells (wds H).toArray 207)).alloc (.cells (u8s l).toArray 213)).alloc (.cells (wds [0, 0, 0, 0, 0, 0, 0, 0]).toArray 207)) (w.heap.size + 1 + 1) 207 (wds [0, 0, 0, 0, 0, 0, 0, 0]).toArray := by
  have h := Row.new ((w.alloc (.cells (wds H).toArray 207)).alloc (.cells (u8s l).toArray 213)) 207 (wds [0, 0, 0, 0, 0, 0, 0, 0]).toArray
  rwa [World.size_alloc, World.size_alloc] at h
 have b0 : Below w.heap.size w (((w.alloc (.cells (wds H).toArray 207)).alloc (.cells (u8s l).toArray 213)).alloc (.cells (wds [0, 0, 0, 0, 0, 0, 0, 0]).toArray 207)) :=
  (((Below.refl _ _).alloc (Nat.le_refl _) _).alloc (by simp) _).alloc (by simp; omega) _
 have s0 : (((w.alloc (.cells (wds H).toArray 207)).alloc (.cells (u8s l).toArray 213)).alloc (.cells (wds [0, 0, 0, 0, 0, 0, 0, 0]).toArray 207)).heap.size = w.heap.size + 3 := by simp
 rw [show #[Value.int IntKind.u32 0, Value.int IntKind.u32 0, Value.int IntKind.u32 0, Value.int IntKind.u32 0, Value.int IntKind.u32 0, Value.int IntKind.u32 0, Value.int IntKind.u32 0, Value.int IntKind.u32 0] = (wds [0, 0, 0, 0, 0, 0, 0, 0]).toArray from rfl]
 generalize (((w.alloc (.cells (wds H).toArray 207)).alloc (.cells (u8s l).toArray 213)).alloc (.cells (wds [0, 0, 0, 0, 0, 0, 0, 0]).toArray 207)) = w1 at r0 r1 r2 b0 s0 ⊢
 refine (AfG (w.heap.size + 1) _ l Hl.out w1 (by omega) r1).mono ?_
 rintro e w2 ⟨gw, rfl, hgw, rw2, bw2⟩
 replace r0 := r0.below bw2 (by omega)
 replace r2 := r2.below bw2 (by omega)
 replace b0 := b0.trans (bw2.mono (by omega))
 have s2 := bw2.size
 go_wp2_with fail
 refine (AeO w2).mono ?_
 rintro e w3 ⟨gk, rfl, hgk, rk3, bw3⟩
 have lw2 := rw2.lt
 replace r0 := r0.below bw3 (by omega)
 replace r2 := r2.below bw3 (by omega)
 replace rw2 := rw2.below bw3 (by omega)
 replace b0 := b0.trans (bw3.mono (by omega))
 have s3 := bw3.size
 have lk3 := rk3.lt
 go_wp2_with (first
  | (refine wpList_load_row rfl 205 _ rfl w.heap.size rfl 207 (wds H).toArray (0, 0) _ r0 Tryz.underlying205 rfl (by rw [Jq _ HH.out]; kernel_rfl) ?_)
  | (refine wpList_store_row rfl 205 _ _ rfl w3.heap.size (wds H).toArray rfl rfl 205 _ (heap_alloc_new w3 _) (by rw [Jq _ HH.out]; kernel_rfl) (by rw [Jq _ HH.out]; rfl) (Y5 H) ?_
     rw [World.setRow_alloc_new]))
 have rv4 := Row.new w3 205 (wds H).toArray
 have b4 := (Below.refl w3.heap.size w3).alloc (Nat.le_refl _) (.cells (wds H).toArray 205)
 generalize w3.alloc (.cells (wds H).toArray 205) = w4 at rv4 b4 ⊢
 have Hrl := Lh (VW (X3 l) H HH.out)
 go_loopw [18] (fun i wr => ∃ k : Nat, i = .int .i64 (k : Int) ∧ k ≤ 64 ∧ Row wr w3.heap.size 205 (wds (K6 (X3 l) H k)).toArray ∧ Below w3.heap.size w3 wr) (fun i _ => (64 - intOf i).toNat)
 case atStart => exact ⟨0, by simp, by omega, rv4, b4⟩
 case round =>
  clear rv4 b4
  obtain ⟨k, rfl, hk, hr, hb⟩ := hrel
  by_cases hk64 : k < 64
  · obtain ⟨a, b, c, d, e, f, g, i, heq⟩ := Ai5 (Hrl.out k)
    rw [heq] at hr
    have Heq := Lh heq
    clear heq
    have c0 := hr.cellv (i := 0) (v := .int .u32 (wd a)) rfl
    have c1 := hr.cellv (i := 1) (v := .int .u32 (wd b)) rfl
    have c2 := hr.cellv (i := 2) (v := .int .u32 (wd c)) rfl
    have c4 := hr.cellv (i := 4) (v := .int .u32 (wd e)) rfl
    have c5 := hr.cellv (i := 5) (v := .int .u32 (wd f)) rfl
    have c6 := hr.cellv (i := 6) (v := .int .u32 (wd g)) rfl
    have c7 := hr.cellv (i := 7) (v := .int .u32 (wd i)) rfl
    have ck := (rk3.below hb (by omega)).cellv (KN cubeL k (by show k < 64; omega))
    have cw := (rw2.below hb (by omega)).cellv (KN (X3 l) k (by rw [X3, Ju _ (Kf _ _)]; omega))
    obtain ⟨xk, hxk⟩ : ∃ x, x = cubeL.getD k 0 := ⟨_, rfl⟩
    obtain ⟨xw, hxw⟩ : ∃ x, x = (X3 l).getD k 0 := ⟨_, rfl⟩
    rw [← hxk] at ck
    rw [← hxw] at cw
    have Hxk := Lh hxk
    have Hxw := Lh hxw
    clear hxk hxw
    go_wp2
    go_quiet (fail)
    go_wp2
    go_quiet ((go_at_call 231; exact VN (Ys _ _ (by omega) (by omega) _)))
    go_wp2
    go_quiet ((go_at_call 231; exact VN (Ys _ _ (by omega) (by omega) _)))
    go_wp2
    refine QR 2 (by kernel_rfl) (by kernel_rfl) ?_
    simp only [List.take_succ_cons, List.take_zero, List.drop_succ_cons, List.drop_zero]
    repeat still_step
    refine wpStill_nil ?_
    refine wpList_copy_own rfl _ _ 284 284 rfl 92 Tryz.underlying284 (by kernel_rfl) w3.heap.size 1 7 7 ⟨w3.heap.size, 0, none⟩ 7 8 rfl rfl (wds [a, b, c, d, e, f, g, i]).toArray 205 hr (wds [a, b, c, d, e, f, g]) rfl ?_ (by simp [wds]) ?_ ?_
    · exact Row.from_ (cur := (wds [a, b, c, d, e, f, g, i]).toArray) hr 0 (AfU a b c d e f g i)
    · exact fun v hv => (Array.all_eq_true_iff_forall_mem.1 (Y5 _)) v (by simpa using hv)
    generalize hw9 : World.setRow _ _ _ = w9
    have hr9 : Row w9 w3.heap.size 205 (wds [a, a, b, c, d, e, f, g]).toArray := by rw [← hw9]; exact Row.setRow (cs := (wds [a, b, c, d, e, f, g, i]).toArray) hr _
    have hb9 : Below w3.heap.size w3 w9 := by rw [← hw9]; exact J8 (Below.drew (ZN (ZN (ZN hb _) _) _)) (Nat.le_refl _) _
    clear hw9 c0 c1 c2 c4 c5 c6 c7 ck cw hr hb
    have c4 := hr9.cellv (i := 4) (v := .int .u32 (wd d)) rfl
    have c0 := hr9.cellv (i := 0) (v := .int .u32 (wd a)) rfl
    have f4 := hr9.free 4
    have f0 := hr9.free 0
    go_wp2
    go_roundw
    case rel => exact ⟨k + 1, by go_num, by omega, by rw [← AdP _ _ _ _ _ _ _ _ _ _ _ _ _ Heq.out Hxk.out Hxw.out]; exact (hr9.set _ _).set _ _, (hb9.setCell (p := ⟨w3.heap.size, 0, none⟩) (Nat.le_refl _) _).setCell (p := ⟨w3.heap.size, 4, none⟩) (Nat.le_refl _) _⟩
    case measure => simp [intOf]; omega
  · obtain rfl : k = 64 := by omega
    clear hk64
    rw [show ((64 : Nat) : Int) = 64 from rfl]
    have r0 := r0.below hb (by omega)
    have r2 := r2.below hb (by omega)
    have b0 := b0.trans (hb.mono (by omega))
    have gv : w.heap.size + 2 < w3.heap.size := by omega
    obtain ⟨V, hV⟩ : ∃ V, V = K6 (X3 l) H 64 := ⟨_, rfl⟩
    have hVl : V.length = 8 := by rw [hV]; exact Hrl.out 64
    rw [← hV] at hr
    have HV := Lh hV
    have HVl := Lh hVl
    clear hV hVl hb rw2 rk3 bw3 bw2
    obtain ⟨G, hG⟩ : ∃ G, G = w3.heap.size := ⟨_, rfl⟩
    rw [← hG] at hr gv ⊢
    clear hG
    go_wp2
    go_loopw [96] (fun i wr => ∃ k : Nat, i = .int .i64 (k : Int) ∧ k ≤ 8 ∧ Row wr w.heap.size 207 (wds (Xa H V k)).toArray ∧ Row wr G 205 (wds V).toArray ∧ Row wr (w.heap.size + 1 + 1) 207 (wds [0, 0, 0, 0, 0, 0, 0, 0]).toArray ∧ Below w.heap.size w wr) (fun i _ => (8 - intOf i).toNat)
    case atStart => exact ⟨0, by simp, by omega, r0, hr, r2, b0⟩
    case round =>
     clear hr r0 r2 b0
     obtain ⟨k, rfl, hk, r0, hr, r2, b0⟩ := hrel
     by_cases hk8 : k < 8
     · have c0 := r0.cellv (KN _ k (by rw [Xc _ _ HH.out]; exact hk8))
       have c1 := hr.cellv (KN _ k (by rw [HVl.out]; exact hk8))
       have f0 := r0.free k
       have hk8' : (k : Int) < 8 := by omega
       go_wp2
       refine QR 10 (by kernel_rfl) (by kernel_rfl) ?_
       simp only [List.take_succ_cons, List.take_zero, List.drop_succ_cons, List.drop_zero]
       repeat still_step
       refine wpStill_nil ?_
       go_wp2
       go_roundw
       case rel => exact ⟨k + 1, by go_num, by omega, by rw [← AfK]; exact r0.drew.set _ _, (hr.drew).far (by show G ≠ w.heap.size; omega) _, (r2.drew).far (by show w.heap.size + 1 + 1 ≠ w.heap.size; omega) _, b0.drew.setCell (p := ⟨w.heap.size, k, none⟩) (Nat.le_refl _) _⟩
       case measure => simp [intOf]; omega
     · obtain rfl : k = 8 := by omega
       clear hk8
       have hsz : (wds (Xa H V 8)).toArray.size = 8 := Jq _ (Xc _ _ HH.out 8)
       have Hsz := Lh hsz
       clear hsz
       go_wp2_with (first
        | (refine wpList_load_row rfl 207 _ rfl w.heap.size rfl 207 (wds (Xa H V 8)).toArray (0, 0) _ r0 Tryz.underlying207 rfl (by rw [Hsz.out]; kernel_rfl) ?_)
        | (refine wpList_store_row rfl 207 _ _ rfl (w.heap.size + 1 + 1) (wds (Xa H V 8)).toArray rfl rfl 207 _ r2 (by rw [Hsz.out]; kernel_rfl) (by rw [Hsz.out]; rfl) (Y5 _) ?_))
       exact bodyPost_ret (v := .agg (wds (Xa H V 8)).toArray) (results_cell_row Tryz.results153 _ _ (w.heap.size + 1 + 1) 207 _ (0, 0) _ rfl (r2.setRow _) Tryz.underlying207 rfl (by rw [Hsz.out]; kernel_rfl)) rfl ⟨by rw [Yg, ← HV.out], J8 b0 (by omega) _⟩
end Go.Proofs.YtdcmppdhdcjpfaaGreat
namespace Go.Proofs.YtdcmppdhdcjpfaaGreat
open Go.RowKit Go.Deep
def Es (x : BitVec 32) : List UInt8 := [UInt8.ofNat (x >>> 24).toNat, UInt8.ofNat (x >>> 16).toNat, UInt8.ofNat (x >>> 8).toNat, UInt8.ofNat x.toNat]
def K0 (H : List (BitVec 32)) : List UInt8 := H.flatMap Es
theorem Ac4 (H : List (BitVec 32)) : (K0 H).length = 4 * H.length := by
 induction H with
 | nil => rfl
 | cons a l ih => simp only [K0, List.flatMap_cons, List.length_append, List.length_cons] at ih ⊢; rw [ih]; simp [Es]; omega
theorem Abw (H : List (BitVec 32)) (k : Nat) (h : k < H.length) : K0 (H.take (k + 1)) = K0 (H.take k) ++ Es (H.getD k 0) := by
 rw [List.take_succ_eq_append_getElem h, K0, List.flatMap_append]
 simp [K0, List.getD, List.getElem?_eq_getElem h]
theorem Ahm (x : BitVec 32) : wd x % (256 : Int) = ((UInt8.ofNat x.toNat).toNat : Int) := by
 unfold wd; simp
theorem AeZ (w : World) : (isAgg 92).run Tryz.prog w = .ok false w := by
 unfold isAgg; simp [run_underlying Tryz.underlying92]
theorem AgD (H : List (BitVec 32)) (i : Nat) (hi : i < H.length) (w : World) : (part 92 (wds H).toArray i).run Tryz.prog w = .ok (.int .u32 (wd (H.getD i 0))) w := by
 unfold part
 rw [Sem.run_bind, AeZ]
 simp only [Result.andThen_ok, Bool.false_eq_true, if_false, KN H i hi]
 rfl
theorem Aer (x : BitVec 32) : [Value.int .u8 (wd (x >>> 24) % (256 : Int)), .int .u8 (wd (x >>> 16) % (256 : Int)), .int .u8 (wd (x >>> 8) % (256 : Int)), .int .u8 (wd x % (256 : Int))] = u8s (Es x) := by
 simp only [Ahm, u8s, Es, List.map_cons, List.map_nil]
attribute [local go_sem] Ag4 Ag3 Aik
theorem AeK (H : List (BitVec 32)) (hH : H.length = 8) (w : World) :
 Calls Tryz.prog 154 #[.agg (wds H).toArray] w fun e w' => e = .returned (.string ⟨(K0 H).toArray⟩) ∧ Below w.heap.size w w' := by
 have HH := Lh hH
 clear hH
 obtain ⟨i0, hi0, hz0, hz1, hz2⟩ := info_parts UQ
 have r0 := Row.new w 207 (wds H).toArray
 have b0 := (Below.refl w.heap.size w).alloc (Nat.le_refl _) (.cells (wds H).toArray 207)
 have s0 : w.heap.size + 1 ≤ (w.alloc (.cells (wds H).toArray 207)).heap.size := by simp
 go_enter Tryz.func154, Tryz.ntmps154
 go_wp2_with (first
  | (refine wpList_load_row rfl 205 _ rfl w.heap.size rfl 207 (wds H).toArray (0, 0) _ r0 Tryz.underlying205 rfl (by rw [Jq _ HH.out]; kernel_rfl) ?_))
 generalize w.alloc (.cells (wds H).toArray 207) = w1 at r0 b0 s0 ⊢
 go_loopw [3, 8] (fun v i wr => ∃ k : Nat, i = .int .i64 (k : Int) ∧ k ≤ 8 ∧ wr.ownsRow (w.heap.size + 1) 5 1 v (4 * k) (u8s (K0 (H.take k))) ∧ Below w.heap.size w wr ∧ w.heap.size + 1 ≤ wr.heap.size) (fun _ i _ => (8 - intOf i).toNat)
 case atStart => exact ⟨0, by simp, by omega, World.ownsRow_nil _ _ _ _, b0, s0⟩
 case round =>
  obtain ⟨k, rfl, hk, hown, hb, hs⟩ := hrel
  by_cases hk8 : k < 8
  · have hidx := ED (P := Tryz.prog) wr 205 92 8 (wds H).toArray .i64 k _ Tryz.underlying205 (AgD H k (by rw [HH.out]; exact hk8) wr) (by kernel_rfl) hk8
    obtain ⟨x, hx⟩ : ∃ x, x = H.getD k 0 := ⟨_, rfl⟩
    rw [← hx] at hidx
    have Hx := Lh hx
    clear hx
    have hk8' : (k : Int) < 8 := by omega
    go_wp2_with (
     (at_builtin
      refine wpList_append_own _ rfl (.tmp 11) (.tmp 23) 277 rfl (w.heap.size + 1) 5 i0 (.int .u8 0) 1 1 Tryz.underlying277 hi0 hz0 hz1 hz2 rfl (by decide) _ _ _ rfl (hown.alloc _) ⟨wr.heap.size, 0, none⟩ 4 4 [.int .u8 (wd (x >>> 24) % (256 : Int)), .int .u8 (wd (x >>> 16) % (256 : Int)), .int .u8 (wd (x >>> 8) % (256 : Int)), .int .u8 (wd x % (256 : Int))] rfl rfl (Jv _ _ _) ?c2 (by unfold maxLen; omega) (by omega) (by simp; omega) ?_))
    case c2 => rw [Aer]; exact UI _
    intro v' w2 hown' hg _
    have hb2 := QK (hb.alloc (by omega) _) (hown.alloc _) hg (by simp; omega) (by omega)
    have hs2 := hg.size
    rw [World.size_alloc] at hs2
    rw [Aer, Hx.out] at hown'
    clear hg hidx hown hb
    go_wp2
    go_roundw
    case rel => exact ⟨k + 1, by go_num, by omega, by rw [Abw H k (by rw [HH.out]; exact hk8), Yw]; exact hown', hb2, by omega⟩
    case measure => simp [intOf]; omega
  · obtain rfl : k = 8 := by omega
    clear hk8
    rw [show ((8 : Nat) : Int) = 8 from rfl]
    rw [List.take_of_length_le (by rw [HH.out]; omega)] at hown
    have hconv := JO (P := Tryz.prog) 277 9 5 Tryz.underlying277 Tryz.underlying5 Tryz.underlying9 _ hown
    clear hown
    go_wp2
    go_ret
    exact ⟨rfl, hb⟩
end Go.Proofs.YtdcmppdhdcjpfaaGreat
namespace Go.Proofs.YtdcmppdhdcjpfaaGreat
open Go.RowKit Go.Deep
attribute [local go_sem] Oper.semAt_some
abbrev Ux := { l : List UInt8 // l.length = 64 }
def Ad8 (l : List UInt8) (h : 64 ≤ l.length) : Ux := ⟨l.take 64, by simp; omega⟩
def JX : Nat → List UInt8 → List Ux
 | 0, _ => []
 | n + 1, l => if h : 64 ≤ l.length then Ad8 l h :: JX n (l.drop 64) else []
def AiA (w : World) (b : Nat) : Nat := match w.cell? ⟨b, 0, none⟩ with | some (.string s) => s.size | _ => 0
theorem ER : ∀ (n k : Nat) (l : List UInt8), k < n → 64 * (k + 1) ≤ l.length → ∃ c : Ux, (JX n l)[k]? = some c ∧ c.1 = (l.drop (64 * k)).take 64
 | 0, k, l, h, _ => by omega
 | n + 1, 0, l, _, h => by
  rw [JX, dif_pos (by omega)]
  exact ⟨_, rfl, by simp [Ad8]⟩
 | n + 1, k + 1, l, h, h2 => by
  rw [JX, dif_pos (by omega)]
  obtain ⟨c, h3, h4⟩ := ER n k (l.drop 64) (by omega) (by simp; omega)
  exact ⟨c, by simpa using h3, by rw [h4, List.drop_drop, Nat.mul_add, Nat.add_comm]⟩
theorem Va : ∀ (n : Nat) (l : List UInt8), 64 * n ≤ l.length → (JX n l).length = n
 | 0, l, _ => rfl
 | n + 1, l, h => by
  rw [JX, dif_pos (by omega), List.length_cons, Va n (l.drop 64) (by simp; omega)]
theorem AbH (l : List UInt8) (k : Nat) (x : Ux) (hx : x.1 = (l.drop (64 * k)).take 64) (h : 64 * (k + 1) ≤ l.length) :
 (JX (l.length / 64) l).take (k + 1) = (JX (l.length / 64) l).take k ++ [x] := by
 obtain ⟨c, h3, h4⟩ := ER (l.length / 64) k l (by omega) h
 have hl : k < (JX (l.length / 64) l).length := (List.getElem?_eq_some_iff.1 h3).1
 rw [List.take_succ_eq_append_getElem hl]
 rw [List.getElem?_eq_getElem hl] at h3
 have : c = x := Subtype.ext (h4.trans hx.symm)
 rw [← this]
 injection h3 with h3
 rw [h3]
theorem Ua (w : World) (e : TypeId) (s : ByteArray) : w.grownBy (Lib.bytesWorld w e s) none :=
 ⟨rfl, rfl, rfl, by rw [Lib.bytesWorld_size]; omega, fun k hk _ => Lib.bytesWorld_at_old w e s k hk⟩
theorem Aax (bs : Nat) (s : List UInt8) (hs : s.length ≤ 2000000) (w : World) (hrow : Row w bs 9 #[.string ⟨s.toArray⟩]) :
 Abp Tryz.prog 228 #[.pointer (some ⟨bs, 0, none⟩)] (fun x : Ux => #[.agg (u8s x.1).toArray]) (· = bs) (fun A B => B.heap[bs]? = A.heap[bs]? ∧ A.heap.size ≤ B.heap.size) (fun xs => xs = JX (s.length / 64) s) (fun _ => True) (s.length / 64) w := by
 intro l J Jx W _ hwW hJ hJx hY h0
 refine callsIn_of_wp Tryz.func228 rfl trivial ?_ rfl
 simp only [Tryz.ntmps228, List.size_toArray, List.length_cons, List.length_nil, Nat.reduceAdd, Nat.reduceSub, Array.replicate_succ, Array.replicate_zero, List.push_toArray, List.append_toArray, List.nil_append, List.cons_append]
 gi_wp2
 have hrW : Row W bs 9 #[.string ⟨s.toArray⟩] := (hwW.block bs hrow.lt (by simp)).trans hrow
 clear hrow hwW
 gi_loopw [3] (fun _ wr => ∃ (k : Nat) (q : ByteArray), q.data.toList = s.drop (64 * k) ∧ 64 * k ≤ s.length ∧ Row wr bs 9 #[.string q] ∧ J ((JX (s.length / 64) s).take k) wr) (fun _ wr => AiA wr bs)
 case atStart => exact ⟨0, ⟨s.toArray⟩, by simp, by omega, hrW, by simpa using h0⟩
 case round =>
  obtain ⟨k, q, hq, hk, hr, hj⟩ := hrel
  have hqs : q.size + 64 * k = s.length := by
   have := congrArg List.length hq
   simp at this; omega
  have Hq := Lh hq
  have Hqs := Lh hqs
  clear hq hqs
  have hc := hr.cellv (i := 0) (v := .string q) rfl
  have hf := hr.free 0
  by_cases h64 : 64 ≤ q.size
  · have hconv := fun w => Lib.run_convert_string_bytes (P := Tryz.prog) w 9 277 5 (q.extract 0 64) Tryz.underlying9 Tryz.underlying277 Tryz.underlying5
    have hsz : (q.extract 0 64).size = 64 := by simp; omega
    simp only [hsz] at hconv
    have Hsz := Lh hsz
    have harr := fun w => run_arrayAt (P := Tryz.prog) w 213 5 64 (some ⟨wr.heap.size, 0, none⟩) 64 (grownCap wr 64 0 5) Tryz.underlying213 (Nat.le_refl _)
    clear hsz
    obtain ⟨x, hx⟩ : ∃ x : Ux, x.1 = (q.extract 0 64).data.toList := ⟨⟨(q.extract 0 64).data.toList, by have := Hsz.out; simpa using this⟩, rfl⟩
    have hcells : ∀ j v, (u8s x.1)[j]? = some v → (Lib.bytesWorld wr 5 (q.extract 0 64)).cell? ⟨wr.heap.size, j, none⟩ = some v := by
     intro j v hv
     rw [XD, hx] at hv
     have hj : j < (q.extract 0 64).size := by
      rcases Nat.lt_or_ge j (q.extract 0 64).data.toList.length with h | h
      · simpa using h
      · rw [List.getElem?_eq_none h] at hv; cases hv
     rw [Lib.bytesWorld_cell _ _ _ j hj, ← hv, List.getD, List.getElem?_eq_getElem (by simpa using hj)]
     rfl
    have Hcells := Lh hcells
    have Hx := Lh hx
    have hg2 : wr.grownBy (Lib.bytesWorld wr 5 (q.extract 0 64)) none := Ua _ _ _
    have hj2 := hJ _ _ _ none hj hg2 (fun r e => by cases e)
    have hr2 : Row (Lib.bytesWorld wr 5 (q.extract 0 64)) bs 9 #[.string q] := (hg2.block bs hr.lt (by simp)).trans hr
    have hkl : k < s.length / 64 := by have := Hqs.out; omega
    obtain ⟨fn, tmps, assign, body, hy, hR⟩ := hY _ x _ hj2 (by rw [List.length_take]; omega)
    have Hhg2 := Lh hg2
    have HR := Lh hR
    have Hr2 := Lh hr2
    clear hcells hx hg2 hj hr2 hr hR
    gi_wp2_with (refine Yz rfl 213 _ rfl wr.heap.size rfl (u8s x.1) _ Hcells.out Tryz.underlying213 rfl (by rw [Yx, x.2]; kernel_rfl) ?_)
    refine ⟨rfl, HR.out.mono ?_⟩
    rintro e W' (⟨rfl, hj3, hk3, hs3⟩ | ⟨rfl, hjx⟩)
    · have hr3 : Row W' bs 9 #[.string q] := hk3.trans Hr2.out
      have hc3 := hr3.cellv (i := 0) (v := .string q) rfl
      have hf3 := hr3.free 0
      have Hj3 := Lh hj3
      clear hj3 hk3 hj2 hy hf hconv harr
      gi_wp2
      go_roundw
      case rel =>
       refine ⟨k + 1, q.extract 64 q.size, ?_, by have := Hqs.out; omega, hr3.set _ _, ?_⟩
       · have := Hq.out
         simp only [ByteArray.data_extract, Array.toList_extract, List.extract_eq_take_drop, this, List.drop_drop]
         rw [List.take_of_length_le (by simp; have := Hqs.out; omega), Nat.mul_add]
       · refine hJ _ _ _ (some bs) ?_ (grownBy_setCell' _ _ _) (fun r e => by cases e; exact .inl rfl)
         rw [AbH s k x (by rw [Hx.out]; simp [Hq.out]) (by have := Hqs.out; omega)]
         exact Hj3.out
      case measure =>
       have hrn := hr3.set 0 (.string (q.extract 64 q.size))
       have hrn2 := hrn.cell 0
       unfold AiA
       rw [hrn2, hc]
       simp; omega
    · clear hj2 hy hconv harr
      gi_wp2
      refine bodyPost_ret (results_none rfl _ _ _) rfl ?_
      exact ⟨⟨_, rfl⟩, .inr ⟨_, trivial, hjx⟩⟩
  · gi_wp2
    go_end0
    refine ⟨⟨_, rfl⟩, .inl ⟨_, rfl, ?_⟩⟩
    have hkk : k = s.length / 64 := by have := Hqs.out; omega
    rw [List.take_of_length_le (by rw [Va _ _ (by omega)]; omega)] at hj
    exact hj
end Go.Proofs.YtdcmppdhdcjpfaaGreat
namespace Go.Proofs.YtdcmppdhdcjpfaaGreat
open Go.RowKit Go.Deep
def Acy (R L k i : Nat) : UInt8 := if i = 0 then 128 else if i + k < L then 0 else UInt8.ofNat (R / 256 ^ (L - 1 - i))
def VL (R L k : Nat) : List UInt8 := (List.range L).map (Acy R L k)
def AaU (R L k : Nat) : Array Value := (u8s (VL R L k)).toArray
theorem UT (R L k i : Nat) : (AaU R L k)[i]? = if i < L then some (.int .u8 ((Acy R L k i).toNat : Int)) else none := by
 unfold AaU VL
 simp only [List.getElem?_toArray, XD, List.getElem?_map]
 by_cases h : i < L <;> simp [h]
theorem Afq (R L k : Nat) : (AaU R L k).size = L := by simp [AaU, VL, u8s]
theorem Afr (R L k : Nat) (hk : k + 1 < L) : (AaU R L k).setIfInBounds (L - 1 - k) (.int .u8 ((UInt8.ofNat (R / 256 ^ k)).toNat : Int)) = AaU R L (k + 1) := by
 apply Array.ext_getElem?
 intro i
 rw [Array.getElem?_setIfInBounds, UT, UT, Afq]
 by_cases hi : L - 1 - k = i
 · subst hi
   rw [if_pos rfl, if_pos (by omega), if_pos (by omega)]
   unfold Acy
   rw [if_neg (by omega), if_neg (by omega), show L - 1 - (L - 1 - k) = k from by omega]
 · rw [if_neg hi]
   by_cases hL : i < L
   · rw [if_pos hL, if_pos hL]
     congr 4
     unfold Acy
     by_cases h0 : i = 0
     · simp [h0]
     · rw [if_neg h0, if_neg h0]
       by_cases h1 : i + (k + 1) < L
       · rw [if_pos h1, if_pos (by omega)]
       · rw [if_neg h1, if_neg (by omega)]
   · rw [if_neg hL, if_neg hL]
theorem AdI (R L : Nat) (cs : Array Value) (hs : cs.size = L) (h : ∀ i, i < L → cs[i]? = some (.int .u8 0)) : cs.setIfInBounds 0 (.int .u8 128) = AaU R L 0 := by
 apply Array.ext_getElem?
 intro i
 rw [Array.getElem?_setIfInBounds, UT, hs]
 by_cases hi : 0 = i
 · subst hi
   rw [if_pos rfl]
   by_cases hL : 0 < L <;> simp [hL, Acy]
 · rw [if_neg hi]
   by_cases hL : i < L
   · rw [if_pos hL, h i hL]
     unfold Acy
     rw [if_neg (by omega), if_pos (by omega)]; rfl
   · rw [if_neg hL, Array.getElem?_eq_none (by omega)]
theorem AhP (z : Value) (n i : Nat) (h : i < n) : (madeCells #[z] n)[i]? = some z := by
 unfold madeCells
 simp [h, Nat.mod_one]
theorem AiS (q : Nat) : ((q : Int) % 256) = ((UInt8.ofNat q).toNat : Int) := by simp
theorem Agb (L k : Nat) : (L : Int) - 1 - (k : Int) - 1 = (L : Int) - 1 - ((k + 1 : Nat) : Int) := by omega
theorem AfY (R k : Nat) : ((R / 256 ^ k : Nat) : Int) / 256 = ((R / 256 ^ (k + 1) : Nat) : Int) := by
 rw [Nat.pow_succ, ← Nat.div_div_eq_div_mul]; omega
def AdJ (n : Nat) : Nat := 72 - (n + 8) % 64
def YM (n : Nat) : List UInt8 := VL (n * 8 % 18446744073709551616) (AdJ n) 8
theorem Afs (R L k : Nat) (hk : k ≤ 8) (h : R / 256 ^ k = 0) : VL R L k = VL R L 8 := by
 unfold VL
 apply List.map_congr_left
 intro i hi
 unfold Acy
 by_cases h0 : i = 0
 · simp [h0]
 · rw [if_neg h0, if_neg h0]
   by_cases h1 : i + 8 < L
   · rw [if_pos (by omega), if_pos h1]
   · rw [if_neg h1]
     by_cases h2 : i + k < L
     · rw [if_pos h2]
       have : R / 256 ^ (L - 1 - i) = 0 := by
        have hp : 256 ^ k ≤ 256 ^ (L - 1 - i) := Nat.pow_le_pow_right (by omega) (by omega)
        rw [Nat.div_eq_zero_iff] at h ⊢
        rcases h with h | h
        · exact absurd h (Nat.pos_iff_ne_zero.1 (Nat.pow_pos (by omega)))
        · exact .inr (by omega)
       rw [this]; rfl
     · rw [if_neg h2]
theorem AhZ (n : Int) (h0 : 0 ≤ n) (h1 : n ≤ 9223372036854775807) (w : World) :
 Calls Tryz.prog 152 #[.int .i64 n] w fun e w' => e = .returned (.string ⟨(YM n.toNat).toArray⟩) ∧ Below w.heap.size w w' := by
 obtain ⟨L, hL, hL9, hL72⟩ : ∃ L : Nat, 72 - (n + 8) % 64 = (L : Int) ∧ 9 ≤ L ∧ L ≤ 72 := ⟨(72 - (n + 8) % 64).toNat, by omega, by omega, by omega⟩
 obtain ⟨cs, hcs⟩ : ∃ cs, cs = madeCells #[Value.int .u8 0] L := ⟨_, rfl⟩
 have hmk := run_make_row' (P := Tryz.prog) 277 5 (.int .u8 0) 1 Tryz.underlying277 UQ rfl .i64 .i64 L (by omega) (by omega)
 have hat : ∀ i, i < L → cs[i]? = some (.int .u8 0) := fun i hi => by rw [hcs]; exact AhP _ _ _ hi
 have hsz := size_madeCells #[Value.int .u8 0] L
 rw [← hcs] at hmk hsz
 have hcs0 : cs[0]? = some (.int .u8 0) := hat 0 (by omega)
 obtain ⟨R, hR, hRlt⟩ : ∃ R : Nat, IntKind.u64.wrap (n * 8) = (R : Int) ∧ R < 18446744073709551616 := by
  rw [IntKind.wrap_u64]; exact ⟨((n * 8) % 18446744073709551616).toNat, by omega, by omega⟩
 have HRlt := Lh hRlt
 have Hat := Lh hat
 have Hsz := Lh hsz
 have Hfin : Hid (VL R L 8 = YM n.toNat) := by
  unfold YM
  rw [show AdJ n.toNat = L from by unfold AdJ; omega, show n.toNat * 8 % 18446744073709551616 = R from by rw [IntKind.wrap_u64] at hR; omega]; rfl
 clear hcs hat hsz hRlt
 go_enter Tryz.func152, Tryz.ntmps152
 go_wp2
 go_loopw [4, 5] (fun i r wr => ∃ k : Nat, i = .int .i64 ((L : Int) - 1 - (k : Int)) ∧ r = .int .u64 ((R / 256 ^ k : Nat) : Int) ∧ k ≤ 8 ∧ Row wr w.heap.size 5 (AaU R L k) ∧ Below w.heap.size w wr) (fun _ r _ => (intOf r).toNat)
 case atStart => exact ⟨0, by simp, by simp, by omega, by rw [← AdI R L cs Hsz.out Hat.out]; exact Row.new _ _ _, (Below.refl _ _).alloc (Nat.le_refl _) _⟩
 case round =>
  obtain ⟨k, rfl, rfl, hk, hrow, hb⟩ := hrel
  by_cases hz : R / 256 ^ k = 0
  · have hconv := KW (P := Tryz.prog) 277 9 5 5 Tryz.underlying277 Tryz.underlying5 Tryz.underlying9 (cap := L) hrow (VL R L k) (n := L) (by simp [VL]) (fun j hj => by simp [AaU])
    rw [Afs R L k hk hz, Hfin.out] at hconv
    have hz' : ((R / 256 ^ k : Nat) : Int) = 0 := by omega
    rw [hz']
    clear hz hz' Hfin
    go_wp2
    go_ret
    exact ⟨rfl, hb⟩
  · have hk8 : k < 8 := by
     rcases Nat.lt_or_ge k 8 with h | h
     · exact h
     · obtain rfl : k = 8 := by omega
       exact absurd (Nat.div_eq_of_lt HRlt.out) hz
    have hpos : 0 < R / 256 ^ k := Nat.pos_of_ne_zero hz
    obtain ⟨q, hq⟩ : ∃ q, q = R / 256 ^ k := ⟨_, rfl⟩
    rw [← hq] at hz hpos ⊢
    have Hq := Lh hq
    clear hq
    have hc := hrow.cellv (i := L - 1 - k) (v := .int .u8 ((Acy R L k (L - 1 - k)).toNat : Int)) (by rw [UT, if_pos (by omega)])
    have hf := hrow.free (L - 1 - k)
    go_wp2
    go_roundw
    case rel => exact ⟨k + 1, by rw [Agb], by rw [← AfY, Hq.out], by omega, by rw [← Afr R L k (by omega), AiS, Hq.out]; exact hrow.set _ _, hb.setCell (p := ⟨w.heap.size, L - 1 - k, none⟩) (Nat.le_refl _) _⟩
    case measure => simp [intOf]; omega
attribute [local go_sem] Oper.semAt_some
theorem EE (s : ByteArray) (w : World) :
 Calls Tryz.prog 151 #[.string s] w fun e w' => e = .returned (.func (.func 228) #[] #[.pointer (some ⟨w.heap.size, 0, none⟩)]) ∧ w.alloc (.cells #[.string s] 9) = w' := by
 go_enter Tryz.func151, Tryz.ntmps151
 go_wp2
 go_ret
 exact ⟨rfl, rfl⟩
def Kg (H : List (BitVec 32)) (l : List Ux) : List (BitVec 32) := l.foldl (fun H c => Yg H c.1) H
def AgQ (s : List UInt8) : List UInt8 := K0 (Kg Kn (JX ((s ++ YM s.length).length / 64) (s ++ YM s.length)))
theorem Ko : ∀ (l : List Ux) (H : List (BitVec 32)), H.length = 8 → (Kg H l).length = 8
 | [], _, h => h
 | _ :: l, _, h => Ko l _ (Xc _ _ h 8)
theorem AgA (n : Nat) : (YM n).length = AdJ n := by simp [YM, VL]
theorem AhY (n : Nat) : 9 ≤ AdJ n ∧ AdJ n ≤ 72 := by unfold AdJ; omega
theorem Aid (s : ByteArray) (hs : s.size ≤ 1000000) (w : World) :
 Calls Tryz.prog 78 #[.string s] w fun e w' => e = .returned (.string ⟨(AgQ s.data.toList).toArray⟩) ∧ Below w.heap.size w w' := by
 refine (callsIn_wide (n := 0)).1 ?_
 refine callsIn_of_wp_marks Tryz.func78 rfl trivial ?_
 simp only [Tryz.ntmps78, List.size_toArray, List.length_cons, List.length_nil, Nat.reduceAdd, Nat.reduceSub, Array.replicate_succ, Array.replicate_zero, List.push_toArray, List.append_toArray, List.nil_append, List.cons_append]
 gi_wp2_with fail
 refine ⟨trivial, rfl, (callsIn_wide.2 (Afz w)).mono ?_⟩
 rintro e w1 ⟨rfl, b1⟩
 gi_wp2_with (refine Q0 rfl 207 _ _ rfl w1.heap.size (wds Kn).toArray rfl rfl 207 _ (heap_alloc_new w1 _) (by kernel_rfl) rfl (Y5 _) ?_; rw [World.setRow_alloc_new])
 have rh := Row.new w1 207 (wds Kn).toArray
 have b2 := b1.alloc b1.size (.cells (wds Kn).toArray 207)
 have g1 := b1.size
 obtain ⟨G, hG⟩ : ∃ G, G = w1.heap.size := ⟨_, rfl⟩
 rw [← hG] at rh g1 ⊢
 clear hG
 have lh := rh.lt
 generalize w1.alloc (.cells (wds Kn).toArray 207) = w2 at rh b2 lh ⊢
 clear b1
 refine ⟨trivial, rfl, (callsIn_wide.2 (AhZ (s.size : Int) (by omega) (by omega) w2)).mono ?_⟩
 rw [Int.toNat_natCast]
 rintro e w3 ⟨rfl, b3⟩
 have rh3 := rh.below b3 lh
 have b3' := b2.trans (b3.mono b2.size)
 have l3 := b3.size
 clear b3 b2 rh
 have hpl : (YM s.size).length ≤ 72 := by rw [AgA]; exact (AhY _).2
 gi_wp2_with fail
 have hq : (s ++ (⟨(YM s.size).toArray⟩ : ByteArray)).data.toList = s.data.toList ++ YM s.data.toList.length := by simp
 have hqs : (s ++ (⟨(YM s.size).toArray⟩ : ByteArray)).size ≤ 1000072 := by rw [ByteArray.size_append, Y0 (YM s.size)]; omega
 generalize (s ++ (⟨(YM s.size).toArray⟩ : ByteArray)) = q at hq hqs ⊢
 have Hq := Lh hq
 clear hq hpl
 refine ⟨trivial, rfl, (callsIn_wide.2 (EE q w3)).mono ?_⟩
 rintro e w4 ⟨rfl, hw4⟩
 have rb := Row.new w3 9 #[.string q]
 have rh4 := rh3.alloc (.cells #[.string q] 9)
 have b4 := b3'.alloc b3'.size (.cells #[.string q] 9)
 have g4 : G < w3.heap.size := rh3.lt
 have gs4 : (w3.alloc (.cells #[.string q] 9)).heap.size = w3.heap.size + 1 := by simp
 rw [hw4] at rb rh4 b4 gs4
 obtain ⟨Bs, hBs⟩ : ∃ Bs, Bs = w3.heap.size := ⟨_, rfl⟩
 rw [← hBs] at rb g4 gs4 ⊢
 clear hBs hw4 rh3 b3' l3 lh
 have gB : w.heap.size ≤ Bs := by omega
 have hlen : q.data.toList.length ≤ 2000000 := by simp; omega
 have Hseq := Lh (Aax Bs q.data.toList hlen w4 rb)
 gi_wp2
 refine AaX (gf := 228) (lb := #[.pointer (some ⟨Bs, 0, none⟩)]) rfl (enters_of Tryz.func228 (by kernel_rfl) rfl) Hseq.out (fun r h => by subst h; omega)
  (fun h k => ⟨k.1.trans h.1, Nat.le_trans h.2 k.2⟩) (fun W l o o' hl ho hc => ⟨by rw [World.putObj_heap_other (by omega)], by simp⟩) (World.grownBy.refl _ _) (fun _ => rfl)
  (fun pre W => Row W G 207 (wds (Kg Kn pre)).toArray ∧ Below w.heap.size w W ∧ Bs < W.heap.size) (fun _ _ _ => False) ?hI ?hIx ⟨rh4, b4, by omega⟩
  (fun x a' W => ∃ Bx, Bs < Bx ∧ Row W Bx 213 (u8s x.1).toArray ∧ a' = { tmps := #[.string s, undef, .string ⟨#[]⟩, .pointer (some ⟨G, 0, none⟩), .pointer (some ⟨Bx, 0, none⟩), undef, .agg (wds Kn).toArray, .string s, .string s, .int .i64 s.size, .string ⟨(YM s.size).toArray⟩, .string q, .func (.func 228) #[] #[.pointer (some ⟨Bs, 0, none⟩)], .agg (u8s x.1).toArray, undef, undef, undef, undef, undef, undef, undef], defers := [] }) ?hAx ?assign ?body ?done ?stop
 case hI =>
  intro pre A B row hs hg hr
  refine ⟨(hg.block G hs.1.lt (fun e => ?_)).trans hs.1, hs.2.1.grown hg hs.2.1.size (fun k hk => ?_), Nat.lt_of_lt_of_le hs.2.2 hg.size⟩
  · rcases hr _ e.symm with h | ⟨h, _⟩ <;> omega
  · rcases hr _ hk with h | ⟨h, _⟩ <;> omega
 case hIx => exact fun _ _ _ _ _ h _ _ => h
 case hAx =>
  rintro x a' _ A B row ⟨Bx, h1, h2, h3⟩ hg hr
  refine ⟨Bx, h1, (hg.block Bx h2.lt (fun e => ?_)).trans h2, h3⟩
  rcases hr _ e.symm with h | ⟨_, o, ho, hc⟩
  · omega
  · rw [h2] at ho; cases ho; cases hc
 case assign =>
  rintro l pre x W K ⟨hr, hb, hlt⟩ hK
  have hx : (u8s x.1).toArray.size = 64 := AcN _ x.2
  have Hx := Lh hx
  clear hx
  have HK := Lh hK
  clear hK
  gi_wp2_with (refine Q0 rfl 213 _ _ rfl W.heap.size (u8s x.1).toArray rfl rfl 213 _ (heap_alloc_new W _) (by rw [Hx.out]; kernel_rfl) (by rw [Hx.out]; rfl) (Aih _) ?_; rw [World.setRow_alloc_new])
  exact HK.out _ _ (KeepsFrom.alloc _ _ _) ⟨Below.heap_alloc _ _ _ hlt, by simp⟩ ⟨hr.alloc _, hb.alloc hb.size _, by simp; omega⟩ ⟨_, hlt, Row.new _ _ _, rfl⟩
 case body =>
  rintro l pre x a' W hl _ ⟨hr, hb, hlt⟩ ⟨Bx, hBx, hrx, rfl⟩ _
  have hx : (u8s x.1).toArray.size = 64 := AcN _ x.2
  obtain ⟨H, hH⟩ : ∃ H, H = Kg Kn pre := ⟨_, rfl⟩
  have hHl : H.length = 8 := by rw [hH]; exact Ko _ _ rfl
  rw [← hH] at hr
  have Hx := Lh hx
  have HH := Lh hH
  have HHl := Lh hHl
  clear hx hH hHl
  gi_wp2_with (first
   | (refine Q2 rfl 207 _ rfl G rfl 207 (wds H).toArray (0, 0) _ hr Tryz.underlying207 rfl (by rw [Jq _ HHl.out]; kernel_rfl) ?_)
   | (refine Q2 rfl 213 _ rfl Bx rfl 213 (u8s x.1).toArray (0, 0) _ hrx Tryz.underlying213 rfl (by rw [Hx.out]; kernel_rfl) ?_))
  refine ⟨trivial, rfl, (CallsIn.inRound l (callsIn_wide.2 (AeJ H HHl.out x.1 x.2 W))).mono ?_⟩
  rintro e W2 ⟨rfl, hb2⟩
  have hr2 := hr.below hb2 hr.lt
  have hn : (Yg H x.1).length = 8 := Xc _ _ HHl.out 8
  have Hn := Lh hn
  clear hn
  gi_wp2_with (refine Q0 rfl 207 _ _ rfl G (wds (Yg H x.1)).toArray rfl rfl 207 _ hr2 (by rw [Jq _ Hn.out]; kernel_rfl) (by rw [Jq _ Hn.out, Jq _ HHl.out]) (Y5 _) ?_)
  refine ⟨(KeepsFrom.of_below hb2).trans (KeepsFrom.setRow hr2 _), ⟨(Aa7 _ _ _ _ (by omega)).trans (hb2.block _ hlt), Nat.le_trans hb2.size (by simp [World.setRow])⟩, ?_, ?_, ?_⟩
  · have := hr2.setRow (wds (Yg H x.1)).toArray
    have e : Yg H x.1 = Kg Kn (pre ++ [x]) := by rw [HH.out, Kg, Kg, List.foldl_append]; rfl
    rw [e] at this
    rw [e]; exact this
  · exact J8 (hb.trans (hb2.mono hb.size)) g1 _
  · have := hb2.size; simp [World.setRow]; omega
 case stop => exact fun D c pre W _ _ h _ => h.elim
 case done =>
  rintro D ys W hD rfl ⟨hr, hb, _⟩ hK
  obtain ⟨H, hH⟩ : ∃ H, H = Kg Kn (JX (q.data.toList.length / 64) q.data.toList) := ⟨_, rfl⟩
  have hHl : H.length = 8 := by rw [hH]; exact Ko _ _ rfl
  have hfin : K0 H = AgQ s.data.toList := by rw [hH, Hq.out]; rfl
  rw [← hH] at hr
  have HHl := Lh hHl
  have Hfin := Lh hfin
  have HK := Lh hK
  clear hH hHl hfin hK
  gi_wp2_with (refine Q2 rfl 207 _ rfl G rfl 207 (wds H).toArray (0, 0) _ hr Tryz.underlying207 rfl (by rw [Jq _ HHl.out]; kernel_rfl) ?_)
  refine ⟨trivial, rfl, (callsIn_wide.2 (AeK H HHl.out W)).mono ?_⟩
  rintro e W5 ⟨rfl, hb5⟩
  have hK5 : W5.heap[D]? = some (.deferred (some [])) := (hb5.block D (Array.getElem?_eq_some_iff.1 HK.out).1).trans HK.out
  rw [Hfin.out]
  have HK5 := Lh hK5
  clear hK5 HK hr
  gi_wp2
  refine ⟨by simp, .inl ⟨_, _, rfl, run_takeDeferred HK5.out, ?_⟩⟩
  exact ⟨_, results_tmp rfl _ _ _, rfl, (hb.trans (hb5.mono hb.size)).grown (grownBy_putObj' _ _ _) (Nat.le_trans hb.size hb5.size) (fun k e => by cases e; omega)⟩
end Go.Proofs.YtdcmppdhdcjpfaaGreat
namespace Go.Proofs.YtdcmppdhdcjpfaaGreat
open Go.RowKit Go.Deep
def part (l : List UInt8) (n j : Nat) : List UInt8 := l.take j ++ List.replicate (n - j) 0
def AbL (r : RunV) : List UInt8 := AgQ (Yt r.kind r.value r.evs)
theorem Abc (r : RunV) (w : World) (hok : r.ok w) (hl : r.evs.length ≤ 10000) :
 Calls Tryz.prog 33 #[r.val] w fun e w' => e = .returned (.string ⟨(AbL r).toArray⟩) ∧ Below w.heap.size w w' := by
 have Hok := Lh hok
 have Hl := Lh hl
 clear hok hl
 go_enter Tryz.func33, Tryz.ntmps33
 rw [show r.val = .agg r.cells from rfl]
 go_wp2_with (refine Qp _ _ rfl ?_)
 refine Stop.to ?_
 refine Qe rfl 40 _ rfl r.cells rfl ?_
 intro G w1 hG r1 b1
 have b1 := (Below.refl w.heap.size w).trans (b1.mono hG)
 have hok1 : r.ok w1 := ⟨Hok.out.kind, Hok.out.value, Hok.out.steps, Hok.out.len, Hok.out.cap, Hok.out.nil, Hok.out.reads.go b1, Hok.out.evs⟩
 have Hok1 := Lh hok1
 clear hok1
 go_wp2_with (refine wpList_load_row rfl 40 _ rfl G rfl 40 r.cells (0, 0) _ r1 Tryz.underlying40 rfl (by kernel_rfl) ?_)
 refine (AcI r w1 Hok1.out (by have := Hl.out; omega)).mono ?_
 rintro e w2 ⟨rfl, b2⟩
 have b2 := b1.trans (b2.mono b1.size)
 go_wp2_with fail
 refine (Aid ⟨(Yt r.kind r.value r.evs).toArray⟩ (by rw [Y0]; have := AdT r.kind r.value r.evs; have := Hl.out; omega) w2).mono ?_
 rintro e w3 ⟨rfl, b3⟩
 go_wp2_with fail
 go_ret
 exact ⟨rfl, b2.trans (b3.mono b2.size)⟩
theorem AgR (l : List UInt8) : (AgQ l).length = 32 := by
 rw [AgQ, Ac4, Ko _ _ rfl]
theorem AbM (r : RunV) : (AbL r).length = 32 := AgR _
theorem RunV.ok.ok_go {r : RunV} {w w' : World} (h : r.ok w) (b : Below w.heap.size w w') : r.ok w' :=
 ⟨h.kind, h.value, h.steps, h.len, h.cap, h.nil, h.reads.go b, h.evs⟩
instance St.runok {r : RunV} : St (fun W => r.ok W) := ⟨fun h b => h.ok_go b⟩
end Go.Proofs.YtdcmppdhdcjpfaaGreat
