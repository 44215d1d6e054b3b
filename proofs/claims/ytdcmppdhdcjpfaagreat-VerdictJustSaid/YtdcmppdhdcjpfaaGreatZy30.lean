/- Lemmas for VerdictJustP. -/
import Derived.Test.YtdcmppdhdcjpfaaGreatZy29
import Derived.Test.YtdcmppdhdcjpfaaGreatZy28
import Derived.Test.YtdcmppdhdcjpfaaGreatZy1
import Derived.Test.YtdcmppdhdcjpfaaGreatRows
import Derived.Laws.CopyOwn
import Derived.Lib.ConvBytes
import Derived.Laws.Cover3
set_option linter.unusedVariables false
set_option linter.unusedSimpArgs false
set_option maxRecDepth 100000
set_option maxHeartbeats 16000000
namespace Go.Proofs.YtdcmppdhdcjpfaaGreat
open Go.RowKit Go.Deep
def Aka (e f g h k x : BitVec 32) : BitVec 32 := h + (e.rotateRight 6 ^^^ e.rotateRight 11 ^^^ e.rotateRight 25) + (g ^^^ e &&& (f ^^^ g)) + k + x
def AkN (a b c : BitVec 32) : BitVec 32 := (a.rotateRight 2 ^^^ a.rotateRight 13 ^^^ a.rotateRight 22) + (a &&& b ^^^ a &&& c ^^^ b &&& c)
def AbP (W : List (BitVec 32)) (t : Nat) : List (BitVec 32) → List (BitVec 32)
 | [a, b, c, d, e, f, g, h] =>
  let t1 := Aka e f g h (cubeL.getD t 0) (W.getD t 0)
  [t1 + AkN a b c, a, b, c, d + t1, e, f, g]
 | l => l
def Xv (W H : List (BitVec 32)) : Nat → List (BitVec 32)
 | 0 => H
 | t + 1 => AbP W t (Xv W H t)
theorem ES (W H : List (BitVec 32)) (h : H.length = 8) : ∀ t, (Xv W H t).length = 8
 | 0 => h
 | t + 1 => by
  have ih := ES W H h t
  unfold Xv
  match h' : Xv W H t, ih with
  | [a, b, c, d, e, f, g, h], _ => simp [AbP]
theorem Akw {α : Type} {l : List α} (h : l.length = 8) : ∃ a b c d e f g i, l = [a, b, c, d, e, f, g, i] := by
 match l, h with
 | [a, b, c, d, e, f, g, i], _ => exact ⟨a, b, c, d, e, f, g, i, rfl⟩
def Xz (H V : List (BitVec 32)) : Nat → List (BitVec 32)
 | 0 => H
 | j + 1 => (Xz H V j).set j ((Xz H V j).getD j 0 + V.getD j 0)
theorem XB (H V : List (BitVec 32)) (h : H.length = 8) : ∀ j, (Xz H V j).length = 8
 | 0 => h
 | j + 1 => by simp [Xz, XB H V h j]
def YQ (H : List (BitVec 32)) (l : List UInt8) : List (BitVec 32) := Xz H (Xv (Yz l) H 64) 8
theorem Ag3 (a b c d e f g i : BitVec 32) : ∀ j v, (wds [a, b, c, d, e, f, g])[j]? = some v → (wds [a, b, c, d, e, f, g, i]).toArray[0 + j]? = some v := by
 intro j v h
 match j, h with
 | 0, h | 1, h | 2, h | 3, h | 4, h | 5, h | 6, h => exact h
theorem AeN (W H : List (BitVec 32)) (k : Nat) (a b c d e f g i xk xw : BitVec 32) (h : Xv W H k = [a, b, c, d, e, f, g, i]) (hk : xk = cubeL.getD k 0) (hw : xw = W.getD k 0) :
 ((wds [a, a, b, c, d, e, f, g]).toArray.setIfInBounds 0 (.int .u32 (wd (Aka e f g i xk xw + AkN a b c)))).setIfInBounds 4 (.int .u32 (wd (d + Aka e f g i xk xw))) = (wds (Xv W H (k + 1))).toArray := by
 rw [UJ, UJ, Xv, h, AbP, hk, hw]; rfl
theorem AgQ (H V : List (BitVec 32)) (j : Nat) : (wds (Xz H V j)).toArray.setIfInBounds j (.int .u32 (wd ((Xz H V j).getD j 0 + V.getD j 0))) = (wds (Xz H V (j + 1))).toArray := UJ _ _ _
attribute [local go_sem] AfF AeT AeS Ab3 Ab4 Ab5 VJ Yy
theorem AfM (H : List (BitVec 32)) (hH : H.length = 8) (l : List UInt8) (hl : l.length = 64) (w : World) :
 Calls Tryz.prog 153 #[.agg (wds H).toArray, .agg (u8s l).toArray] w fun e w' => e = .returned (.agg (wds (YQ H l)).toArray) ∧ Below w.heap.size w w' := by
 have Hl := Lh hl;have HH := Lh hH;clear hl hH;go_enter Tryz.func153, Tryz.ntmps153
 go_wp2_with fail
 have n : Row (((w.alloc (.cells (wds H).toArray 207)).alloc (.cells (u8s l).toArray 213)).alloc (.cells (wds [0, 0, 0, 0, 0, 0, 0, 0]).toArray 207)) w.heap.size 207 (wds H).toArray := ((Row.new _ _ _).alloc _).alloc _
 have r1 : Row (((w.alloc (.cells (wds H).toArray 207)).alloc (.cells (u8s l).toArray 213)).alloc (.cells (wds [0, 0, 0, 0, 0, 0, 0, 0]).toArray 207)) (w.heap.size + 1) 213 (u8s l).toArray := by
  have h := (Row.new (w.alloc (.cells (wds H).toArray 207)) 213 (u8s l).toArray).alloc (.cells (wds [0, 0, 0, 0, 0, 0, 0, 0]).toArray 207);rwa [World.size_alloc] at h
 have q : Row (((w.alloc (.cells (wds H).toArray 207)).alloc (.cells (u8s l).toArray 213)).alloc (.cells (wds [0, 0, 0, 0, 0, 0, 0, 0]).toArray 207)) (w.heap.size + 1 + 1) 207 (wds [0, 0, 0, 0, 0, 0, 0, 0]).toArray := by
  have h := Row.new ((w.alloc (.cells (wds H).toArray 207)).alloc (.cells (u8s l).toArray 213)) 207 (wds [0, 0, 0, 0, 0, 0, 0, 0]).toArray;rwa [World.size_alloc, World.size_alloc] at h
 have r : Below w.heap.size w (((w.alloc (.cells (wds H).toArray 207)).alloc (.cells (u8s l).toArray 213)).alloc (.cells (wds [0, 0, 0, 0, 0, 0, 0, 0]).toArray 207)) :=
  (((Below.refl _ _).alloc (Nat.le_refl _) _).alloc (by simp) _).alloc (by simp; omega) _
 have s0 : (((w.alloc (.cells (wds H).toArray 207)).alloc (.cells (u8s l).toArray 213)).alloc (.cells (wds [0, 0, 0, 0, 0, 0, 0, 0]).toArray 207)).heap.size = w.heap.size + 3 := by simp
 rw [show #[Value.int IntKind.u32 0, Value.int IntKind.u32 0, Value.int IntKind.u32 0, Value.int IntKind.u32 0, Value.int IntKind.u32 0, Value.int IntKind.u32 0, Value.int IntKind.u32 0, Value.int IntKind.u32 0] = (wds [0, 0, 0, 0, 0, 0, 0, 0]).toArray from rfl];generalize (((w.alloc (.cells (wds H).toArray 207)).alloc (.cells (u8s l).toArray 213)).alloc (.cells (wds [0, 0, 0, 0, 0, 0, 0, 0]).toArray 207)) = w1 at n r1 q r s0 ⊢;refine (AgK (w.heap.size + 1) _ l Hl.out w1 (by omega) r1).mono ?_;rintro e w2 ⟨gw, rfl, au, u, s⟩;replace n := n.below s (by omega);replace q := q.below s (by omega);replace r := r.trans (s.mono (by omega));have s2 := s.size;go_wp2_with fail
 refine (AfR w2).mono ?_;rintro e m ⟨gk, rfl, ar, af, o⟩;have aw := u.lt;replace n := n.below o (by omega);replace q := q.below o (by omega);replace u := u.below o (by omega);replace r := r.trans (o.mono (by omega));have s3 := o.size;have av := af.lt
 go_wp2_with (first
  | (refine wpList_load_row rfl 205 _ rfl w.heap.size rfl 207 (wds H).toArray (0, 0) _ n Tryz.underlying205 rfl (by rw [JE _ HH.out]; kernel_rfl) ?_)
  | (refine wpList_store_row rfl 205 _ _ rfl m.heap.size (wds H).toArray rfl rfl 205 _ (heap_alloc_new m _) (by rw [JE _ HH.out]; kernel_rfl) (by rw [JE _ HH.out]; rfl) (UI H) ?_
     rw [World.setRow_alloc_new]))
 have ag := Row.new m 205 (wds H).toArray;have b4 := (Below.refl m.heap.size m).alloc (Nat.le_refl _) (.cells (wds H).toArray 205);generalize m.alloc (.cells (wds H).toArray 205) = w4 at ag b4 ⊢;have ah := Lh (ES (Yz l) H HH.out);go_loopw [18] (fun i wr => ∃ k : Nat, i = .int .i64 (k : Int) ∧ k ≤ 64 ∧ Row wr m.heap.size 205 (wds (Xv (Yz l) H k)).toArray ∧ Below m.heap.size m wr) (fun i _ => (64 - intOf i).toNat)
 case atStart => exact ⟨0, by simp, by omega, ag, b4⟩
 case round =>
  clear ag b4;obtain ⟨k, rfl, hk, j, z⟩ := hrel;by_cases aj : k < 64
  · obtain ⟨a, b, c, d, e, f, g, i, aa⟩ := Akw (ah.out k);rw [aa] at j;have am := Lh aa;clear aa;have c0 := j.cellv (i := 0) (v := .int .u32 (wd a)) rfl;have c1 := j.cellv (i := 1) (v := .int .u32 (wd b)) rfl;have c2 := j.cellv (i := 2) (v := .int .u32 (wd c)) rfl;have c4 := j.cellv (i := 4) (v := .int .u32 (wd e)) rfl;have c5 := j.cellv (i := 5) (v := .int .u32 (wd f)) rfl;have c6 := j.cellv (i := 6) (v := .int .u32 (wd g)) rfl;have c7 := j.cellv (i := 7) (v := .int .u32 (wd i)) rfl;have ck := (af.below z (by omega)).cellv (Xg cubeL k (by show k < 64; omega));have cw := (u.below z (by omega)).cellv (Xg (Yz l) k (by rw [Yz, JG _ (KH _ _)]; omega));obtain ⟨xk, ad⟩ : ∃ x, x = cubeL.getD k 0 := ⟨_, rfl⟩;obtain ⟨xw, ae⟩ : ∃ x, x = (Yz l).getD k 0 := ⟨_, rfl⟩;rw [← ad] at ck;rw [← ae] at cw;have an := Lh ad;have ao := Lh ae;clear ad ae;go_wp2
    go_quiet (fail)
    go_wp2
    go_quiet ((go_at_call 231; exact EJ (Y2 _ _ (by omega) (by omega) _)))
    go_wp2
    go_quiet ((go_at_call 231; exact EJ (Y2 _ _ (by omega) (by omega) _)))
    go_wp2
    refine QE 2 (by kernel_rfl) (by kernel_rfl) ?_;simp only [Lw, L5, Lv, L1]
    repeat still_step
    refine wpStill_nil ?_;refine wpList_copy_own rfl _ _ 284 284 rfl 92 Tryz.underlying284 (by kernel_rfl) m.heap.size 1 7 7 ⟨m.heap.size, 0, none⟩ 7 8 rfl rfl (wds [a, b, c, d, e, f, g, i]).toArray 205 j (wds [a, b, c, d, e, f, g]) rfl ?_ (by simp [wds]) ?_ ?_
    · exact Row.from_ (cur := (wds [a, b, c, d, e, f, g, i]).toArray) j 0 (Ag3 a b c d e f g i)
    · exact fun v hv => (N0.1 (UI _)) v (by simpa using hv)
    generalize ac : World.setRow _ _ _ = w9;have t : Row w9 m.heap.size 205 (wds [a, a, b, c, d, e, f, g]).toArray := by rw [← ac]; exact Row.setRow (cs := (wds [a, b, c, d, e, f, g, i]).toArray) j _
    have ap : Below m.heap.size m w9 := by rw [← ac]; exact Ku (Below.drew (ZT (ZT (ZT z _) _) _)) (Nat.le_refl _) _
    clear ac c0 c1 c2 c4 c5 c6 c7 ck cw j z;have c4 := t.cellv (i := 4) (v := .int .u32 (wd d)) rfl;have c0 := t.cellv (i := 0) (v := .int .u32 (wd a)) rfl;have f4 := t.free 4;have f0 := t.free 0;go_wp2
    go_roundw
    case rel => exact ⟨k + 1, by go_num, by omega, by rw [← AeN _ _ _ _ _ _ _ _ _ _ _ _ _ am.out an.out ao.out]; exact (t.set _ _).set _ _, (ap.setCell (p := ⟨m.heap.size, 0, none⟩) (Nat.le_refl _) _).setCell (p := ⟨m.heap.size, 4, none⟩) (Nat.le_refl _) _⟩
    case measure => simp [intOf]; omega
  · obtain rfl : k = 64 := by omega
    clear aj;rw [show ((64 : Nat) : Int) = 64 from rfl];have n := n.below z (by omega);have q := q.below z (by omega);have r := r.trans (z.mono (by omega));have gv : w.heap.size + 2 < m.heap.size := by omega
    obtain ⟨V, hV⟩ : ∃ V, V = Xv (Yz l) H 64 := ⟨_, rfl⟩;have ai : V.length = 8 := by rw [hV]; exact ah.out 64
    rw [← hV] at j;have HV := Lh hV;have al := Lh ai;clear hV ai z u af o s;obtain ⟨G, hG⟩ : ∃ G, G = m.heap.size := ⟨_, rfl⟩;rw [← hG] at j gv ⊢;clear hG;go_wp2
    go_loopw [96] (fun i wr => ∃ k : Nat, i = .int .i64 (k : Int) ∧ k ≤ 8 ∧ Row wr w.heap.size 207 (wds (Xz H V k)).toArray ∧ Row wr G 205 (wds V).toArray ∧ Row wr (w.heap.size + 1 + 1) 207 (wds [0, 0, 0, 0, 0, 0, 0, 0]).toArray ∧ Below w.heap.size w wr) (fun i _ => (8 - intOf i).toNat)
    case atStart => exact ⟨0, by simp, by omega, n, j, q, r⟩
    case round =>
     clear j n q r;obtain ⟨k, rfl, hk, n, j, q, r⟩ := hrel;by_cases ab : k < 8
     · have c0 := n.cellv (Xg _ k (by rw [XB _ _ HH.out]; exact ab));have c1 := j.cellv (Xg _ k (by rw [al.out]; exact ab));have f0 := n.free k;have aq : (k : Int) < 8 := by omega
       go_wp2
       refine QE 10 (by kernel_rfl) (by kernel_rfl) ?_;simp only [Lw, L5, Lv, L1]
       repeat still_step
       refine wpStill_nil ?_;go_wp2
       go_roundw
       case rel => exact ⟨k + 1, by go_num, by omega, by rw [← AgQ]; exact n.drew.set _ _, (j.drew).far (by show G ≠ w.heap.size; omega) _, (q.drew).far (by show w.heap.size + 1 + 1 ≠ w.heap.size; omega) _, r.drew.setCell (p := ⟨w.heap.size, k, none⟩) (Nat.le_refl _) _⟩
       case measure => simp [intOf]; omega
     · obtain rfl : k = 8 := by omega
       clear ab;have ak : (wds (Xz H V 8)).toArray.size = 8 := JE _ (XB _ _ HH.out 8);have y := Lh ak;clear ak
       go_wp2_with (first
        | (refine wpList_load_row rfl 207 _ rfl w.heap.size rfl 207 (wds (Xz H V 8)).toArray (0, 0) _ n Tryz.underlying207 rfl (by rw [y.out]; kernel_rfl) ?_)
        | (refine wpList_store_row rfl 207 _ _ rfl (w.heap.size + 1 + 1) (wds (Xz H V 8)).toArray rfl rfl 207 _ q (by rw [y.out]; kernel_rfl) (by rw [y.out]; rfl) (UI _) ?_))
       exact bodyPost_ret (v := .agg (wds (Xz H V 8)).toArray) (results_cell_row Tryz.results153 _ _ (w.heap.size + 1 + 1) 207 _ (0, 0) _ rfl (q.setRow _) Tryz.underlying207 rfl (by rw [y.out]; kernel_rfl)) rfl ⟨by rw [YQ, ← HV.out], Ku r (by omega) _⟩
end Go.Proofs.YtdcmppdhdcjpfaaGreat
namespace Go.Proofs.YtdcmppdhdcjpfaaGreat
open Go.RowKit Go.Deep
def Aag (x : BitVec 32) : List UInt8 := [UInt8.ofNat (x >>> 24).toNat, UInt8.ofNat (x >>> 16).toNat, UInt8.ofNat (x >>> 8).toNat, UInt8.ofNat x.toNat]
def Xu (H : List (BitVec 32)) : List UInt8 := H.flatMap Aag
theorem AdZ (H : List (BitVec 32)) : (Xu H).length = 4 * H.length := by
 induction H with
 | nil => rfl
 | cons a l ih => simp only [Xu, LC, Lf, Ld] at ih ⊢; rw [ih]; simp [Aag]; omega
theorem Ack (H : List (BitVec 32)) (k : Nat) (h : k < H.length) : Xu (H.take (k + 1)) = Xu (H.take k) ++ Aag (H.getD k 0) := by
 rw [N1 h, Xu, L6];simp [Xu, List.getD, Lb h]
theorem Aiz (x : BitVec 32) : wd x % (256 : Int) = ((UInt8.ofNat x.toNat).toNat : Int) := by
 unfold wd; simp
theorem Af6 (w : World) : (isAgg 92).run Tryz.prog w = .ok false w := by
 unfold isAgg; simp [run_underlying Tryz.underlying92]
theorem AhT (H : List (BitVec 32)) (i : Nat) (hi : i < H.length) (w : World) : (part 92 (wds H).toArray i).run Tryz.prog w = .ok (.int .u32 (wd (H.getD i 0))) w := by
 unfold part;rw [Sem.run_bind, Af6];simp only [Result.andThen_ok, Bool.false_eq_true, if_false, Xg H i hi];rfl
theorem Aft (x : BitVec 32) : [Value.int .u8 (wd (x >>> 24) % (256 : Int)), .int .u8 (wd (x >>> 16) % (256 : Int)), .int .u8 (wd (x >>> 8) % (256 : Int)), .int .u8 (wd x % (256 : Int))] = u8s (Aag x) := by
 simp only [Aiz, u8s, Aag, LE, Nc]
attribute [local go_sem] Aii Aih AjA
theorem AfN (H : List (BitVec 32)) (hH : H.length = 8) (w : World) :
 Calls Tryz.prog 154 #[.agg (wds H).toArray] w fun e w' => e = .returned (.string ⟨(Xu H).toArray⟩) ∧ Below w.heap.size w w' := by
 have j := Lh hH;clear hH;obtain ⟨i0, p, s, t, u⟩ := info_parts VB;have r0 := Row.new w 207 (wds H).toArray;have y := (Below.refl w.heap.size w).alloc (Nat.le_refl _) (.cells (wds H).toArray 207);have s0 : w.heap.size + 1 ≤ (w.alloc (.cells (wds H).toArray 207)).heap.size := by simp
 go_enter Tryz.func154, Tryz.ntmps154
 go_wp2_with (first
  | (refine wpList_load_row rfl 205 _ rfl w.heap.size rfl 207 (wds H).toArray (0, 0) _ r0 Tryz.underlying205 rfl (by rw [JE _ j.out]; kernel_rfl) ?_))
 generalize w.alloc (.cells (wds H).toArray 207) = w1 at r0 y s0 ⊢;go_loopw [3, 8] (fun v i wr => ∃ k : Nat, i = .int .i64 (k : Int) ∧ k ≤ 8 ∧ wr.ownsRow (w.heap.size + 1) 5 1 v (4 * k) (u8s (Xu (H.take k))) ∧ Below w.heap.size w wr ∧ w.heap.size + 1 ≤ wr.heap.size) (fun _ i _ => (8 - intOf i).toNat)
 case atStart => exact ⟨0, by simp, by omega, World.ownsRow_nil _ _ _ _, y, s0⟩
 case round =>
  obtain ⟨k, rfl, hk, c, l, hs⟩ := hrel;by_cases g : k < 8
  · have h := Aaq (P := Tryz.prog) wr 205 92 8 (wds H).toArray .i64 k _ Tryz.underlying205 (AhT H k (by rw [j.out]; exact g) wr) (by kernel_rfl) g;obtain ⟨x, r⟩ : ∃ x, x = H.getD k 0 := ⟨_, rfl⟩;rw [← r] at h;have Hx := Lh r;clear r;have z : (k : Int) < 8 := by omega
    go_wp2_with (
     (at_builtin
      refine wpList_append_own _ rfl (.tmp 11) (.tmp 23) 277 rfl (w.heap.size + 1) 5 i0 (.int .u8 0) 1 1 Tryz.underlying277 p s t u rfl (by decide) _ _ _ rfl (c.alloc _) ⟨wr.heap.size, 0, none⟩ 4 4 [.int .u8 (wd (x >>> 24) % (256 : Int)), .int .u8 (wd (x >>> 16) % (256 : Int)), .int .u8 (wd (x >>> 8) % (256 : Int)), .int .u8 (wd x % (256 : Int))] rfl rfl (Z0 _ _ _) ?c2 (by unfold maxLen; omega) (by omega) (by simp; omega) ?_))
    case c2 => rw [Aft]; exact Vu _
    intro v' w2 d o _;have m := QV (l.alloc (by omega) _) (c.alloc _) o (by simp; omega) (by omega);have q := o.size;rw [World.size_alloc] at q;rw [Aft, Hx.out] at d;clear o h c l;go_wp2
    go_roundw
    case rel => exact ⟨k + 1, by go_num, by omega, by rw [Ack H k (by rw [j.out]; exact g), Y6]; exact d, m, by omega⟩
    case measure => simp [intOf]; omega
  · obtain rfl : k = 8 := by omega
    clear g;rw [show ((8 : Nat) : Int) = 8 from rfl];rw [LH (by rw [j.out]; omega)] at c;have n := J6 (P := Tryz.prog) 277 9 5 Tryz.underlying277 Tryz.underlying5 Tryz.underlying9 _ c;clear c;go_wp2
    go_ret
    exact ⟨rfl, l⟩
end Go.Proofs.YtdcmppdhdcjpfaaGreat
namespace Go.Proofs.YtdcmppdhdcjpfaaGreat
open Go.RowKit Go.Deep
attribute [local go_sem] Oper.semAt_some
abbrev Vh := { l : List UInt8 // l.length = 64 }
def Ae4 (l : List UInt8) (h : 64 ≤ l.length) : Vh := ⟨l.take 64, by simp; omega⟩
def Kf : Nat → List UInt8 → List Vh
 | 0, _ => []
 | n + 1, l => if h : 64 ≤ l.length then Ae4 l h :: Kf n (l.drop 64) else []
def AjQ (w : World) (b : Nat) : Nat := match w.cell? ⟨b, 0, none⟩ with | some (.string s) => s.size | _ => 0
theorem AaF : ∀ (n k : Nat) (l : List UInt8), k < n → 64 * (k + 1) ≤ l.length → ∃ c : Vh, (Kf n l)[k]? = some c ∧ c.1 = (l.drop (64 * k)).take 64
 | 0, k, l, h, _ => by omega
 | n + 1, 0, l, _, h => by
  rw [Kf, dif_pos (by omega)]
  exact ⟨_, rfl, by simp [Ae4]⟩
 | n + 1, k + 1, l, h, h2 => by
  rw [Kf, dif_pos (by omega)]
  obtain ⟨c, h3, h4⟩ := AaF n k (l.drop 64) (by omega) (by simp; omega)
  exact ⟨c, by simpa using h3, by rw [h4, Nn, Nat.mul_add, Nat.add_comm]⟩
theorem VU : ∀ (n : Nat) (l : List UInt8), 64 * n ≤ l.length → (Kf n l).length = n
 | 0, l, _ => rfl
 | n + 1, l, h => by
  rw [Kf, dif_pos (by omega), Ld, VU n (l.drop 64) (by simp; omega)]
theorem Acw (l : List UInt8) (k : Nat) (x : Vh) (hx : x.1 = (l.drop (64 * k)).take 64) (h : 64 * (k + 1) ≤ l.length) :
 (Kf (l.length / 64) l).take (k + 1) = (Kf (l.length / 64) l).take k ++ [x] := by
 obtain ⟨c, d, g⟩ := AaF (l.length / 64) k l (by omega) h;have e : k < (Kf (l.length / 64) l).length := (La.1 d).1;rw [N1 e];rw [Lb e] at d;have : c = x := Subtype.ext (g.trans hx.symm);rw [← this];injection d with d;rw [d]
theorem UM (w : World) (e : TypeId) (s : ByteArray) : w.grownBy (Lib.bytesWorld w e s) none :=
 ⟨rfl, rfl, rfl, by rw [Lib.bytesWorld_size]; omega, fun k hk _ => Lib.bytesWorld_at_old w e s k hk⟩
theorem Abi (bs : Nat) (s : List UInt8) (hs : s.length ≤ 2000000) (w : World) (hrow : Row w bs 9 #[.string ⟨s.toArray⟩]) :
 Acc Tryz.prog 228 #[.pointer (some ⟨bs, 0, none⟩)] (fun x : Vh => #[.agg (u8s x.1).toArray]) (· = bs) (fun A B => B.heap[bs]? = A.heap[bs]? ∧ A.heap.size ≤ B.heap.size) (fun xs => xs = Kf (s.length / 64) s) (fun _ => True) (s.length / 64) w := by
 intro l J Jx W _ ae hJ aq hY h0;refine callsIn_of_wp Tryz.func228 rfl trivial ?_ rfl;simp only [Tryz.ntmps228, Lj, Ld, Lp, Nat.reduceAdd, Nat.reduceSub, Ll, Lm, Lr, L2, Lo, Lk];gi_wp2;have ak : Row W bs 9 #[.string ⟨s.toArray⟩] := (ae.block bs hrow.lt (by simp)).trans hrow;clear hrow ae;gi_loopw [3] (fun _ wr => ∃ (k : Nat) (q : ByteArray), q.data.toList = s.drop (64 * k) ∧ 64 * k ≤ s.length ∧ Row wr bs 9 #[.string q] ∧ J ((Kf (s.length / 64) s).take k) wr) (fun _ wr => AjQ wr bs)
 case atStart => exact ⟨0, ⟨s.toArray⟩, by simp, by omega, ak, by simpa using h0⟩
 case round =>
  obtain ⟨k, q, hq, hk, hr, t⟩ := hrel
  have ab : q.size + 64 * k = s.length := by
   have := congrArg List.length hq;simp at this; omega
  have Hq := Lh hq;have g := Lh ab;clear hq ab;have hc := hr.cellv (i := 0) (v := .string q) rfl;have hf := hr.free 0;by_cases ap : 64 ≤ q.size
  · have c := fun w => Lib.run_convert_string_bytes (P := Tryz.prog) w 9 277 5 (q.extract 0 64) Tryz.underlying9 Tryz.underlying277 Tryz.underlying5
    have y : (q.extract 0 64).size = 64 := by simp; omega
    simp only [y] at c;have ai := Lh y;have p := fun w => run_arrayAt (P := Tryz.prog) w 213 5 64 (some ⟨wr.heap.size, 0, none⟩) 64 (grownCap wr 64 0 5) Tryz.underlying213 (Nat.le_refl _)
    clear y;obtain ⟨x, hx⟩ : ∃ x : Vh, x.1 = (q.extract 0 64).data.toList := ⟨⟨(q.extract 0 64).data.toList, by have := ai.out; simpa using this⟩, rfl⟩
    have d : ∀ j v, (u8s x.1)[j]? = some v → (Lib.bytesWorld wr 5 (q.extract 0 64)).cell? ⟨wr.heap.size, j, none⟩ = some v := by
     intro j v hv;rw [X8, hx] at hv
     have t : j < (q.extract 0 64).size := by
      rcases Nat.lt_or_ge j (q.extract 0 64).data.toList.length with h | h
      · simpa using h
      · rw [Nj h] at hv; cases hv
     rw [Lib.bytesWorld_cell _ _ _ j t, ← hv, List.getD, Lb (by simpa using t)];rfl
    have m := Lh d;have Hx := Lh hx;have n : wr.grownBy (Lib.bytesWorld wr 5 (q.extract 0 64)) none := UM _ _ _;have u := hJ _ _ _ none t n (fun r e => by cases e);have ac : Row (Lib.bytesWorld wr 5 (q.extract 0 64)) bs 9 #[.string q] := (n.block bs hr.lt (by simp)).trans hr;have aw : k < s.length / 64 := by have := g.out; omega
    obtain ⟨fn, ao, af, an, hy, hR⟩ := hY _ x _ u (by rw [L4]; omega);have am := Lh n;have HR := Lh hR;have ah := Lh ac;clear d hx n t ac hr hR;gi_wp2_with (refine Y9 rfl 213 _ rfl wr.heap.size rfl (u8s x.1) _ m.out Tryz.underlying213 rfl (by rw [Y7, x.2]; kernel_rfl) ?_);refine ⟨rfl, HR.out.mono ?_⟩;rintro e W' (⟨rfl, z, aa, ax⟩ | ⟨rfl, aj⟩)
    · have o : Row W' bs 9 #[.string q] := aa.trans ah.out;have ar := o.cellv (i := 0) (v := .string q) rfl;have au := o.free 0;have ag := Lh z;clear z aa u hy hf c p;gi_wp2;go_roundw
      case rel =>
       refine ⟨k + 1, q.extract 64 q.size, ?_, by have := g.out; omega, o.set _ _, ?_⟩
       · have := Hq.out;simp only [ByteArray.data_extract, Array.toList_extract, List.extract_eq_take_drop, this, Nn];rw [LH (by simp; have := g.out; omega), Nat.mul_add]
       · refine hJ _ _ _ (some bs) ?_ (grownBy_setCell' _ _ _) (fun r e => by cases e; exact .inl rfl);rw [Acw s k x (by rw [Hx.out]; simp [Hq.out]) (by have := g.out; omega)];exact ag.out
      case measure =>
       have al := o.set 0 (.string (q.extract 64 q.size));have ad := al.cell 0;unfold AjQ;rw [ad, hc];simp; omega
    · clear u hy c p;gi_wp2;refine bodyPost_ret (results_none rfl _ _ _) rfl ?_;exact ⟨⟨_, rfl⟩, .inr ⟨_, trivial, aj⟩⟩
  · gi_wp2;go_end0
    refine ⟨⟨_, rfl⟩, .inl ⟨_, rfl, ?_⟩⟩;have av : k = s.length / 64 := by have := g.out; omega
    rw [LH (by rw [VU _ _ (by omega)]; omega)] at t;exact t
end Go.Proofs.YtdcmppdhdcjpfaaGreat
namespace Go.Proofs.YtdcmppdhdcjpfaaGreat
open Go.RowKit Go.Deep
def Adn (R L k i : Nat) : UInt8 := if i = 0 then 128 else if i + k < L then 0 else UInt8.ofNat (R / 256 ^ (L - 1 - i))
def EH (R L k : Nat) : List UInt8 := (List.range L).map (Adn R L k)
def AbJ (R L k : Nat) : Array Value := (u8s (EH R L k)).toArray
theorem VH (R L k i : Nat) : (AbJ R L k)[i]? = if i < L then some (.int .u8 ((Adn R L k i).toNat : Int)) else none := by
 unfold AbJ EH;simp only [N7, X8, L8];by_cases h : i < L <;> simp [h]
theorem Agp (R L k : Nat) : (AbJ R L k).size = L := by simp [AbJ, EH, u8s]
theorem Agq (R L k : Nat) (hk : k + 1 < L) : (AbJ R L k).setIfInBounds (L - 1 - k) (.int .u8 ((UInt8.ofNat (R / 256 ^ k)).toNat : Int)) = AbJ R L (k + 1) := by
 apply Array.ext_getElem?;intro i;rw [N6, VH, VH, Agp];by_cases hi : L - 1 - k = i
 · subst hi;rw [if_pos rfl, if_pos (by omega), if_pos (by omega)];unfold Adn;rw [if_neg (by omega), if_neg (by omega), show L - 1 - (L - 1 - k) = k from by omega]
 · rw [if_neg hi];by_cases c : i < L
   · rw [if_pos c, if_pos c];congr 4;unfold Adn;by_cases d : i = 0
     · simp [d]
     · rw [if_neg d, if_neg d];by_cases e : i + (k + 1) < L
       · rw [if_pos e, if_pos (by omega)]
       · rw [if_neg e, if_neg (by omega)]
   · rw [if_neg c, if_neg c]
theorem AeG (R L : Nat) (cs : Array Value) (hs : cs.size = L) (h : ∀ i, i < L → cs[i]? = some (.int .u8 0)) : cs.setIfInBounds 0 (.int .u8 128) = AbJ R L 0 := by
 apply Array.ext_getElem?;intro i;rw [N6, VH, hs];by_cases hi : 0 = i
 · subst hi;rw [if_pos rfl];by_cases c : 0 < L <;> simp [c, Adn]
 · rw [if_neg hi];by_cases c : i < L
   · rw [if_pos c, h i c];unfold Adn;rw [if_neg (by omega), if_pos (by omega)]; rfl
   · rw [if_neg c, Array.getElem?_eq_none (by omega)]
theorem Ai3 (z : Value) (n i : Nat) (h : i < n) : (madeCells #[z] n)[i]? = some z := by
 unfold madeCells;simp [h, Nat.mod_one]
theorem Ake (q : Nat) : ((q : Int) % 256) = ((UInt8.ofNat q).toNat : Int) := by simp
theorem Ahs (L k : Nat) : (L : Int) - 1 - (k : Int) - 1 = (L : Int) - 1 - ((k + 1 : Nat) : Int) := by omega
theorem Ahd (R k : Nat) : ((R / 256 ^ k : Nat) : Int) / 256 = ((R / 256 ^ (k + 1) : Nat) : Int) := by
 rw [Nat.pow_succ, ← Nat.div_div_eq_div_mul]; omega
def AeH (n : Nat) : Nat := 72 - (n + 8) % 64
def Up (n : Nat) : List UInt8 := EH (n * 8 % 18446744073709551616) (AeH n) 8
theorem Agr (R L k : Nat) (hk : k ≤ 8) (h : R / 256 ^ k = 0) : EH R L k = EH R L 8 := by
 unfold EH;apply List.map_congr_left;intro i hi;unfold Adn;by_cases c : i = 0
 · simp [c]
 · rw [if_neg c, if_neg c];by_cases d : i + 8 < L
   · rw [if_pos (by omega), if_pos d]
   · rw [if_neg d];by_cases e : i + k < L
     · rw [if_pos e]
       have : R / 256 ^ (L - 1 - i) = 0 := by
        have g : 256 ^ k ≤ 256 ^ (L - 1 - i) := Nat.pow_le_pow_right (by omega) (by omega);rw [Nat.div_eq_zero_iff] at h ⊢;rcases h with h | h
        · exact absurd h (Nat.pos_iff_ne_zero.1 (Nat.pow_pos (by omega)))
        · exact .inr (by omega)
       rw [this]; rfl
     · rw [if_neg e]
theorem Ajf (n : Int) (h0 : 0 ≤ n) (h1 : n ≤ 9223372036854775807) (w : World) :
 Calls Tryz.prog 152 #[.int .i64 n] w fun e w' => e = .returned (.string ⟨(Up n.toNat).toArray⟩) ∧ Below w.heap.size w w' := by
 obtain ⟨L, hL, af, ad⟩ : ∃ L : Nat, 72 - (n + 8) % 64 = (L : Int) ∧ 9 ≤ L ∧ L ≤ 72 := ⟨(72 - (n + 8) % 64).toNat, by omega, by omega, by omega⟩;obtain ⟨u, o⟩ : ∃ u, u = madeCells #[Value.int .u8 0] L := ⟨_, rfl⟩;have ac := run_make_row' (P := Tryz.prog) 277 5 (.int .u8 0) 1 Tryz.underlying277 VB rfl .i64 .i64 L (by omega) (by omega);have l : ∀ i, i < L → u[i]? = some (.int .u8 0) := fun i hi => by rw [o]; exact Ai3 _ _ _ hi
 have s := size_madeCells #[Value.int .u8 0] L;rw [← o] at ac s;have ae : u[0]? = some (.int .u8 0) := l 0 (by omega)
 obtain ⟨R, hR, g⟩ : ∃ R : Nat, IntKind.u64.wrap (n * 8) = (R : Int) ∧ R < 18446744073709551616 := by
  rw [IntKind.wrap_u64]; exact ⟨((n * 8) % 18446744073709551616).toNat, by omega, by omega⟩
 have t := Lh g;have aa := Lh l;have ab := Lh s
 have d : Hid (EH R L 8 = Up n.toNat) := by
  unfold Up;rw [show AeH n.toNat = L from by unfold AeH; omega, show n.toNat * 8 % 18446744073709551616 = R from by rw [IntKind.wrap_u64] at hR; omega]; rfl
 clear o l s g;go_enter Tryz.func152, Tryz.ntmps152
 go_wp2
 go_loopw [4, 5] (fun i r wr => ∃ k : Nat, i = .int .i64 ((L : Int) - 1 - (k : Int)) ∧ r = .int .u64 ((R / 256 ^ k : Nat) : Int) ∧ k ≤ 8 ∧ Row wr w.heap.size 5 (AbJ R L k) ∧ Below w.heap.size w wr) (fun _ r _ => (intOf r).toNat)
 case atStart => exact ⟨0, by simp, by simp, by omega, by rw [← AeG R L u ab.out aa.out]; exact Row.new _ _ _, (Below.refl _ _).alloc (Nat.le_refl _) _⟩
 case round =>
  obtain ⟨k, rfl, rfl, hk, c, hb⟩ := hrel;by_cases y : R / 256 ^ k = 0
  · have m := Xo (P := Tryz.prog) 277 9 5 5 Tryz.underlying277 Tryz.underlying5 Tryz.underlying9 (cap := L) c (EH R L k) (n := L) (by simp [EH]) (fun j hj => by simp [AbJ]);rw [Agr R L k hk y, d.out] at m;have z : ((R / 256 ^ k : Nat) : Int) = 0 := by omega
    rw [z];clear y z d;go_wp2
    go_ret
    exact ⟨rfl, hb⟩
  · have ag : k < 8 := by
     rcases Nat.lt_or_ge k 8 with h | h
     · exact h
     · obtain rfl : k = 8 := by omega
       exact absurd (Nat.div_eq_of_lt t.out) y
    have x : 0 < R / 256 ^ k := Nat.pos_of_ne_zero y;obtain ⟨q, hq⟩ : ∃ q, q = R / 256 ^ k := ⟨_, rfl⟩;rw [← hq] at y x ⊢;have Hq := Lh hq;clear hq;have hc := c.cellv (i := L - 1 - k) (v := .int .u8 ((Adn R L k (L - 1 - k)).toNat : Int)) (by rw [VH, if_pos (by omega)]);have hf := c.free (L - 1 - k);go_wp2
    go_roundw
    case rel => exact ⟨k + 1, by rw [Ahs], by rw [← Ahd, Hq.out], by omega, by rw [← Agq R L k (by omega), Ake, Hq.out]; exact c.set _ _, hb.setCell (p := ⟨w.heap.size, L - 1 - k, none⟩) (Nat.le_refl _) _⟩
    case measure => simp [intOf]; omega
attribute [local go_sem] Oper.semAt_some
theorem Aas (s : ByteArray) (w : World) :
 Calls Tryz.prog 151 #[.string s] w fun e w' => e = .returned (.func (.func 228) #[] #[.pointer (some ⟨w.heap.size, 0, none⟩)]) ∧ w.alloc (.cells #[.string s] 9) = w' := by
 go_enter Tryz.func151, Tryz.ntmps151
 go_wp2
 go_ret
 exact ⟨rfl, rfl⟩
def KI (H : List (BitVec 32)) (l : List Vh) : List (BitVec 32) := l.foldl (fun H c => YQ H c.1) H
def Ah6 (s : List UInt8) : List UInt8 := Xu (KI KN (Kf ((s ++ Up s.length).length / 64) (s ++ Up s.length)))
theorem KP : ∀ (l : List Vh) (H : List (BitVec 32)), H.length = 8 → (KI H l).length = 8
 | [], _, h => h
 | _ :: l, _, h => KP l _ (XB _ _ h 8)
theorem AhQ (n : Nat) : (Up n).length = AeH n := by simp [Up, EH]
theorem Aje (n : Nat) : 9 ≤ AeH n ∧ AeH n ≤ 72 := by unfold AeH; omega
theorem Ajt (s : ByteArray) (hs : s.size ≤ 1000000) (w : World) :
 Calls Tryz.prog 78 #[.string s] w fun e w' => e = .returned (.string ⟨(Ah6 s.data.toList).toArray⟩) ∧ Below w.heap.size w w' := by
 refine (callsIn_wide (n := 0)).1 ?_;refine callsIn_of_wp_marks Tryz.func78 rfl trivial ?_;simp only [Tryz.ntmps78, Lj, Ld, Lp, Nat.reduceAdd, Nat.reduceSub, Ll, Lm, Lr, L2, Lo, Lk];gi_wp2_with fail
 refine ⟨trivial, rfl, (callsIn_wide.2 (AgC w)).mono ?_⟩;rintro e w1 ⟨rfl, b1⟩;gi_wp2_with (refine QZ rfl 207 _ _ rfl w1.heap.size (wds KN).toArray rfl rfl 207 _ (heap_alloc_new w1 _) (by kernel_rfl) rfl (UI _) ?_; rw [World.setRow_alloc_new]);have rh := Row.new w1 207 (wds KN).toArray;have b2 := b1.alloc b1.size (.cells (wds KN).toArray 207);have g1 := b1.size;obtain ⟨G, hG⟩ : ∃ G, G = w1.heap.size := ⟨_, rfl⟩;rw [← hG] at rh g1 ⊢;clear hG;have lh := rh.lt;generalize w1.alloc (.cells (wds KN).toArray 207) = w2 at rh b2 lh ⊢;clear b1;refine ⟨trivial, rfl, (callsIn_wide.2 (Ajf (s.size : Int) (by omega) (by omega) w2)).mono ?_⟩;rw [Li];rintro e w3 ⟨rfl, b3⟩;have ad := rh.below b3 lh;have aa := b2.trans (b3.mono b2.size);have l3 := b3.size;clear b3 b2 rh;have an : (Up s.size).length ≤ 72 := by rw [AhQ]; exact (Aje _).2
 gi_wp2_with fail
 have hq : (s ++ (⟨(Up s.size).toArray⟩ : ByteArray)).data.toList = s.data.toList ++ Up s.data.toList.length := by simp
 have ao : (s ++ (⟨(Up s.size).toArray⟩ : ByteArray)).size ≤ 1000072 := by rw [ByteArray.size_append, UE (Up s.size)]; omega
 generalize (s ++ (⟨(Up s.size).toArray⟩ : ByteArray)) = q at hq ao ⊢;have Hq := Lh hq;clear hq an;refine ⟨trivial, rfl, (callsIn_wide.2 (Aas q w3)).mono ?_⟩;rintro e w4 ⟨rfl, ak⟩;have rb := Row.new w3 9 #[.string q];have al := ad.alloc (.cells #[.string q] 9);have b4 := aa.alloc aa.size (.cells #[.string q] 9);have g4 : G < w3.heap.size := ad.lt;have ag : (w3.alloc (.cells #[.string q] 9)).heap.size = w3.heap.size + 1 := by simp
 rw [ak] at rb al b4 ag;obtain ⟨v, ah⟩ : ∃ v, v = w3.heap.size := ⟨_, rfl⟩;rw [← ah] at rb g4 ag ⊢;clear ah ak ad aa l3 lh;have gB : w.heap.size ≤ v := by omega
 have aj : q.data.toList.length ≤ 2000000 := by simp; omega
 have af := Lh (Abi v q.data.toList aj w4 rb);gi_wp2
 refine AbM (gf := 228) (lb := #[.pointer (some ⟨v, 0, none⟩)]) rfl (enters_of Tryz.func228 (by kernel_rfl) rfl) af.out (fun r h => by subst h; omega)
  (fun h k => ⟨k.1.trans h.1, Le h.2 k.2⟩) (fun W l o o' hl ho hc => ⟨by rw [World.putObj_heap_other (by omega)], by simp⟩) (World.grownBy.refl _ _) (fun _ => rfl)
  (fun i W => Row W G 207 (wds (KI KN i)).toArray ∧ Below w.heap.size w W ∧ v < W.heap.size) (fun _ _ _ => False) ?hI ?hIx ⟨al, b4, by omega⟩
  (fun x a' W => ∃ y, v < y ∧ Row W y 213 (u8s x.1).toArray ∧ a' = { tmps := #[.string s, undef, .string ⟨#[]⟩, .pointer (some ⟨G, 0, none⟩), .pointer (some ⟨y, 0, none⟩), undef, .agg (wds KN).toArray, .string s, .string s, .int .i64 s.size, .string ⟨(Up s.size).toArray⟩, .string q, .func (.func 228) #[] #[.pointer (some ⟨v, 0, none⟩)], .agg (u8s x.1).toArray, undef, undef, undef, undef, undef, undef, undef], defers := [] }) ?hAx ?assign ?body ?done ?stop
 case hI =>
  intro i A B row hs hg g;refine ⟨(hg.block G hs.1.lt (fun e => ?_)).trans hs.1, hs.2.1.grown hg hs.2.1.size (fun k hk => ?_), Lc hs.2.2 hg.size⟩
  · rcases g _ e.symm with h | ⟨h, _⟩ <;> omega
  · rcases g _ hk with h | ⟨h, _⟩ <;> omega
 case hIx => exact fun _ _ _ _ _ h _ _ => h
 case hAx =>
  rintro x a' _ A B row ⟨y, h1, h2, h3⟩ hg g;refine ⟨y, h1, (hg.block y h2.lt (fun e => ?_)).trans h2, h3⟩;rcases g _ e.symm with h | ⟨_, o, ho, hc⟩
  · omega
  · rw [h2] at ho; cases ho; cases hc
 case assign =>
  rintro l i x W K ⟨g, t, u⟩ hK;have hx : (u8s x.1).toArray.size = 64 := AdE _ x.2;have Hx := Lh hx;clear hx;have HK := Lh hK;clear hK;gi_wp2_with (refine QZ rfl 213 _ _ rfl W.heap.size (u8s x.1).toArray rfl rfl 213 _ (heap_alloc_new W _) (by rw [Hx.out]; kernel_rfl) (by rw [Hx.out]; rfl) (Ajx _) ?_; rw [World.setRow_alloc_new]);exact HK.out _ _ (KeepsFrom.alloc _ _ _) ⟨Below.heap_alloc _ _ _ u, by simp⟩ ⟨g.alloc _, t.alloc t.size _, by simp; omega⟩ ⟨_, u, Row.new _ _ _, rfl⟩
 case body =>
  rintro l i x a' W hl _ ⟨g, t, u⟩ ⟨y, aq, ap, rfl⟩ _;have hx : (u8s x.1).toArray.size = 64 := AdE _ x.2;obtain ⟨H, p⟩ : ∃ H, H = KI KN i := ⟨_, rfl⟩;have m : H.length = 8 := by rw [p]; exact KP _ _ rfl
  rw [← p] at g;have Hx := Lh hx;have HH := Lh p;have d := Lh m;clear hx p m
  gi_wp2_with (first
   | (refine Q4 rfl 207 _ rfl G rfl 207 (wds H).toArray (0, 0) _ g Tryz.underlying207 rfl (by rw [JE _ d.out]; kernel_rfl) ?_)
   | (refine Q4 rfl 213 _ rfl y rfl 213 (u8s x.1).toArray (0, 0) _ ap Tryz.underlying213 rfl (by rw [Hx.out]; kernel_rfl) ?_))
  refine ⟨trivial, rfl, (CallsIn.inRound l (callsIn_wide.2 (AfM H d.out x.1 x.2 W))).mono ?_⟩;rintro e W2 ⟨rfl, j⟩;have ac := g.below j g.lt;have hn : (YQ H x.1).length = 8 := XB _ _ d.out 8;have Hn := Lh hn;clear hn;gi_wp2_with (refine QZ rfl 207 _ _ rfl G (wds (YQ H x.1)).toArray rfl rfl 207 _ ac (by rw [JE _ Hn.out]; kernel_rfl) (by rw [JE _ Hn.out, JE _ d.out]) (UI _) ?_);refine ⟨(KeepsFrom.of_below j).trans (KeepsFrom.setRow ac _), ⟨(AbV _ _ _ _ (by omega)).trans (j.block _ u), Le j.size (by simp [World.setRow])⟩, ?_, ?_, ?_⟩
  · have := ac.setRow (wds (YQ H x.1)).toArray;have e : YQ H x.1 = KI KN (i ++ [x]) := by rw [HH.out, KI, KI, List.foldl_append]; rfl
    rw [e] at this;rw [e]; exact this
  · exact Ku (t.trans (j.mono t.size)) g1 _
  · have := j.size; simp [World.setRow]; omega
 case stop => exact fun D c i W _ _ h _ => h.elim
 case done =>
  rintro D ys W hD rfl ⟨g, t, _⟩ hK;obtain ⟨H, p⟩ : ∃ H, H = KI KN (Kf (q.data.toList.length / 64) q.data.toList) := ⟨_, rfl⟩;have m : H.length = 8 := by rw [p]; exact KP _ _ rfl
  have z : Xu H = Ah6 s.data.toList := by rw [p, Hq.out]; rfl
  rw [← p] at g;have d := Lh m;have ae := Lh z;have HK := Lh hK;clear p m z hK;gi_wp2_with (refine Q4 rfl 207 _ rfl G rfl 207 (wds H).toArray (0, 0) _ g Tryz.underlying207 rfl (by rw [JE _ d.out]; kernel_rfl) ?_);refine ⟨trivial, rfl, (callsIn_wide.2 (AfN H d.out W)).mono ?_⟩;rintro e W5 ⟨rfl, ab⟩;have ai : W5.heap[D]? = some (.deferred (some [])) := (ab.block D (Ln.1 HK.out).1).trans HK.out;rw [ae.out];have am := Lh ai;clear ai HK g;gi_wp2;refine ⟨by simp, .inl ⟨_, _, rfl, run_takeDeferred am.out, ?_⟩⟩;exact ⟨_, results_tmp rfl _ _ _, rfl, (t.trans (ab.mono t.size)).grown (grownBy_putObj' _ _ _) (Le t.size ab.size) (fun k e => by cases e; omega)⟩
end Go.Proofs.YtdcmppdhdcjpfaaGreat
namespace Go.Proofs.YtdcmppdhdcjpfaaGreat
open Go.RowKit Go.Deep
def part (l : List UInt8) (n j : Nat) : List UInt8 := l.take j ++ List.replicate (n - j) 0
def AcB (r : RunV) : List UInt8 := Ah6 (Y3 r.kind r.value r.evs)
theorem Ab0 (r : RunV) (w : World) (hok : r.ok w) (hl : r.evs.length ≤ 10000) :
 Calls Tryz.prog 33 #[r.val] w fun e w' => e = .returned (.string ⟨(AcB r).toArray⟩) ∧ Below w.heap.size w w' := by
 have c := Lh hok;have j := Lh hl;clear hok hl;go_enter Tryz.func33, Tryz.ntmps33
 rw [show r.val = .agg r.cells from rfl];go_wp2_with (refine Qn _ _ rfl ?_)
 refine Stop.to ?_;refine Qe rfl 40 _ rfl r.cells rfl ?_;intro G k m n h;have h := (Below.refl w.heap.size w).trans (h.mono m);have d : r.ok k := ⟨c.out.kind, c.out.value, c.out.steps, c.out.len, c.out.cap, c.out.nil, c.out.reads.go h, c.out.evs⟩;have g := Lh d;clear d;go_wp2_with (refine wpList_load_row rfl 40 _ rfl G rfl 40 r.cells (0, 0) _ n Tryz.underlying40 rfl (by kernel_rfl) ?_)
 refine (Adz r k g.out (by have := j.out; omega)).mono ?_;rintro e o ⟨rfl, i⟩;have i := h.trans (i.mono h.size);go_wp2_with fail
 refine (Ajt ⟨(Y3 r.kind r.value r.evs).toArray⟩ (by rw [UE]; have := AeQ r.kind r.value r.evs; have := j.out; omega) o).mono ?_;rintro e p ⟨rfl, l⟩;go_wp2_with fail
 go_ret
 exact ⟨rfl, i.trans (l.mono i.size)⟩
theorem Ah7 (l : List UInt8) : (Ah6 l).length = 32 := by
 rw [Ah6, AdZ, KP _ _ rfl]
theorem AcC (r : RunV) : (AcB r).length = 32 := Ah7 _
theorem RunV.ok.ok_go {r : RunV} {w w' : World} (h : r.ok w) (b : Below w.heap.size w w') : r.ok w' :=
 ⟨h.kind, h.value, h.steps, h.len, h.cap, h.nil, h.reads.go b, h.evs⟩
instance St.runok {r : RunV} : St (fun W => r.ok W) := ⟨fun h b => h.ok_go b⟩
end Go.Proofs.YtdcmppdhdcjpfaaGreat
