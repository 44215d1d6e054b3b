/- Lemmas for VerdictWitnessP. -/
import Derived.Test.YtdcmppdhdcjpfaaGreatZw29
import Derived.Test.YtdcmppdhdcjpfaaGreatZw28
import Derived.Test.YtdcmppdhdcjpfaaGreatZw1
import Derived.Test.YtdcmppdhdcjpfaaGreatRows
import Derived.Laws.CopyOwn
import Derived.Lib.ConvBytes
import Derived.Laws.Cover3
set_option linter.unusedVariables false
set_option linter.unusedSimpArgs false
set_option maxRecDepth 100000
set_option maxHeartbeats 16000000
namespace Go.Proofs.YtdcmppdhdcjpfaaGreat
open Go.RowKit Go.Deep
def Aj7 (e f g h k x : BitVec 32) : BitVec 32 := h + (e.rotateRight 6 ^^^ e.rotateRight 11 ^^^ e.rotateRight 25) + (g ^^^ e &&& (f ^^^ g)) + k + x
def AkI (a b c : BitVec 32) : BitVec 32 := (a.rotateRight 2 ^^^ a.rotateRight 13 ^^^ a.rotateRight 22) + (a &&& b ^^^ a &&& c ^^^ b &&& c)
def AbG (W : List (BitVec 32)) (t : Nat) : List (BitVec 32) → List (BitVec 32)
 | [a, b, c, d, e, f, g, h] =>
  let t1 := Aj7 e f g h (cubeL.getD t 0) (W.getD t 0)
  [t1 + AkI a b c, a, b, c, d + t1, e, f, g]
 | l => l
def Xl (W H : List (BitVec 32)) : Nat → List (BitVec 32)
 | 0 => H
 | t + 1 => AbG W t (Xl W H t)
theorem EI (W H : List (BitVec 32)) (h : H.length = 8) : ∀ t, (Xl W H t).length = 8
 | 0 => h
 | t + 1 => by
  have ih := EI W H h t
  unfold Xl
  match h' : Xl W H t, ih with
  | [a, b, c, d, e, f, g, h], _ => simp [AbG]
theorem Akt {α : Type} {l : List α} (h : l.length = 8) : ∃ a b c d e f g i, l = [a, b, c, d, e, f, g, i] := by
 match l, h with
 | [a, b, c, d, e, f, g, i], _ => exact ⟨a, b, c, d, e, f, g, i, rfl⟩
def Xo (H V : List (BitVec 32)) : Nat → List (BitVec 32)
 | 0 => H
 | j + 1 => (Xo H V j).set j ((Xo H V j).getD j 0 + V.getD j 0)
theorem Xp (H V : List (BitVec 32)) (h : H.length = 8) : ∀ j, (Xo H V j).length = 8
 | 0 => h
 | j + 1 => by simp [Xo, Xp H V h j]
def YG (H : List (BitVec 32)) (l : List UInt8) : List (BitVec 32) := Xo H (Xl (Yo l) H 64) 8
theorem AgT (a b c d e f g i : BitVec 32) : ∀ j v, (wds [a, b, c, d, e, f, g])[j]? = some v → (wds [a, b, c, d, e, f, g, i]).toArray[0 + j]? = some v := by
 intro j v h
 match j, h with
 | 0, h | 1, h | 2, h | 3, h | 4, h | 5, h | 6, h => exact h
theorem AeC (W H : List (BitVec 32)) (k : Nat) (a b c d e f g i xk xw : BitVec 32) (h : Xl W H k = [a, b, c, d, e, f, g, i]) (hk : xk = cubeL.getD k 0) (hw : xw = W.getD k 0) :
 ((wds [a, a, b, c, d, e, f, g]).toArray.setIfInBounds 0 (.int .u32 (wd (Aj7 e f g i xk xw + AkI a b c)))).setIfInBounds 4 (.int .u32 (wd (d + Aj7 e f g i xk xw))) = (wds (Xl W H (k + 1))).toArray := by
 rw [UA, UA, Xl, h, AbG, hk, hw]; rfl
theorem AgG (H V : List (BitVec 32)) (j : Nat) : (wds (Xo H V j)).toArray.setIfInBounds j (.int .u32 (wd ((Xo H V j).getD j 0 + V.getD j 0))) = (wds (Xo H V (j + 1))).toArray := UA _ _ _
attribute [local go_sem] Afu AeI AeH AbU AbV AbW Vz Yn
theorem AfB (H : List (BitVec 32)) (hH : H.length = 8) (l : List UInt8) (hl : l.length = 64) (w : World) :
 Calls Tryz.prog 153 #[.agg (wds H).toArray, .agg (u8s l).toArray] w fun e w' => e = .returned (.agg (wds (YG H l)).toArray) ∧ Below w.heap.size w w' := by
 have Hl := Lh hl;have HH := Lh hH;clear hl hH;go_enter Tryz.func153, Tryz.ntmps153
 go_wp2_with fail
 have n : Row (((w.alloc (.cells (wds H).toArray 207)).alloc (.cells (u8s l).toArray 213)).alloc (.cells (wds [0, 0, 0, 0, 0, 0, 0, 0]).toArray 207)) w.heap.size 207 (wds H).toArray := ((Row.new _ _ _).alloc _).alloc _
 have r1 : Row (((w.alloc (.cells (wds H).toArray 207)).alloc (.cells (u8s l).toArray 213)).alloc (.cells (wds [0, 0, 0, 0, 0, 0, 0, 0]).toArray 207)) (w.heap.size + 1) 213 (u8s l).toArray := by
  have h := (Row.new (w.alloc (.cells (wds H).toArray 207)) 213 (u8s l).toArray).alloc (.cells (wds [0, 0, 0, 0, 0, 0, 0, 0]).toArray 207);rwa [World.size_alloc] at h
 have q : Row (((w.alloc (.cells (wds H).toArray 207)).alloc (.cells (u8s l).toArray 213)).alloc (.cells (wds [0, 0, 0, 0, 0, 0, 0, 0]).toArray 207)) (w.heap.size + 1 + 1) 207 (wds [0, 0, 0, 0, 0, 0, 0, 0]).toArray := by
  have h := Row.new ((w.alloc (.cells (wds H).toArray 207)).alloc (.cells (u8s l).toArray 213)) 207 (wds [0, 0, 0, 0, 0, 0, 0, 0]).toArray;rwa [World.size_alloc, World.size_alloc] at h
 have r : Below w.heap.size w (((w.alloc (.cells (wds H).toArray 207)).alloc (.cells (u8s l).toArray 213)).alloc (.cells (wds [0, 0, 0, 0, 0, 0, 0, 0]).toArray 207)) :=
  (((Below.refl _ _).alloc (Nat.le_refl _) _).alloc (by simp) _).alloc (by simp; omega) _
 have s0 : (((w.alloc (.cells (wds H).toArray 207)).alloc (.cells (u8s l).toArray 213)).alloc (.cells (wds [0, 0, 0, 0, 0, 0, 0, 0]).toArray 207)).heap.size = w.heap.size + 3 := by simp
 rw [show #[Value.int IntKind.u32 0, Value.int IntKind.u32 0, Value.int IntKind.u32 0, Value.int IntKind.u32 0, Value.int IntKind.u32 0, Value.int IntKind.u32 0, Value.int IntKind.u32 0, Value.int IntKind.u32 0] = (wds [0, 0, 0, 0, 0, 0, 0, 0]).toArray from rfl];generalize (((w.alloc (.cells (wds H).toArray 207)).alloc (.cells (u8s l).toArray 213)).alloc (.cells (wds [0, 0, 0, 0, 0, 0, 0, 0]).toArray 207)) = w1 at n r1 q r s0 ⊢;refine (Agz (w.heap.size + 1) _ l Hl.out w1 (by omega) r1).mono ?_;rintro e w2 ⟨gw, rfl, au, u, s⟩;replace n := n.below s (by omega);replace q := q.below s (by omega);replace r := r.trans (s.mono (by omega));have s2 := s.size;go_wp2_with fail
 refine (AfG w2).mono ?_;rintro e m ⟨gk, rfl, ar, af, o⟩;have aw := u.lt;replace n := n.below o (by omega);replace q := q.below o (by omega);replace u := u.below o (by omega);replace r := r.trans (o.mono (by omega));have s3 := o.size;have av := af.lt
 go_wp2_with (first
  | (refine wpList_load_row rfl 205 _ rfl w.heap.size rfl 207 (wds H).toArray (0, 0) _ n Tryz.underlying205 rfl (by rw [JD _ HH.out]; kernel_rfl) ?_)
  | (refine wpList_store_row rfl 205 _ _ rfl m.heap.size (wds H).toArray rfl rfl 205 _ (heap_alloc_new m _) (by rw [JD _ HH.out]; kernel_rfl) (by rw [JD _ HH.out]; rfl) (Uz H) ?_
     rw [World.setRow_alloc_new]))
 have ag := Row.new m 205 (wds H).toArray;have b4 := (Below.refl m.heap.size m).alloc (Nat.le_refl _) (.cells (wds H).toArray 205);generalize m.alloc (.cells (wds H).toArray 205) = w4 at ag b4 ⊢;have ah := Lh (EI (Yo l) H HH.out);go_loopw [18] (fun i wr => ∃ k : Nat, i = .int .i64 (k : Int) ∧ k ≤ 64 ∧ Row wr m.heap.size 205 (wds (Xl (Yo l) H k)).toArray ∧ Below m.heap.size m wr) (fun i _ => (64 - intOf i).toNat)
 case atStart => exact ⟨0, by simp, by omega, ag, b4⟩
 case round =>
  clear ag b4;obtain ⟨k, rfl, hk, j, z⟩ := hrel;by_cases aj : k < 64
  · obtain ⟨a, b, c, d, e, f, g, i, aa⟩ := Akt (ah.out k);rw [aa] at j;have am := Lh aa;clear aa;have c0 := j.cellv (i := 0) (v := .int .u32 (wd a)) rfl;have c1 := j.cellv (i := 1) (v := .int .u32 (wd b)) rfl;have c2 := j.cellv (i := 2) (v := .int .u32 (wd c)) rfl;have c4 := j.cellv (i := 4) (v := .int .u32 (wd e)) rfl;have c5 := j.cellv (i := 5) (v := .int .u32 (wd f)) rfl;have c6 := j.cellv (i := 6) (v := .int .u32 (wd g)) rfl;have c7 := j.cellv (i := 7) (v := .int .u32 (wd i)) rfl;have ck := (af.below z (by omega)).cellv (K5 cubeL k (by show k < 64; omega));have cw := (u.below z (by omega)).cellv (K5 (Yo l) k (by rw [Yo, JF _ (Kv _ _)]; omega));obtain ⟨xk, ad⟩ : ∃ x, x = cubeL.getD k 0 := ⟨_, rfl⟩;obtain ⟨xw, ae⟩ : ∃ x, x = (Yo l).getD k 0 := ⟨_, rfl⟩;rw [← ad] at ck;rw [← ae] at cw;have an := Lh ad;have ao := Lh ae;clear ad ae;go_wp2
    go_quiet (fail)
    go_wp2
    go_quiet ((go_at_call 231; exact Ey (YS _ _ (by omega) (by omega) _)))
    go_wp2
    go_quiet ((go_at_call 231; exact Ey (YS _ _ (by omega) (by omega) _)))
    go_wp2
    refine QD 2 (by kernel_rfl) (by kernel_rfl) ?_;simp only [Lz, L9, Ly, L5]
    repeat still_step
    refine wpStill_nil ?_;refine wpList_copy_own rfl _ _ 284 284 rfl 92 Tryz.underlying284 (by kernel_rfl) m.heap.size 1 7 7 ⟨m.heap.size, 0, none⟩ 7 8 rfl rfl (wds [a, b, c, d, e, f, g, i]).toArray 205 j (wds [a, b, c, d, e, f, g]) rfl ?_ (by simp [wds]) ?_ ?_
    · exact Row.from_ (cur := (wds [a, b, c, d, e, f, g, i]).toArray) j 0 (AgT a b c d e f g i)
    · exact fun v hv => (N1.1 (Uz _)) v (by simpa using hv)
    generalize ac : World.setRow _ _ _ = w9;have t : Row w9 m.heap.size 205 (wds [a, a, b, c, d, e, f, g]).toArray := by rw [← ac]; exact Row.setRow (cs := (wds [a, b, c, d, e, f, g, i]).toArray) j _
    have ap : Below m.heap.size m w9 := by rw [← ac]; exact Kl (Below.drew (ZR (ZR (ZR z _) _) _)) (Nat.le_refl _) _
    clear ac c0 c1 c2 c4 c5 c6 c7 ck cw j z;have c4 := t.cellv (i := 4) (v := .int .u32 (wd d)) rfl;have c0 := t.cellv (i := 0) (v := .int .u32 (wd a)) rfl;have f4 := t.free 4;have f0 := t.free 0;go_wp2
    go_roundw
    case rel => exact ⟨k + 1, by go_num, by omega, by rw [← AeC _ _ _ _ _ _ _ _ _ _ _ _ _ am.out an.out ao.out]; exact (t.set _ _).set _ _, (ap.setCell (p := ⟨m.heap.size, 0, none⟩) (Nat.le_refl _) _).setCell (p := ⟨m.heap.size, 4, none⟩) (Nat.le_refl _) _⟩
    case measure => simp [intOf]; omega
  · obtain rfl : k = 64 := by omega
    clear aj;rw [show ((64 : Nat) : Int) = 64 from rfl];have n := n.below z (by omega);have q := q.below z (by omega);have r := r.trans (z.mono (by omega));have gv : w.heap.size + 2 < m.heap.size := by omega
    obtain ⟨V, hV⟩ : ∃ V, V = Xl (Yo l) H 64 := ⟨_, rfl⟩;have ai : V.length = 8 := by rw [hV]; exact ah.out 64
    rw [← hV] at j;have HV := Lh hV;have al := Lh ai;clear hV ai z u af o s;obtain ⟨G, hG⟩ : ∃ G, G = m.heap.size := ⟨_, rfl⟩;rw [← hG] at j gv ⊢;clear hG;go_wp2
    go_loopw [96] (fun i wr => ∃ k : Nat, i = .int .i64 (k : Int) ∧ k ≤ 8 ∧ Row wr w.heap.size 207 (wds (Xo H V k)).toArray ∧ Row wr G 205 (wds V).toArray ∧ Row wr (w.heap.size + 1 + 1) 207 (wds [0, 0, 0, 0, 0, 0, 0, 0]).toArray ∧ Below w.heap.size w wr) (fun i _ => (8 - intOf i).toNat)
    case atStart => exact ⟨0, by simp, by omega, n, j, q, r⟩
    case round =>
     clear j n q r;obtain ⟨k, rfl, hk, n, j, q, r⟩ := hrel;by_cases ab : k < 8
     · have c0 := n.cellv (K5 _ k (by rw [Xp _ _ HH.out]; exact ab));have c1 := j.cellv (K5 _ k (by rw [al.out]; exact ab));have f0 := n.free k;have aq : (k : Int) < 8 := by omega
       go_wp2
       refine QD 10 (by kernel_rfl) (by kernel_rfl) ?_;simp only [Lz, L9, Ly, L5]
       repeat still_step
       refine wpStill_nil ?_;go_wp2
       go_roundw
       case rel => exact ⟨k + 1, by go_num, by omega, by rw [← AgG]; exact n.drew.set _ _, (j.drew).far (by show G ≠ w.heap.size; omega) _, (q.drew).far (by show w.heap.size + 1 + 1 ≠ w.heap.size; omega) _, r.drew.setCell (p := ⟨w.heap.size, k, none⟩) (Nat.le_refl _) _⟩
       case measure => simp [intOf]; omega
     · obtain rfl : k = 8 := by omega
       clear ab;have ak : (wds (Xo H V 8)).toArray.size = 8 := JD _ (Xp _ _ HH.out 8);have y := Lh ak;clear ak
       go_wp2_with (first
        | (refine wpList_load_row rfl 207 _ rfl w.heap.size rfl 207 (wds (Xo H V 8)).toArray (0, 0) _ n Tryz.underlying207 rfl (by rw [y.out]; kernel_rfl) ?_)
        | (refine wpList_store_row rfl 207 _ _ rfl (w.heap.size + 1 + 1) (wds (Xo H V 8)).toArray rfl rfl 207 _ q (by rw [y.out]; kernel_rfl) (by rw [y.out]; rfl) (Uz _) ?_))
       exact bodyPost_ret (v := .agg (wds (Xo H V 8)).toArray) (results_cell_row Tryz.results153 _ _ (w.heap.size + 1 + 1) 207 _ (0, 0) _ rfl (q.setRow _) Tryz.underlying207 rfl (by rw [y.out]; kernel_rfl)) rfl ⟨by rw [YG, ← HV.out], Kl r (by omega) _⟩
end Go.Proofs.YtdcmppdhdcjpfaaGreat
namespace Go.Proofs.YtdcmppdhdcjpfaaGreat
open Go.RowKit Go.Deep
def E6 (x : BitVec 32) : List UInt8 := [UInt8.ofNat (x >>> 24).toNat, UInt8.ofNat (x >>> 16).toNat, UInt8.ofNat (x >>> 8).toNat, UInt8.ofNat x.toNat]
def Xk (H : List (BitVec 32)) : List UInt8 := H.flatMap E6
theorem AdP (H : List (BitVec 32)) : (Xk H).length = 4 * H.length := by
 induction H with
 | nil => rfl
 | cons a l ih => simp only [Xk, LA, Le, Lc] at ih ⊢; rw [ih]; simp [E6]; omega
theorem Acc (H : List (BitVec 32)) (k : Nat) (h : k < H.length) : Xk (H.take (k + 1)) = Xk (H.take k) ++ E6 (H.getD k 0) := by
 rw [N2 h, Xk, L3];simp [Xk, List.getD, Lb h]
theorem Aiq (x : BitVec 32) : wd x % (256 : Int) = ((UInt8.ofNat x.toNat).toNat : Int) := by
 unfold wd; simp
theorem AfV (w : World) : (isAgg 92).run Tryz.prog w = .ok false w := by
 unfold isAgg; simp [run_underlying Tryz.underlying92]
theorem AhI (H : List (BitVec 32)) (i : Nat) (hi : i < H.length) (w : World) : (part 92 (wds H).toArray i).run Tryz.prog w = .ok (.int .u32 (wd (H.getD i 0))) w := by
 unfold part;rw [Sem.run_bind, AfV];simp only [Result.andThen_ok, Bool.false_eq_true, if_false, K5 H i hi];rfl
theorem Afj (x : BitVec 32) : [Value.int .u8 (wd (x >>> 24) % (256 : Int)), .int .u8 (wd (x >>> 16) % (256 : Int)), .int .u8 (wd (x >>> 8) % (256 : Int)), .int .u8 (wd x % (256 : Int))] = u8s (E6 x) := by
 simp only [Aiq, u8s, E6, LD, Nf]
attribute [local go_sem] Ah8 Ah7 Ajs
theorem AfC (H : List (BitVec 32)) (hH : H.length = 8) (w : World) :
 Calls Tryz.prog 154 #[.agg (wds H).toArray] w fun e w' => e = .returned (.string ⟨(Xk H).toArray⟩) ∧ Below w.heap.size w w' := by
 have j := Lh hH;clear hH;obtain ⟨i0, p, s, t, u⟩ := info_parts Vp;have r0 := Row.new w 207 (wds H).toArray;have y := (Below.refl w.heap.size w).alloc (Nat.le_refl _) (.cells (wds H).toArray 207);have s0 : w.heap.size + 1 ≤ (w.alloc (.cells (wds H).toArray 207)).heap.size := by simp
 go_enter Tryz.func154, Tryz.ntmps154
 go_wp2_with (first
  | (refine wpList_load_row rfl 205 _ rfl w.heap.size rfl 207 (wds H).toArray (0, 0) _ r0 Tryz.underlying205 rfl (by rw [JD _ j.out]; kernel_rfl) ?_))
 generalize w.alloc (.cells (wds H).toArray 207) = w1 at r0 y s0 ⊢;go_loopw [3, 8] (fun v i wr => ∃ k : Nat, i = .int .i64 (k : Int) ∧ k ≤ 8 ∧ wr.ownsRow (w.heap.size + 1) 5 1 v (4 * k) (u8s (Xk (H.take k))) ∧ Below w.heap.size w wr ∧ w.heap.size + 1 ≤ wr.heap.size) (fun _ i _ => (8 - intOf i).toNat)
 case atStart => exact ⟨0, by simp, by omega, World.ownsRow_nil _ _ _ _, y, s0⟩
 case round =>
  obtain ⟨k, rfl, hk, c, l, hs⟩ := hrel;by_cases g : k < 8
  · have h := Aah (P := Tryz.prog) wr 205 92 8 (wds H).toArray .i64 k _ Tryz.underlying205 (AhI H k (by rw [j.out]; exact g) wr) (by kernel_rfl) g;obtain ⟨x, r⟩ : ∃ x, x = H.getD k 0 := ⟨_, rfl⟩;rw [← r] at h;have Hx := Lh r;clear r;have z : (k : Int) < 8 := by omega
    go_wp2_with (
     (at_builtin
      refine wpList_append_own _ rfl (.tmp 11) (.tmp 23) 277 rfl (w.heap.size + 1) 5 i0 (.int .u8 0) 1 1 Tryz.underlying277 p s t u rfl (by decide) _ _ _ rfl (c.alloc _) ⟨wr.heap.size, 0, none⟩ 4 4 [.int .u8 (wd (x >>> 24) % (256 : Int)), .int .u8 (wd (x >>> 16) % (256 : Int)), .int .u8 (wd (x >>> 8) % (256 : Int)), .int .u8 (wd x % (256 : Int))] rfl rfl (ZZ _ _ _) ?c2 (by unfold maxLen; omega) (by omega) (by simp; omega) ?_))
    case c2 => rw [Afj]; exact Vh _
    intro v' w2 d o _;have m := QR (l.alloc (by omega) _) (c.alloc _) o (by simp; omega) (by omega);have q := o.size;rw [World.size_alloc] at q;rw [Afj, Hx.out] at d;clear o h c l;go_wp2
    go_roundw
    case rel => exact ⟨k + 1, by go_num, by omega, by rw [Acc H k (by rw [j.out]; exact g), YW]; exact d, m, by omega⟩
    case measure => simp [intOf]; omega
  · obtain rfl : k = 8 := by omega
    clear g;rw [show ((8 : Nat) : Int) = 8 from rfl];rw [LK (by rw [j.out]; omega)] at c;have n := JY (P := Tryz.prog) 277 9 5 Tryz.underlying277 Tryz.underlying5 Tryz.underlying9 _ c;clear c;go_wp2
    go_ret
    exact ⟨rfl, l⟩
end Go.Proofs.YtdcmppdhdcjpfaaGreat
namespace Go.Proofs.YtdcmppdhdcjpfaaGreat
open Go.RowKit Go.Deep
attribute [local go_sem] Oper.semAt_some
abbrev U3 := { l : List UInt8 // l.length = 64 }
def AeV (l : List UInt8) (h : 64 ≤ l.length) : U3 := ⟨l.take 64, by simp; omega⟩
def Kc : Nat → List UInt8 → List U3
 | 0, _ => []
 | n + 1, l => if h : 64 ≤ l.length then AeV l h :: Kc n (l.drop 64) else []
def AjK (w : World) (b : Nat) : Nat := match w.cell? ⟨b, 0, none⟩ with | some (.string s) => s.size | _ => 0
theorem Aaw : ∀ (n k : Nat) (l : List UInt8), k < n → 64 * (k + 1) ≤ l.length → ∃ c : U3, (Kc n l)[k]? = some c ∧ c.1 = (l.drop (64 * k)).take 64
 | 0, k, l, h, _ => by omega
 | n + 1, 0, l, _, h => by
  rw [Kc, dif_pos (by omega)]
  exact ⟨_, rfl, by simp [AeV]⟩
 | n + 1, k + 1, l, h, h2 => by
  rw [Kc, dif_pos (by omega)]
  obtain ⟨c, h3, h4⟩ := Aaw n k (l.drop 64) (by omega) (by simp; omega)
  exact ⟨c, by simpa using h3, by rw [h4, No, Nat.mul_add, Nat.add_comm]⟩
theorem VK : ∀ (n : Nat) (l : List UInt8), 64 * n ≤ l.length → (Kc n l).length = n
 | 0, l, _ => rfl
 | n + 1, l, h => by
  rw [Kc, dif_pos (by omega), Lc, VK n (l.drop 64) (by simp; omega)]
theorem Acn (l : List UInt8) (k : Nat) (x : U3) (hx : x.1 = (l.drop (64 * k)).take 64) (h : 64 * (k + 1) ≤ l.length) :
 (Kc (l.length / 64) l).take (k + 1) = (Kc (l.length / 64) l).take k ++ [x] := by
 obtain ⟨c, d, g⟩ := Aaw (l.length / 64) k l (by omega) h;have e : k < (Kc (l.length / 64) l).length := (La.1 d).1;rw [N2 e];rw [Lb e] at d;have : c = x := Subtype.ext (g.trans hx.symm);rw [← this];injection d with d;rw [d]
theorem UD (w : World) (e : TypeId) (s : ByteArray) : w.grownBy (Lib.bytesWorld w e s) none :=
 ⟨rfl, rfl, rfl, by rw [Lib.bytesWorld_size]; omega, fun k hk _ => Lib.bytesWorld_at_old w e s k hk⟩
theorem Aba (bs : Nat) (s : List UInt8) (hs : s.length ≤ 2000000) (w : World) (hrow : Row w bs 9 #[.string ⟨s.toArray⟩]) :
 Ab4 Tryz.prog 228 #[.pointer (some ⟨bs, 0, none⟩)] (fun x : U3 => #[.agg (u8s x.1).toArray]) (· = bs) (fun A B => B.heap[bs]? = A.heap[bs]? ∧ A.heap.size ≤ B.heap.size) (fun xs => xs = Kc (s.length / 64) s) (fun _ => True) (s.length / 64) w := by
 intro l J Jx W _ ae hJ aq hY h0;refine callsIn_of_wp Tryz.func228 rfl trivial ?_ rfl;simp only [Tryz.ntmps228, Lj, Lc, Lr, Nat.reduceAdd, Nat.reduceSub, Lk, Ll, Ls, L0, Lo, Lm];gi_wp2;have ak : Row W bs 9 #[.string ⟨s.toArray⟩] := (ae.block bs hrow.lt (by simp)).trans hrow;clear hrow ae;gi_loopw [3] (fun _ wr => ∃ (k : Nat) (q : ByteArray), q.data.toList = s.drop (64 * k) ∧ 64 * k ≤ s.length ∧ Row wr bs 9 #[.string q] ∧ J ((Kc (s.length / 64) s).take k) wr) (fun _ wr => AjK wr bs)
 case atStart => exact ⟨0, ⟨s.toArray⟩, by simp, by omega, ak, by simpa using h0⟩
 case round =>
  obtain ⟨k, q, hq, hk, hr, t⟩ := hrel
  have ab : q.size + 64 * k = s.length := by
   have := congrArg List.length hq;simp at this; omega
  have Hq := Lh hq;have g := Lh ab;clear hq ab;have hc := hr.cellv (i := 0) (v := .string q) rfl;have hf := hr.free 0;by_cases ap : 64 ≤ q.size
  · have c := fun w => Lib.run_convert_string_bytes (P := Tryz.prog) w 9 277 5 (q.extract 0 64) Tryz.underlying9 Tryz.underlying277 Tryz.underlying5
    have y : (q.extract 0 64).size = 64 := by simp; omega
    simp only [y] at c;have ai := Lh y;have p := fun w => run_arrayAt (P := Tryz.prog) w 213 5 64 (some ⟨wr.heap.size, 0, none⟩) 64 (grownCap wr 64 0 5) Tryz.underlying213 (Nat.le_refl _)
    clear y;obtain ⟨x, hx⟩ : ∃ x : U3, x.1 = (q.extract 0 64).data.toList := ⟨⟨(q.extract 0 64).data.toList, by have := ai.out; simpa using this⟩, rfl⟩
    have d : ∀ j v, (u8s x.1)[j]? = some v → (Lib.bytesWorld wr 5 (q.extract 0 64)).cell? ⟨wr.heap.size, j, none⟩ = some v := by
     intro j v hv;rw [XV, hx] at hv
     have t : j < (q.extract 0 64).size := by
      rcases Nat.lt_or_ge j (q.extract 0 64).data.toList.length with h | h
      · simpa using h
      · rw [Nk h] at hv; cases hv
     rw [Lib.bytesWorld_cell _ _ _ j t, ← hv, List.getD, Lb (by simpa using t)];rfl
    have m := Lh d;have Hx := Lh hx;have n : wr.grownBy (Lib.bytesWorld wr 5 (q.extract 0 64)) none := UD _ _ _;have u := hJ _ _ _ none t n (fun r e => by cases e);have ac : Row (Lib.bytesWorld wr 5 (q.extract 0 64)) bs 9 #[.string q] := (n.block bs hr.lt (by simp)).trans hr;have aw : k < s.length / 64 := by have := g.out; omega
    obtain ⟨fn, ao, af, an, hy, hR⟩ := hY _ x _ u (by rw [L4]; omega);have am := Lh n;have HR := Lh hR;have ah := Lh ac;clear d hx n t ac hr hR;gi_wp2_with (refine YZ rfl 213 _ rfl wr.heap.size rfl (u8s x.1) _ m.out Tryz.underlying213 rfl (by rw [YX, x.2]; kernel_rfl) ?_);refine ⟨rfl, HR.out.mono ?_⟩;rintro e W' (⟨rfl, z, aa, ax⟩ | ⟨rfl, aj⟩)
    · have o : Row W' bs 9 #[.string q] := aa.trans ah.out;have ar := o.cellv (i := 0) (v := .string q) rfl;have au := o.free 0;have ag := Lh z;clear z aa u hy hf c p;gi_wp2;go_roundw
      case rel =>
       refine ⟨k + 1, q.extract 64 q.size, ?_, by have := g.out; omega, o.set _ _, ?_⟩
       · have := Hq.out;simp only [ByteArray.data_extract, Array.toList_extract, List.extract_eq_take_drop, this, No];rw [LK (by simp; have := g.out; omega), Nat.mul_add]
       · refine hJ _ _ _ (some bs) ?_ (grownBy_setCell' _ _ _) (fun r e => by cases e; exact .inl rfl);rw [Acn s k x (by rw [Hx.out]; simp [Hq.out]) (by have := g.out; omega)];exact ag.out
      case measure =>
       have al := o.set 0 (.string (q.extract 64 q.size));have ad := al.cell 0;unfold AjK;rw [ad, hc];simp; omega
    · clear u hy c p;gi_wp2;refine bodyPost_ret (results_none rfl _ _ _) rfl ?_;exact ⟨⟨_, rfl⟩, .inr ⟨_, trivial, aj⟩⟩
  · gi_wp2;go_end0
    refine ⟨⟨_, rfl⟩, .inl ⟨_, rfl, ?_⟩⟩;have av : k = s.length / 64 := by have := g.out; omega
    rw [LK (by rw [VK _ _ (by omega)]; omega)] at t;exact t
end Go.Proofs.YtdcmppdhdcjpfaaGreat
namespace Go.Proofs.YtdcmppdhdcjpfaaGreat
open Go.RowKit Go.Deep
def Adf (R L k i : Nat) : UInt8 := if i = 0 then 128 else if i + k < L then 0 else UInt8.ofNat (R / 256 ^ (L - 1 - i))
def Ew (R L k : Nat) : List UInt8 := (List.range L).map (Adf R L k)
def AbA (R L k : Nat) : Array Value := (u8s (Ew R L k)).toArray
theorem Vw (R L k i : Nat) : (AbA R L k)[i]? = if i < L then some (.int .u8 ((Adf R L k i).toNat : Int)) else none := by
 unfold AbA Ew;simp only [N8, XV, L7];by_cases h : i < L <;> simp [h]
theorem Agf (R L k : Nat) : (AbA R L k).size = L := by simp [AbA, Ew, u8s]
theorem Agg (R L k : Nat) (hk : k + 1 < L) : (AbA R L k).setIfInBounds (L - 1 - k) (.int .u8 ((UInt8.ofNat (R / 256 ^ k)).toNat : Int)) = AbA R L (k + 1) := by
 apply Array.ext_getElem?;intro i;rw [N7, Vw, Vw, Agf];by_cases hi : L - 1 - k = i
 · subst hi;rw [if_pos rfl, if_pos (by omega), if_pos (by omega)];unfold Adf;rw [if_neg (by omega), if_neg (by omega), show L - 1 - (L - 1 - k) = k from by omega]
 · rw [if_neg hi];by_cases c : i < L
   · rw [if_pos c, if_pos c];congr 4;unfold Adf;by_cases d : i = 0
     · simp [d]
     · rw [if_neg d, if_neg d];by_cases e : i + (k + 1) < L
       · rw [if_pos e, if_pos (by omega)]
       · rw [if_neg e, if_neg (by omega)]
   · rw [if_neg c, if_neg c]
theorem Aev (R L : Nat) (cs : Array Value) (hs : cs.size = L) (h : ∀ i, i < L → cs[i]? = some (.int .u8 0)) : cs.setIfInBounds 0 (.int .u8 128) = AbA R L 0 := by
 apply Array.ext_getElem?;intro i;rw [N7, Vw, hs];by_cases hi : 0 = i
 · subst hi;rw [if_pos rfl];by_cases c : 0 < L <;> simp [c, Adf]
 · rw [if_neg hi];by_cases c : i < L
   · rw [if_pos c, h i c];unfold Adf;rw [if_neg (by omega), if_pos (by omega)]; rfl
   · rw [if_neg c, Array.getElem?_eq_none (by omega)]
theorem AiU (z : Value) (n i : Nat) (h : i < n) : (madeCells #[z] n)[i]? = some z := by
 unfold madeCells;simp [h, Nat.mod_one]
theorem Akb (q : Nat) : ((q : Int) % 256) = ((UInt8.ofNat q).toNat : Int) := by simp
theorem Ahi (L k : Nat) : (L : Int) - 1 - (k : Int) - 1 = (L : Int) - 1 - ((k + 1 : Nat) : Int) := by omega
theorem Ag3 (R k : Nat) : ((R / 256 ^ k : Nat) : Int) / 256 = ((R / 256 ^ (k + 1) : Nat) : Int) := by
 rw [Nat.pow_succ, ← Nat.div_div_eq_div_mul]; omega
def Aew (n : Nat) : Nat := 72 - (n + 8) % 64
def Uf (n : Nat) : List UInt8 := Ew (n * 8 % 18446744073709551616) (Aew n) 8
theorem Agh (R L k : Nat) (hk : k ≤ 8) (h : R / 256 ^ k = 0) : Ew R L k = Ew R L 8 := by
 unfold Ew;apply List.map_congr_left;intro i hi;unfold Adf;by_cases c : i = 0
 · simp [c]
 · rw [if_neg c, if_neg c];by_cases d : i + 8 < L
   · rw [if_pos (by omega), if_pos d]
   · rw [if_neg d];by_cases e : i + k < L
     · rw [if_pos e]
       have : R / 256 ^ (L - 1 - i) = 0 := by
        have g : 256 ^ k ≤ 256 ^ (L - 1 - i) := Nat.pow_le_pow_right (by omega) (by omega);rw [Nat.div_eq_zero_iff] at h ⊢;rcases h with h | h
        · exact absurd h (Nat.pos_iff_ne_zero.1 (Nat.pow_pos (by omega)))
        · exact .inr (by omega)
       rw [this]; rfl
     · rw [if_neg e]
theorem Ai6 (n : Int) (h0 : 0 ≤ n) (h1 : n ≤ 9223372036854775807) (w : World) :
 Calls Tryz.prog 152 #[.int .i64 n] w fun e w' => e = .returned (.string ⟨(Uf n.toNat).toArray⟩) ∧ Below w.heap.size w w' := by
 obtain ⟨L, hL, af, ad⟩ : ∃ L : Nat, 72 - (n + 8) % 64 = (L : Int) ∧ 9 ≤ L ∧ L ≤ 72 := ⟨(72 - (n + 8) % 64).toNat, by omega, by omega, by omega⟩;obtain ⟨u, o⟩ : ∃ u, u = madeCells #[Value.int .u8 0] L := ⟨_, rfl⟩;have ac := run_make_row' (P := Tryz.prog) 277 5 (.int .u8 0) 1 Tryz.underlying277 Vp rfl .i64 .i64 L (by omega) (by omega);have l : ∀ i, i < L → u[i]? = some (.int .u8 0) := fun i hi => by rw [o]; exact AiU _ _ _ hi
 have s := size_madeCells #[Value.int .u8 0] L;rw [← o] at ac s;have ae : u[0]? = some (.int .u8 0) := l 0 (by omega)
 obtain ⟨R, hR, g⟩ : ∃ R : Nat, IntKind.u64.wrap (n * 8) = (R : Int) ∧ R < 18446744073709551616 := by
  rw [IntKind.wrap_u64]; exact ⟨((n * 8) % 18446744073709551616).toNat, by omega, by omega⟩
 have t := Lh g;have aa := Lh l;have ab := Lh s
 have d : Hid (Ew R L 8 = Uf n.toNat) := by
  unfold Uf;rw [show Aew n.toNat = L from by unfold Aew; omega, show n.toNat * 8 % 18446744073709551616 = R from by rw [IntKind.wrap_u64] at hR; omega]; rfl
 clear o l s g;go_enter Tryz.func152, Tryz.ntmps152
 go_wp2
 go_loopw [4, 5] (fun i r wr => ∃ k : Nat, i = .int .i64 ((L : Int) - 1 - (k : Int)) ∧ r = .int .u64 ((R / 256 ^ k : Nat) : Int) ∧ k ≤ 8 ∧ Row wr w.heap.size 5 (AbA R L k) ∧ Below w.heap.size w wr) (fun _ r _ => (intOf r).toNat)
 case atStart => exact ⟨0, by simp, by simp, by omega, by rw [← Aev R L u ab.out aa.out]; exact Row.new _ _ _, (Below.refl _ _).alloc (Nat.le_refl _) _⟩
 case round =>
  obtain ⟨k, rfl, rfl, hk, c, hb⟩ := hrel;by_cases y : R / 256 ^ k = 0
  · have m := Xe (P := Tryz.prog) 277 9 5 5 Tryz.underlying277 Tryz.underlying5 Tryz.underlying9 (cap := L) c (Ew R L k) (n := L) (by simp [Ew]) (fun j hj => by simp [AbA]);rw [Agh R L k hk y, d.out] at m;have z : ((R / 256 ^ k : Nat) : Int) = 0 := by omega
    rw [z];clear y z d;go_wp2
    go_ret
    exact ⟨rfl, hb⟩
  · have ag : k < 8 := by
     rcases Nat.lt_or_ge k 8 with h | h
     · exact h
     · obtain rfl : k = 8 := by omega
       exact absurd (Nat.div_eq_of_lt t.out) y
    have x : 0 < R / 256 ^ k := Nat.pos_of_ne_zero y;obtain ⟨q, hq⟩ : ∃ q, q = R / 256 ^ k := ⟨_, rfl⟩;rw [← hq] at y x ⊢;have Hq := Lh hq;clear hq;have hc := c.cellv (i := L - 1 - k) (v := .int .u8 ((Adf R L k (L - 1 - k)).toNat : Int)) (by rw [Vw, if_pos (by omega)]);have hf := c.free (L - 1 - k);go_wp2
    go_roundw
    case rel => exact ⟨k + 1, by rw [Ahi], by rw [← Ag3, Hq.out], by omega, by rw [← Agg R L k (by omega), Akb, Hq.out]; exact c.set _ _, hb.setCell (p := ⟨w.heap.size, L - 1 - k, none⟩) (Nat.le_refl _) _⟩
    case measure => simp [intOf]; omega
attribute [local go_sem] Oper.semAt_some
theorem Aaj (s : ByteArray) (w : World) :
 Calls Tryz.prog 151 #[.string s] w fun e w' => e = .returned (.func (.func 228) #[] #[.pointer (some ⟨w.heap.size, 0, none⟩)]) ∧ w.alloc (.cells #[.string s] 9) = w' := by
 go_enter Tryz.func151, Tryz.ntmps151
 go_wp2
 go_ret
 exact ⟨rfl, rfl⟩
def Kx (H : List (BitVec 32)) (l : List U3) : List (BitVec 32) := l.foldl (fun H c => YG H c.1) H
def AhW (s : List UInt8) : List UInt8 := Xk (Kx KB (Kc ((s ++ Uf s.length).length / 64) (s ++ Uf s.length)))
theorem KF : ∀ (l : List U3) (H : List (BitVec 32)), H.length = 8 → (Kx H l).length = 8
 | [], _, h => h
 | _ :: l, _, h => KF l _ (Xp _ _ h 8)
theorem AhF (n : Nat) : (Uf n).length = Aew n := by simp [Uf, Ew]
theorem Ai5 (n : Nat) : 9 ≤ Aew n ∧ Aew n ≤ 72 := by unfold Aew; omega
theorem Ajl (s : ByteArray) (hs : s.size ≤ 1000000) (w : World) :
 Calls Tryz.prog 78 #[.string s] w fun e w' => e = .returned (.string ⟨(AhW s.data.toList).toArray⟩) ∧ Below w.heap.size w w' := by
 refine (callsIn_wide (n := 0)).1 ?_;refine callsIn_of_wp_marks Tryz.func78 rfl trivial ?_;simp only [Tryz.ntmps78, Lj, Lc, Lr, Nat.reduceAdd, Nat.reduceSub, Lk, Ll, Ls, L0, Lo, Lm];gi_wp2_with fail
 refine ⟨trivial, rfl, (callsIn_wide.2 (Ags w)).mono ?_⟩;rintro e w1 ⟨rfl, b1⟩;gi_wp2_with (refine QX rfl 207 _ _ rfl w1.heap.size (wds KB).toArray rfl rfl 207 _ (heap_alloc_new w1 _) (by kernel_rfl) rfl (Uz _) ?_; rw [World.setRow_alloc_new]);have rh := Row.new w1 207 (wds KB).toArray;have b2 := b1.alloc b1.size (.cells (wds KB).toArray 207);have g1 := b1.size;obtain ⟨G, hG⟩ : ∃ G, G = w1.heap.size := ⟨_, rfl⟩;rw [← hG] at rh g1 ⊢;clear hG;have lh := rh.lt;generalize w1.alloc (.cells (wds KB).toArray 207) = w2 at rh b2 lh ⊢;clear b1;refine ⟨trivial, rfl, (callsIn_wide.2 (Ai6 (s.size : Int) (by omega) (by omega) w2)).mono ?_⟩;rw [Li];rintro e w3 ⟨rfl, b3⟩;have ad := rh.below b3 lh;have aa := b2.trans (b3.mono b2.size);have l3 := b3.size;clear b3 b2 rh;have an : (Uf s.size).length ≤ 72 := by rw [AhF]; exact (Ai5 _).2
 gi_wp2_with fail
 have hq : (s ++ (⟨(Uf s.size).toArray⟩ : ByteArray)).data.toList = s.data.toList ++ Uf s.data.toList.length := by simp
 have ao : (s ++ (⟨(Uf s.size).toArray⟩ : ByteArray)).size ≤ 1000072 := by rw [ByteArray.size_append, Uu (Uf s.size)]; omega
 generalize (s ++ (⟨(Uf s.size).toArray⟩ : ByteArray)) = q at hq ao ⊢;have Hq := Lh hq;clear hq an;refine ⟨trivial, rfl, (callsIn_wide.2 (Aaj q w3)).mono ?_⟩;rintro e w4 ⟨rfl, ak⟩;have rb := Row.new w3 9 #[.string q];have al := ad.alloc (.cells #[.string q] 9);have b4 := aa.alloc aa.size (.cells #[.string q] 9);have g4 : G < w3.heap.size := ad.lt;have ag : (w3.alloc (.cells #[.string q] 9)).heap.size = w3.heap.size + 1 := by simp
 rw [ak] at rb al b4 ag;obtain ⟨v, ah⟩ : ∃ v, v = w3.heap.size := ⟨_, rfl⟩;rw [← ah] at rb g4 ag ⊢;clear ah ak ad aa l3 lh;have gB : w.heap.size ≤ v := by omega
 have aj : q.data.toList.length ≤ 2000000 := by simp; omega
 have af := Lh (Aba v q.data.toList aj w4 rb);gi_wp2
 refine AbD (gf := 228) (lb := #[.pointer (some ⟨v, 0, none⟩)]) rfl (enters_of Tryz.func228 (by kernel_rfl) rfl) af.out (fun r h => by subst h; omega)
  (fun h k => ⟨k.1.trans h.1, Lf h.2 k.2⟩) (fun W l o o' hl ho hc => ⟨by rw [World.putObj_heap_other (by omega)], by simp⟩) (World.grownBy.refl _ _) (fun _ => rfl)
  (fun i W => Row W G 207 (wds (Kx KB i)).toArray ∧ Below w.heap.size w W ∧ v < W.heap.size) (fun _ _ _ => False) ?hI ?hIx ⟨al, b4, by omega⟩
  (fun x a' W => ∃ y, v < y ∧ Row W y 213 (u8s x.1).toArray ∧ a' = { tmps := #[.string s, undef, .string ⟨#[]⟩, .pointer (some ⟨G, 0, none⟩), .pointer (some ⟨y, 0, none⟩), undef, .agg (wds KB).toArray, .string s, .string s, .int .i64 s.size, .string ⟨(Uf s.size).toArray⟩, .string q, .func (.func 228) #[] #[.pointer (some ⟨v, 0, none⟩)], .agg (u8s x.1).toArray, undef, undef, undef, undef, undef, undef, undef], defers := [] }) ?hAx ?assign ?body ?done ?stop
 case hI =>
  intro i A B row hs hg g;refine ⟨(hg.block G hs.1.lt (fun e => ?_)).trans hs.1, hs.2.1.grown hg hs.2.1.size (fun k hk => ?_), Ld hs.2.2 hg.size⟩
  · rcases g _ e.symm with h | ⟨h, _⟩ <;> omega
  · rcases g _ hk with h | ⟨h, _⟩ <;> omega
 case hIx => exact fun _ _ _ _ _ h _ _ => h
 case hAx =>
  rintro x a' _ A B row ⟨y, h1, h2, h3⟩ hg g;refine ⟨y, h1, (hg.block y h2.lt (fun e => ?_)).trans h2, h3⟩;rcases g _ e.symm with h | ⟨_, o, ho, hc⟩
  · omega
  · rw [h2] at ho; cases ho; cases hc
 case assign =>
  rintro l i x W K ⟨g, t, u⟩ hK;have hx : (u8s x.1).toArray.size = 64 := Adu _ x.2;have Hx := Lh hx;clear hx;have HK := Lh hK;clear hK;gi_wp2_with (refine QX rfl 213 _ _ rfl W.heap.size (u8s x.1).toArray rfl rfl 213 _ (heap_alloc_new W _) (by rw [Hx.out]; kernel_rfl) (by rw [Hx.out]; rfl) (Ajp _) ?_; rw [World.setRow_alloc_new]);exact HK.out _ _ (KeepsFrom.alloc _ _ _) ⟨Below.heap_alloc _ _ _ u, by simp⟩ ⟨g.alloc _, t.alloc t.size _, by simp; omega⟩ ⟨_, u, Row.new _ _ _, rfl⟩
 case body =>
  rintro l i x a' W hl _ ⟨g, t, u⟩ ⟨y, aq, ap, rfl⟩ _;have hx : (u8s x.1).toArray.size = 64 := Adu _ x.2;obtain ⟨H, p⟩ : ∃ H, H = Kx KB i := ⟨_, rfl⟩;have m : H.length = 8 := by rw [p]; exact KF _ _ rfl
  rw [← p] at g;have Hx := Lh hx;have HH := Lh p;have d := Lh m;clear hx p m
  gi_wp2_with (first
   | (refine Q2 rfl 207 _ rfl G rfl 207 (wds H).toArray (0, 0) _ g Tryz.underlying207 rfl (by rw [JD _ d.out]; kernel_rfl) ?_)
   | (refine Q2 rfl 213 _ rfl y rfl 213 (u8s x.1).toArray (0, 0) _ ap Tryz.underlying213 rfl (by rw [Hx.out]; kernel_rfl) ?_))
  refine ⟨trivial, rfl, (CallsIn.inRound l (callsIn_wide.2 (AfB H d.out x.1 x.2 W))).mono ?_⟩;rintro e W2 ⟨rfl, j⟩;have ac := g.below j g.lt;have hn : (YG H x.1).length = 8 := Xp _ _ d.out 8;have Hn := Lh hn;clear hn;gi_wp2_with (refine QX rfl 207 _ _ rfl G (wds (YG H x.1)).toArray rfl rfl 207 _ ac (by rw [JD _ Hn.out]; kernel_rfl) (by rw [JD _ Hn.out, JD _ d.out]) (Uz _) ?_);refine ⟨(KeepsFrom.of_below j).trans (KeepsFrom.setRow ac _), ⟨(AbN _ _ _ _ (by omega)).trans (j.block _ u), Lf j.size (by simp [World.setRow])⟩, ?_, ?_, ?_⟩
  · have := ac.setRow (wds (YG H x.1)).toArray;have e : YG H x.1 = Kx KB (i ++ [x]) := by rw [HH.out, Kx, Kx, List.foldl_append]; rfl
    rw [e] at this;rw [e]; exact this
  · exact Kl (t.trans (j.mono t.size)) g1 _
  · have := j.size; simp [World.setRow]; omega
 case stop => exact fun D c i W _ _ h _ => h.elim
 case done =>
  rintro D ys W hD rfl ⟨g, t, _⟩ hK;obtain ⟨H, p⟩ : ∃ H, H = Kx KB (Kc (q.data.toList.length / 64) q.data.toList) := ⟨_, rfl⟩;have m : H.length = 8 := by rw [p]; exact KF _ _ rfl
  have z : Xk H = AhW s.data.toList := by rw [p, Hq.out]; rfl
  rw [← p] at g;have d := Lh m;have ae := Lh z;have HK := Lh hK;clear p m z hK;gi_wp2_with (refine Q2 rfl 207 _ rfl G rfl 207 (wds H).toArray (0, 0) _ g Tryz.underlying207 rfl (by rw [JD _ d.out]; kernel_rfl) ?_);refine ⟨trivial, rfl, (callsIn_wide.2 (AfC H d.out W)).mono ?_⟩;rintro e W5 ⟨rfl, ab⟩;have ai : W5.heap[D]? = some (.deferred (some [])) := (ab.block D (Ln.1 HK.out).1).trans HK.out;rw [ae.out];have am := Lh ai;clear ai HK g;gi_wp2;refine ⟨by simp, .inl ⟨_, _, rfl, run_takeDeferred am.out, ?_⟩⟩;exact ⟨_, results_tmp rfl _ _ _, rfl, (t.trans (ab.mono t.size)).grown (grownBy_putObj' _ _ _) (Lf t.size ab.size) (fun k e => by cases e; omega)⟩
end Go.Proofs.YtdcmppdhdcjpfaaGreat
namespace Go.Proofs.YtdcmppdhdcjpfaaGreat
open Go.RowKit Go.Deep
def part (l : List UInt8) (n j : Nat) : List UInt8 := l.take j ++ List.replicate (n - j) 0
def Vk (r : RunV) : List UInt8 := AhW (YT r.kind r.value r.evs)
theorem Uv (r : RunV) (w : World) (hok : r.ok w) (hl : r.evs.length ≤ 10000) :
 Calls Tryz.prog 33 #[r.val] w fun e w' => e = .returned (.string ⟨(Vk r).toArray⟩) ∧ Below w.heap.size w w' := by
 have c := Lh hok;have j := Lh hl;clear hok hl;go_enter Tryz.func33, Tryz.ntmps33
 rw [show r.val = .agg r.cells from rfl];go_wp2_with (refine Qn _ _ rfl ?_)
 refine Stop.to ?_;refine Qe rfl 40 _ rfl r.cells rfl ?_;intro G k m n h;have h := (Below.refl w.heap.size w).trans (h.mono m);have d : r.ok k := ⟨c.out.kind, c.out.value, c.out.steps, c.out.len, c.out.cap, c.out.nil, c.out.reads.go h, c.out.evs⟩;have g := Lh d;clear d;go_wp2_with (refine wpList_load_row rfl 40 _ rfl G rfl 40 r.cells (0, 0) _ n Tryz.underlying40 rfl (by kernel_rfl) ?_)
 refine (Adp r k g.out (by have := j.out; omega)).mono ?_;rintro e o ⟨rfl, i⟩;have i := h.trans (i.mono h.size);go_wp2_with fail
 refine (Ajl ⟨(YT r.kind r.value r.evs).toArray⟩ (by rw [Uu]; have := AeF r.kind r.value r.evs; have := j.out; omega) o).mono ?_;rintro e p ⟨rfl, l⟩;go_wp2_with fail
 go_ret
 exact ⟨rfl, i.trans (l.mono i.size)⟩
theorem AhX (l : List UInt8) : (AhW l).length = 32 := by
 rw [AhW, AdP, KF _ _ rfl]
theorem Acs (r : RunV) : (Vk r).length = 32 := AhX _
theorem RunV.ok.ok_go {r : RunV} {w w' : World} (h : r.ok w) (b : Below w.heap.size w w') : r.ok w' :=
 ⟨h.kind, h.value, h.steps, h.len, h.cap, h.nil, h.reads.go b, h.evs⟩
instance St.runok {r : RunV} : St (fun W => r.ok W) := ⟨fun h b => h.ok_go b⟩
end Go.Proofs.YtdcmppdhdcjpfaaGreat
