/- Lemmas for RunnerJustP. -/
import Derived.Test.YtkoikjnlpifbjaaGreatZb32
import Derived.Test.YtkoikjnlpifbjaaGreatZb31
import Derived.Test.YtkoikjnlpifbjaaGreatZb1
import Derived.Test.YtkoikjnlpifbjaaGreatRows
import Derived.Laws.CopyOwn
import Derived.Lib.ConvBytes
import Derived.Laws.Cover3
set_option linter.unusedVariables false
set_option linter.unusedSimpArgs false
set_option maxRecDepth 100000
set_option maxHeartbeats 16000000
namespace Go.Proofs.YtkoikjnlpifbjaaGreat
open Go.RowKit Go.Deep
def Akx (e f g h k x : BitVec 32) : BitVec 32 := h + (e.rotateRight 6 ^^^ e.rotateRight 11 ^^^ e.rotateRight 25) + (g ^^^ e &&& (f ^^^ g)) + k + x
def AkX (a b c : BitVec 32) : BitVec 32 := (a.rotateRight 2 ^^^ a.rotateRight 13 ^^^ a.rotateRight 22) + (a &&& b ^^^ a &&& c ^^^ b &&& c)
def Ab1 (W : List (BitVec 32)) (t : Nat) : List (BitVec 32) → List (BitVec 32)
 | [a, b, c, d, e, f, g, h] =>
  let t1 := Akx e f g h (cubeL.getD t 0) (W.getD t 0)
  [t1 + AkX a b c, a, b, c, d + t1, e, f, g]
 | l => l
def XC (W H : List (BitVec 32)) : Nat → List (BitVec 32)
 | 0 => H
 | t + 1 => Ab1 W t (XC W H t)
theorem E4 (W H : List (BitVec 32)) (h : H.length = 8) : ∀ t, (XC W H t).length = 8
 | 0 => h
 | t + 1 => by
  have ih := E4 W H h t
  unfold XC
  match h' : XC W H t, ih with
  | [a, b, c, d, e, f, g, h], _ => simp [Ab1]
theorem AkO {α : Type} {l : List α} (h : l.length = 8) : ∃ a b c d e f g i, l = [a, b, c, d, e, f, g, i] := by
 match l, h with
 | [a, b, c, d, e, f, g, i], _ => exact ⟨a, b, c, d, e, f, g, i, rfl⟩
def XG (H V : List (BitVec 32)) : Nat → List (BitVec 32)
 | 0 => H
 | j + 1 => (XG H V j).set j ((XG H V j).getD j 0 + V.getD j 0)
theorem XH (H V : List (BitVec 32)) (h : H.length = 8) : ∀ j, (XG H V j).length = 8
 | 0 => h
 | j + 1 => by simp [XG, XH H V h j]
def Y1 (H : List (BitVec 32)) (l : List UInt8) : List (BitVec 32) := XG H (XC (YH l) H 64) 8
theorem Ahm (a b c d e f g i : BitVec 32) : ∀ j v, (wds [a, b, c, d, e, f, g])[j]? = some v → (wds [a, b, c, d, e, f, g, i]).toArray[0 + j]? = some v := by
 intro j v h
 match j, h with
 | 0, h | 1, h | 2, h | 3, h | 4, h | 5, h | 6, h => exact h
theorem Ae6 (W H : List (BitVec 32)) (k : Nat) (a b c d e f g i xk xw : BitVec 32) (h : XC W H k = [a, b, c, d, e, f, g, i]) (hk : xk = cubeL.getD k 0) (hw : xw = W.getD k 0) :
 ((wds [a, a, b, c, d, e, f, g]).toArray.setIfInBounds 0 (.int .u32 (wd (Akx e f g i xk xw + AkX a b c)))).setIfInBounds 4 (.int .u32 (wd (d + Akx e f g i xk xw))) = (wds (XC W H (k + 1))).toArray := by
 rw [UT, UT, XC, h, Ab1, hk, hw]; rfl
theorem Ag4 (H V : List (BitVec 32)) (j : Nat) : (wds (XG H V j)).toArray.setIfInBounds j (.int .u32 (wd ((XG H V j).getD j 0 + V.getD j 0))) = (wds (XG H V (j + 1))).toArray := UT _ _ _
attribute [local go_sem] AfU Afe Afd Ach Aci Acj VV YG
theorem Af1 (H : List (BitVec 32)) (hH : H.length = 8) (l : List UInt8) (hl : l.length = 64) (w : World) :
 Calls Tryz.prog 119 #[.agg (wds H).toArray, .agg (u8s l).toArray] w fun e w' => e = .returned (.agg (wds (Y1 H l)).toArray) ∧ Below w.heap.size w w' := by
 have Hl := Lv hl;have HH := Lv hH;clear hl hH;go_enter Tryz.func119, Tryz.ntmps119
 go_wp2_with fail
 have n : Row (((w.alloc (.cells (wds H).toArray 195)).alloc (.cells (u8s l).toArray 201)).alloc (.cells (wds [0, 0, 0, 0, 0, 0, 0, 0]).toArray 195)) w.heap.size 195 (wds H).toArray := ((Row.new _ _ _).alloc _).alloc _
 have r1 : Row (((w.alloc (.cells (wds H).toArray 195)).alloc (.cells (u8s l).toArray 201)).alloc (.cells (wds [0, 0, 0, 0, 0, 0, 0, 0]).toArray 195)) (w.heap.size + 1) 201 (u8s l).toArray := by
  have h := (Row.new (w.alloc (.cells (wds H).toArray 195)) 201 (u8s l).toArray).alloc (.cells (wds [0, 0, 0, 0, 0, 0, 0, 0]).toArray 195);rwa [World.size_alloc] at h
 have q : Row (((w.alloc (.cells (wds H).toArray 195)).alloc (.cells (u8s l).toArray 201)).alloc (.cells (wds [0, 0, 0, 0, 0, 0, 0, 0]).toArray 195)) (w.heap.size + 1 + 1) 195 (wds [0, 0, 0, 0, 0, 0, 0, 0]).toArray := by
  have h := Row.new ((w.alloc (.cells (wds H).toArray 195)).alloc (.cells (u8s l).toArray 201)) 195 (wds [0, 0, 0, 0, 0, 0, 0, 0]).toArray;rwa [World.size_alloc, World.size_alloc] at h
 have s : Below w.heap.size w (((w.alloc (.cells (wds H).toArray 195)).alloc (.cells (u8s l).toArray 201)).alloc (.cells (wds [0, 0, 0, 0, 0, 0, 0, 0]).toArray 195)) :=
  (((Below.refl _ _).alloc (Nat.le_refl _) _).alloc (by simp) _).alloc (by simp; omega) _
 have s0 : (((w.alloc (.cells (wds H).toArray 195)).alloc (.cells (u8s l).toArray 201)).alloc (.cells (wds [0, 0, 0, 0, 0, 0, 0, 0]).toArray 195)).heap.size = w.heap.size + 3 := by simp
 rw [show #[Value.int IntKind.u32 0, Value.int IntKind.u32 0, Value.int IntKind.u32 0, Value.int IntKind.u32 0, Value.int IntKind.u32 0, Value.int IntKind.u32 0, Value.int IntKind.u32 0, Value.int IntKind.u32 0] = (wds [0, 0, 0, 0, 0, 0, 0, 0]).toArray from rfl];generalize (((w.alloc (.cells (wds H).toArray 195)).alloc (.cells (u8s l).toArray 201)).alloc (.cells (wds [0, 0, 0, 0, 0, 0, 0, 0]).toArray 195)) = w1 at n r1 q s s0 ⊢;refine (AgV (w.heap.size + 1) _ l Hl.out w1 (by omega) r1).mono ?_;rintro e w2 ⟨gw, rfl, au, y, t⟩;replace n := n.below t (by omega);replace q := q.below t (by omega);replace s := s.trans (t.mono (by omega));have s2 := t.size;go_wp2_with fail
 refine (Af9 w2).mono ?_;rintro e m ⟨gk, rfl, ar, af, o⟩;have aw := y.lt;replace n := n.below o (by omega);replace q := q.below o (by omega);replace y := y.below o (by omega);replace s := s.trans (o.mono (by omega));have s3 := o.size;have av := af.lt
 go_wp2_with (first
  | (refine wpList_load_row rfl 193 _ rfl w.heap.size rfl 195 (wds H).toArray (0, 0) _ n Tryz.underlying193 rfl (by rw [JG _ HH.out]; kernel_rfl) ?_)
  | (refine wpList_store_row rfl 193 _ _ rfl m.heap.size (wds H).toArray rfl rfl 193 _ (heap_alloc_new m _) (by rw [JG _ HH.out]; kernel_rfl) (by rw [JG _ HH.out]; rfl) (US H) ?_
     rw [World.setRow_alloc_new]))
 have ag := Row.new m 193 (wds H).toArray;have b4 := (Below.refl m.heap.size m).alloc (Nat.le_refl _) (.cells (wds H).toArray 193);generalize m.alloc (.cells (wds H).toArray 193) = w4 at ag b4 ⊢;have ah := Lv (E4 (YH l) H HH.out);go_loopw [18] (fun i wr => ∃ k : Nat, i = .int .i64 (k : Int) ∧ k ≤ 64 ∧ Row wr m.heap.size 193 (wds (XC (YH l) H k)).toArray ∧ Below m.heap.size m wr) (fun i _ => (64 - intOf i).toNat)
 case atStart => exact ⟨0, by simp, by omega, ag, b4⟩
 case round =>
  clear ag b4;obtain ⟨k, rfl, hk, j, hb⟩ := hrel;by_cases aj : k < 64
  · obtain ⟨a, b, c, d, e, f, g, i, aa⟩ := AkO (ah.out k);rw [aa] at j;have am := Lv aa;clear aa;have c0 := j.cellv (i := 0) (v := .int .u32 (wd a)) rfl;have c1 := j.cellv (i := 1) (v := .int .u32 (wd b)) rfl;have c2 := j.cellv (i := 2) (v := .int .u32 (wd c)) rfl;have c4 := j.cellv (i := 4) (v := .int .u32 (wd e)) rfl;have c5 := j.cellv (i := 5) (v := .int .u32 (wd f)) rfl;have c6 := j.cellv (i := 6) (v := .int .u32 (wd g)) rfl;have c7 := j.cellv (i := 7) (v := .int .u32 (wd i)) rfl;have ck := (af.below hb (by omega)).cellv (Xk cubeL k (by show k < 64; omega));have cw := (y.below hb (by omega)).cellv (Xk (YH l) k (by rw [YH, JH _ (KB _ _)]; omega));obtain ⟨xk, ad⟩ : ∃ x, x = cubeL.getD k 0 := ⟨_, rfl⟩;obtain ⟨xw, ae⟩ : ∃ x, x = (YH l).getD k 0 := ⟨_, rfl⟩;rw [← ad] at ck;rw [← ae] at cw;have an := Lv ad;have ao := Lv ae;clear ad ae;go_wp2
    go_quiet (fail)
    go_wp2
    go_quiet ((go_at_call 157; exact ET (Ue _ _ (by omega) (by omega) _)))
    go_wp2
    go_quiet ((go_at_call 157; exact ET (Ue _ _ (by omega) (by omega) _)))
    go_wp2
    refine QX 2 (by kernel_rfl) (by kernel_rfl) ?_;simp only [LF, LP, LE, LL]
    repeat still_step
    refine wpStill_nil ?_;refine wpList_copy_own rfl _ _ 257 257 rfl 77 Tryz.underlying257 (by kernel_rfl) m.heap.size 1 7 7 ⟨m.heap.size, 0, none⟩ 7 8 rfl rfl (wds [a, b, c, d, e, f, g, i]).toArray 193 j (wds [a, b, c, d, e, f, g]) rfl ?_ (by simp [wds]) ?_ ?_
    · exact Row.from_ (cur := (wds [a, b, c, d, e, f, g, i]).toArray) j 0 (Ahm a b c d e f g i)
    · exact fun v hv => (N5.1 (US _)) v (by simpa using hv)
    generalize ac : World.setRow _ _ _ = w9;have u : Row w9 m.heap.size 193 (wds [a, a, b, c, d, e, f, g]).toArray := by rw [← ac]; exact Row.setRow (cs := (wds [a, b, c, d, e, f, g, i]).toArray) j _
    have ap : Below m.heap.size m w9 := by rw [← ac]; exact Ks (Below.drew (ZZ (ZZ (ZZ hb _) _) _)) (Nat.le_refl _) _
    clear ac c0 c1 c2 c4 c5 c6 c7 ck cw j hb;have c4 := u.cellv (i := 4) (v := .int .u32 (wd d)) rfl;have c0 := u.cellv (i := 0) (v := .int .u32 (wd a)) rfl;have f4 := u.free 4;have f0 := u.free 0;go_wp2
    go_roundw
    case rel => exact ⟨k + 1, by go_num, by omega, by rw [← Ae6 _ _ _ _ _ _ _ _ _ _ _ _ _ am.out an.out ao.out]; exact (u.set _ _).set _ _, (ap.setCell (p := ⟨m.heap.size, 0, none⟩) (Nat.le_refl _) _).setCell (p := ⟨m.heap.size, 4, none⟩) (Nat.le_refl _) _⟩
    case measure => simp [intOf]; omega
  · obtain rfl : k = 64 := by omega
    clear aj;rw [show ((64 : Nat) : Int) = 64 from rfl];have n := n.below hb (by omega);have q := q.below hb (by omega);have s := s.trans (hb.mono (by omega));have gv : w.heap.size + 2 < m.heap.size := by omega
    obtain ⟨V, hV⟩ : ∃ V, V = XC (YH l) H 64 := ⟨_, rfl⟩;have ai : V.length = 8 := by rw [hV]; exact ah.out 64
    rw [← hV] at j;have HV := Lv hV;have al := Lv ai;clear hV ai hb y af o t;obtain ⟨G, hG⟩ : ∃ G, G = m.heap.size := ⟨_, rfl⟩;rw [← hG] at j gv ⊢;clear hG;go_wp2
    go_loopw [96] (fun i wr => ∃ k : Nat, i = .int .i64 (k : Int) ∧ k ≤ 8 ∧ Row wr w.heap.size 195 (wds (XG H V k)).toArray ∧ Row wr G 193 (wds V).toArray ∧ Row wr (w.heap.size + 1 + 1) 195 (wds [0, 0, 0, 0, 0, 0, 0, 0]).toArray ∧ Below w.heap.size w wr) (fun i _ => (8 - intOf i).toNat)
    case atStart => exact ⟨0, by simp, by omega, n, j, q, s⟩
    case round =>
     clear j n q s;obtain ⟨k, rfl, hk, n, j, q, s⟩ := hrel;by_cases ab : k < 8
     · have c0 := n.cellv (Xk _ k (by rw [XH _ _ HH.out]; exact ab));have c1 := j.cellv (Xk _ k (by rw [al.out]; exact ab));have f0 := n.free k;have aq : (k : Int) < 8 := by omega
       go_wp2
       refine QX 10 (by kernel_rfl) (by kernel_rfl) ?_;simp only [LF, LP, LE, LL]
       repeat still_step
       refine wpStill_nil ?_;go_wp2
       go_roundw
       case rel => exact ⟨k + 1, by go_num, by omega, by rw [← Ag4]; exact n.drew.set _ _, (j.drew).far (by show G ≠ w.heap.size; omega) _, (q.drew).far (by show w.heap.size + 1 + 1 ≠ w.heap.size; omega) _, s.drew.setCell (p := ⟨w.heap.size, k, none⟩) (Nat.le_refl _) _⟩
       case measure => simp [intOf]; omega
     · obtain rfl : k = 8 := by omega
       clear ab;have ak : (wds (XG H V 8)).toArray.size = 8 := JG _ (XH _ _ HH.out 8);have z := Lv ak;clear ak
       go_wp2_with (first
        | (refine wpList_load_row rfl 195 _ rfl w.heap.size rfl 195 (wds (XG H V 8)).toArray (0, 0) _ n Tryz.underlying195 rfl (by rw [z.out]; kernel_rfl) ?_)
        | (refine wpList_store_row rfl 195 _ _ rfl (w.heap.size + 1 + 1) (wds (XG H V 8)).toArray rfl rfl 195 _ q (by rw [z.out]; kernel_rfl) (by rw [z.out]; rfl) (US _) ?_))
       exact bodyPost_ret (v := .agg (wds (XG H V 8)).toArray) (results_cell_row Tryz.results119 _ _ (w.heap.size + 1 + 1) 195 _ (0, 0) _ rfl (q.setRow _) Tryz.underlying195 rfl (by rw [z.out]; kernel_rfl)) rfl ⟨by rw [Y1, ← HV.out], Ks s (by omega) _⟩
end Go.Proofs.YtkoikjnlpifbjaaGreat
namespace Go.Proofs.YtkoikjnlpifbjaaGreat
open Go.RowKit Go.Deep
def Aaq (x : BitVec 32) : List UInt8 := [UInt8.ofNat (x >>> 24).toNat, UInt8.ofNat (x >>> 16).toNat, UInt8.ofNat (x >>> 8).toNat, UInt8.ofNat x.toNat]
def Xy (H : List (BitVec 32)) : List UInt8 := H.flatMap Aaq
theorem Aeh (H : List (BitVec 32)) : (Xy H).length = 4 * H.length := by
 induction H with
 | nil => rfl
 | cons a l ih => simp only [Xy, LI, Lf, Le] at ih ⊢; rw [ih]; simp [Aaq]; omega
theorem AcB (H : List (BitVec 32)) (k : Nat) (h : k < H.length) : Xy (H.take (k + 1)) = Xy (H.take k) ++ Aaq (H.getD k 0) := by
 rw [N9 h, Xy, LD];simp [Xy, List.getD, La h]
theorem AiZ (x : BitVec 32) : wd x % (256 : Int) = ((UInt8.ofNat x.toNat).toNat : Int) := by
 unfold wd; simp
theorem Agn (w : World) : (isAgg 77).run Tryz.prog w = .ok false w := by
 unfold isAgg; simp [run_underlying Tryz.underlying77]
theorem Aib (H : List (BitVec 32)) (i : Nat) (hi : i < H.length) (w : World) : (part 77 (wds H).toArray i).run Tryz.prog w = .ok (.int .u32 (wd (H.getD i 0))) w := by
 unfold part;rw [Sem.run_bind, Agn];simp only [Result.andThen_ok, Bool.false_eq_true, if_false, Xk H i hi];rfl
theorem AfJ (x : BitVec 32) : [Value.int .u8 (wd (x >>> 24) % (256 : Int)), .int .u8 (wd (x >>> 16) % (256 : Int)), .int .u8 (wd (x >>> 8) % (256 : Int)), .int .u8 (wd x % (256 : Int))] = u8s (Aaq x) := by
 simp only [AiZ, u8s, Aaq, LQ, Np]
attribute [local go_sem] AiD AiC AjX
theorem Af2 (H : List (BitVec 32)) (hH : H.length = 8) (w : World) :
 Calls Tryz.prog 120 #[.agg (wds H).toArray] w fun e w' => e = .returned (.string ⟨(Xy H).toArray⟩) ∧ Below w.heap.size w w' := by
 have h := Lv hH;clear hH;obtain ⟨i0, o, s, t, u⟩ := info_parts VM;have r0 := Row.new w 195 (wds H).toArray;have y := (Below.refl w.heap.size w).alloc (Nat.le_refl _) (.cells (wds H).toArray 195);have s0 : w.heap.size + 1 ≤ (w.alloc (.cells (wds H).toArray 195)).heap.size := by simp
 go_enter Tryz.func120, Tryz.ntmps120
 go_wp2_with (first
  | (refine wpList_load_row rfl 193 _ rfl w.heap.size rfl 195 (wds H).toArray (0, 0) _ r0 Tryz.underlying193 rfl (by rw [JG _ h.out]; kernel_rfl) ?_))
 generalize w.alloc (.cells (wds H).toArray 195) = w1 at r0 y s0 ⊢;go_loopw [3, 8] (fun v i wr => ∃ k : Nat, i = .int .i64 (k : Int) ∧ k ≤ 8 ∧ wr.ownsRow (w.heap.size + 1) 5 1 v (4 * k) (u8s (Xy (H.take k))) ∧ Below w.heap.size w wr ∧ w.heap.size + 1 ≤ wr.heap.size) (fun _ i _ => (8 - intOf i).toNat)
 case atStart => exact ⟨0, by simp, by omega, World.ownsRow_nil _ _ _ _, y, s0⟩
 case round =>
  obtain ⟨k, rfl, hk, b, j, hs⟩ := hrel;by_cases d : k < 8
  · have g := AaF (P := Tryz.prog) wr 193 77 8 (wds H).toArray .i64 k _ Tryz.underlying193 (Aib H k (by rw [h.out]; exact d) wr) (by kernel_rfl) d;obtain ⟨x, q⟩ : ∃ x, x = H.getD k 0 := ⟨_, rfl⟩;rw [← q] at g;have Hx := Lv q;clear q;have z : (k : Int) < 8 := by omega
    go_wp2_with (
     (at_builtin
      refine wpList_append_own _ rfl (.tmp 11) (.tmp 23) 250 rfl (w.heap.size + 1) 5 i0 (.int .u8 0) 1 1 Tryz.underlying250 o s t u rfl (by decide) _ _ _ rfl (b.alloc _) ⟨wr.heap.size, 0, none⟩ 4 4 [.int .u8 (wd (x >>> 24) % (256 : Int)), .int .u8 (wd (x >>> 16) % (256 : Int)), .int .u8 (wd (x >>> 8) % (256 : Int)), .int .u8 (wd x % (256 : Int))] rfl rfl (JK _ _ _) ?c2 (by unfold maxLen; omega) (by omega) (by simp; omega) ?_))
    case c2 => rw [AfJ]; exact VA _
    intro v' w2 c n _;have l := QK (j.alloc (by omega) _) (b.alloc _) n (by simp; omega) (by omega);have p := n.size;rw [World.size_alloc] at p;rw [AfJ, Hx.out] at c;clear n g b j;go_wp2
    go_roundw
    case rel => exact ⟨k + 1, by go_num, by omega, by rw [AcB H k (by rw [h.out]; exact d), Ug]; exact c, l, by omega⟩
    case measure => simp [intOf]; omega
  · obtain rfl : k = 8 := by omega
    clear d;rw [show ((8 : Nat) : Int) = 8 from rfl];rw [LA (by rw [h.out]; omega)] at b;have m := J6 (P := Tryz.prog) 250 9 5 Tryz.underlying250 Tryz.underlying5 Tryz.underlying9 _ b;clear b;go_wp2
    go_ret
    exact ⟨rfl, j⟩
end Go.Proofs.YtkoikjnlpifbjaaGreat
namespace Go.Proofs.YtkoikjnlpifbjaaGreat
open Go.RowKit Go.Deep
attribute [local go_sem] Oper.semAt_some
abbrev Vl := { l : List UInt8 // l.length = 64 }
def Afr (l : List UInt8) (h : 64 ≤ l.length) : Vl := ⟨l.take 64, by simp; omega⟩
def Kc : Nat → List UInt8 → List Vl
 | 0, _ => []
 | n + 1, l => if h : 64 ≤ l.length then Afr l h :: Kc n (l.drop 64) else []
def Ake (w : World) (b : Nat) : Nat := match w.cell? ⟨b, 0, none⟩ with | some (.string s) => s.size | _ => 0
theorem AaV : ∀ (n k : Nat) (l : List UInt8), k < n → 64 * (k + 1) ≤ l.length → ∃ c : Vl, (Kc n l)[k]? = some c ∧ c.1 = (l.drop (64 * k)).take 64
 | 0, k, l, h, _ => by omega
 | n + 1, 0, l, _, h => by
  rw [Kc, dif_pos (by omega)]
  exact ⟨_, rfl, by simp [Afr]⟩
 | n + 1, k + 1, l, h, h2 => by
  rw [Kc, dif_pos (by omega)]
  obtain ⟨c, h3, h4⟩ := AaV n k (l.drop 64) (by omega) (by simp; omega)
  exact ⟨c, by simpa using h3, by rw [h4, Nn, Nat.mul_add, Nat.add_comm]⟩
theorem Eg : ∀ (n : Nat) (l : List UInt8), 64 * n ≤ l.length → (Kc n l).length = n
 | 0, l, _ => rfl
 | n + 1, l, h => by
  rw [Kc, dif_pos (by omega), Le, Eg n (l.drop 64) (by simp; omega)]
theorem AcN (l : List UInt8) (k : Nat) (x : Vl) (hx : x.1 = (l.drop (64 * k)).take 64) (h : 64 * (k + 1) ≤ l.length) :
 (Kc (l.length / 64) l).take (k + 1) = (Kc (l.length / 64) l).take k ++ [x] := by
 obtain ⟨c, b, e⟩ := AaV (l.length / 64) k l (by omega) h;have d : k < (Kc (l.length / 64) l).length := (Ld.1 b).1;rw [N9 d];rw [La d] at b;have : c = x := Subtype.ext (e.trans hx.symm);rw [← this];injection b with b;rw [b]
theorem UW (w : World) (e : TypeId) (s : ByteArray) : w.grownBy (Lib.bytesWorld w e s) none :=
 ⟨rfl, rfl, rfl, by rw [Lib.bytesWorld_size]; omega, fun k hk _ => Lib.bytesWorld_at_old w e s k hk⟩
theorem AbC (bs : Nat) (s : List UInt8) (hs : s.length ≤ 2000000) (w : World) (hrow : Row w bs 9 #[.string ⟨s.toArray⟩]) :
 Acs Tryz.prog 154 #[.pointer (some ⟨bs, 0, none⟩)] (fun x : Vl => #[.agg (u8s x.1).toArray]) (· = bs) (fun A B => B.heap[bs]? = A.heap[bs]? ∧ A.heap.size ≤ B.heap.size) (fun xs => xs = Kc (s.length / 64) s) (fun _ => True) (s.length / 64) w := by
 intro l J Jx W _ ad hJ ap hY h0;refine callsIn_of_wp Tryz.func154 rfl trivial ?_ rfl;simp only [Tryz.ntmps154, Lm, Le, Lu, Nat.reduceAdd, Nat.reduceSub, Lk, Ll, Ly, LH, Lp, Ln];gi_wp2;have aj : Row W bs 9 #[.string ⟨s.toArray⟩] := (ad.block bs hrow.lt (by simp)).trans hrow;clear hrow ad;gi_loopw [3] (fun _ wr => ∃ (k : Nat) (q : ByteArray), q.data.toList = s.drop (64 * k) ∧ 64 * k ≤ s.length ∧ Row wr bs 9 #[.string q] ∧ J ((Kc (s.length / 64) s).take k) wr) (fun _ wr => Ake wr bs)
 case atStart => exact ⟨0, ⟨s.toArray⟩, by simp, by omega, aj, by simpa using h0⟩
 case round =>
  obtain ⟨k, q, hq, hk, hr, p⟩ := hrel
  have aa : q.size + 64 * k = s.length := by
   have := congrArg List.length hq;simp at this; omega
  have Hq := Lv hq;have d := Lv aa;clear hq aa;have hc := hr.cellv (i := 0) (v := .string q) rfl;have hf := hr.free 0;by_cases ao : 64 ≤ q.size
  · have b := fun w => Lib.run_convert_string_bytes (P := Tryz.prog) w 9 250 5 (q.extract 0 64) Tryz.underlying9 Tryz.underlying250 Tryz.underlying5
    have u : (q.extract 0 64).size = 64 := by simp; omega
    simp only [u] at b;have ah := Lv u;have o := fun w => run_arrayAt (P := Tryz.prog) w 201 5 64 (some ⟨wr.heap.size, 0, none⟩) 64 (grownCap wr 64 0 5) Tryz.underlying201 (Nat.le_refl _)
    clear u;obtain ⟨x, hx⟩ : ∃ x : Vl, x.1 = (q.extract 0 64).data.toList := ⟨⟨(q.extract 0 64).data.toList, by have := ah.out; simpa using this⟩, rfl⟩
    have c : ∀ j v, (u8s x.1)[j]? = some v → (Lib.bytesWorld wr 5 (q.extract 0 64)).cell? ⟨wr.heap.size, j, none⟩ = some v := by
     intro j v hv;rw [Yc, hx] at hv
     have p : j < (q.extract 0 64).size := by
      rcases Nat.lt_or_ge j (q.extract 0 64).data.toList.length with h | h
      · simpa using h
      · rw [Nt h] at hv; cases hv
     rw [Lib.bytesWorld_cell _ _ _ j p, ← hv, List.getD, La (by simpa using p)];rfl
    have g := Lv c;have Hx := Lv hx;have m : wr.grownBy (Lib.bytesWorld wr 5 (q.extract 0 64)) none := UW _ _ _;have t := hJ _ _ _ none p m (fun r e => by cases e);have ab : Row (Lib.bytesWorld wr 5 (q.extract 0 64)) bs 9 #[.string q] := (m.block bs hr.lt (by simp)).trans hr;have av : k < s.length / 64 := by have := d.out; omega
    obtain ⟨fn, an, ae, am, hy, hR⟩ := hY _ x _ t (by rw [L7]; omega);have al := Lv m;have HR := Lv hR;have ag := Lv ab;clear c hx m p ab hr hR;gi_wp2_with (refine Uj rfl 201 _ rfl wr.heap.size rfl (u8s x.1) _ g.out Tryz.underlying201 rfl (by rw [Uh, x.2]; kernel_rfl) ?_);refine ⟨rfl, HR.out.mono ?_⟩;rintro e W' (⟨rfl, y, z, aw⟩ | ⟨rfl, ai⟩)
    · have n : Row W' bs 9 #[.string q] := z.trans ag.out;have aq := n.cellv (i := 0) (v := .string q) rfl;have ar := n.free 0;have af := Lv y;clear y z t hy hf b o;gi_wp2;go_roundw
      case rel =>
       refine ⟨k + 1, q.extract 64 q.size, ?_, by have := d.out; omega, n.set _ _, ?_⟩
       · have := Hq.out;simp only [ByteArray.data_extract, Array.toList_extract, List.extract_eq_take_drop, this, Nn];rw [LA (by simp; have := d.out; omega), Nat.mul_add]
       · refine hJ _ _ _ (some bs) ?_ (grownBy_setCell' _ _ _) (fun r e => by cases e; exact .inl rfl);rw [AcN s k x (by rw [Hx.out]; simp [Hq.out]) (by have := d.out; omega)];exact af.out
      case measure =>
       have ak := n.set 0 (.string (q.extract 64 q.size));have ac := ak.cell 0;unfold Ake;rw [ac, hc];simp; omega
    · clear t hy b o;gi_wp2;refine bodyPost_ret (results_none rfl _ _ _) rfl ?_;exact ⟨⟨_, rfl⟩, .inr ⟨_, trivial, ai⟩⟩
  · gi_wp2;go_end0
    refine ⟨⟨_, rfl⟩, .inl ⟨_, rfl, ?_⟩⟩;have au : k = s.length / 64 := by have := d.out; omega
    rw [LA (by rw [Eg _ _ (by omega)]; omega)] at p;exact p
end Go.Proofs.YtkoikjnlpifbjaaGreat
namespace Go.Proofs.YtkoikjnlpifbjaaGreat
open Go.RowKit Go.Deep
def AdK (R L k i : Nat) : UInt8 := if i = 0 then 128 else if i + k < L then 0 else UInt8.ofNat (R / 256 ^ (L - 1 - i))
def ER (R L k : Nat) : List UInt8 := (List.range L).map (AdK R L k)
def AbT (R L k : Nat) : Array Value := (u8s (ER R L k)).toArray
theorem VQ (R L k i : Nat) : (AbT R L k)[i]? = if i < L then some (.int .u8 ((AdK R L k i).toNat : Int)) else none := by
 unfold AbT ER;simp only [NI, Yc, L6];by_cases h : i < L <;> simp [h]
theorem AgD (R L k : Nat) : (AbT R L k).size = L := by simp [AbT, ER, u8s]
theorem AgE (R L k : Nat) (hk : k + 1 < L) : (AbT R L k).setIfInBounds (L - 1 - k) (.int .u8 ((UInt8.ofNat (R / 256 ^ k)).toNat : Int)) = AbT R L (k + 1) := by
 apply Array.ext_getElem?;intro i;rw [NH, VQ, VQ, AgD];by_cases hi : L - 1 - k = i
 · subst hi;rw [if_pos rfl, if_pos (by omega), if_pos (by omega)];unfold AdK;rw [if_neg (by omega), if_neg (by omega), show L - 1 - (L - 1 - k) = k from by omega]
 · rw [if_neg hi];by_cases b : i < L
   · rw [if_pos b, if_pos b];congr 4;unfold AdK;by_cases c : i = 0
     · simp [c]
     · rw [if_neg c, if_neg c];by_cases d : i + (k + 1) < L
       · rw [if_pos d, if_pos (by omega)]
       · rw [if_neg d, if_neg (by omega)]
   · rw [if_neg b, if_neg b]
theorem AeZ (R L : Nat) (cs : Array Value) (hs : cs.size = L) (h : ∀ i, i < L → cs[i]? = some (.int .u8 0)) : cs.setIfInBounds 0 (.int .u8 128) = AbT R L 0 := by
 apply Array.ext_getElem?;intro i;rw [NH, VQ, hs];by_cases hi : 0 = i
 · subst hi;rw [if_pos rfl];by_cases b : 0 < L <;> simp [b, AdK]
 · rw [if_neg hi];by_cases b : i < L
   · rw [if_pos b, h i b];unfold AdK;rw [if_neg (by omega), if_pos (by omega)]; rfl
   · rw [if_neg b, NC (by omega)]
theorem Ajt (z : Value) (n i : Nat) (h : i < n) : (madeCells #[z] n)[i]? = some z := by
 unfold madeCells;simp [h, Nat.mod_one]
theorem AkA (q : Nat) : ((q : Int) % 256) = ((UInt8.ofNat q).toNat : Int) := by simp
theorem AhG (L k : Nat) : (L : Int) - 1 - (k : Int) - 1 = (L : Int) - 1 - ((k + 1 : Nat) : Int) := by omega
theorem Ahr (R k : Nat) : ((R / 256 ^ k : Nat) : Int) / 256 = ((R / 256 ^ (k + 1) : Nat) : Int) := by
 rw [Nat.pow_succ, ← Nat.div_div_eq_div_mul]; omega
def Ae0 (n : Nat) : Nat := 72 - (n + 8) % 64
def Uz (n : Nat) : List UInt8 := ER (n * 8 % 18446744073709551616) (Ae0 n) 8
theorem AgF (R L k : Nat) (hk : k ≤ 8) (h : R / 256 ^ k = 0) : ER R L k = ER R L 8 := by
 unfold ER;apply List.map_congr_left;intro i hi;unfold AdK;by_cases b : i = 0
 · simp [b]
 · rw [if_neg b, if_neg b];by_cases c : i + 8 < L
   · rw [if_pos (by omega), if_pos c]
   · rw [if_neg c];by_cases d : i + k < L
     · rw [if_pos d]
       have : R / 256 ^ (L - 1 - i) = 0 := by
        have e : 256 ^ k ≤ 256 ^ (L - 1 - i) := Nat.pow_le_pow_right (by omega) (by omega);rw [Nat.div_eq_zero_iff] at h ⊢;rcases h with h | h
        · exact absurd h (Nat.pos_iff_ne_zero.1 (Nat.pow_pos (by omega)))
        · exact .inr (by omega)
       rw [this]; rfl
     · rw [if_neg d]
theorem AjD (n : Int) (h0 : 0 ≤ n) (h1 : n ≤ 9223372036854775807) (w : World) :
 Calls Tryz.prog 118 #[.int .i64 n] w fun e w' => e = .returned (.string ⟨(Uz n.toNat).toArray⟩) ∧ Below w.heap.size w w' := by
 obtain ⟨L, hL, ae, ac⟩ : ∃ L : Nat, 72 - (n + 8) % 64 = (L : Int) ∧ 9 ≤ L ∧ L ≤ 72 := ⟨(72 - (n + 8) % 64).toNat, by omega, by omega, by omega⟩;obtain ⟨t, m⟩ : ∃ t, t = madeCells #[Value.int .u8 0] L := ⟨_, rfl⟩;have ab := run_make_row' (P := Tryz.prog) 250 5 (.int .u8 0) 1 Tryz.underlying250 VM rfl .i64 .i64 L (by omega) (by omega);have g : ∀ i, i < L → t[i]? = some (.int .u8 0) := fun i hi => by rw [m]; exact Ajt _ _ _ hi
 have o := size_madeCells #[Value.int .u8 0] L;rw [← m] at ab o;have ad : t[0]? = some (.int .u8 0) := g 0 (by omega)
 obtain ⟨R, hR, d⟩ : ∃ R : Nat, IntKind.u64.wrap (n * 8) = (R : Int) ∧ R < 18446744073709551616 := by
  rw [IntKind.wrap_u64]; exact ⟨((n * 8) % 18446744073709551616).toNat, by omega, by omega⟩
 have s := Lv d;have z := Lv g;have aa := Lv o
 have c : Hid (ER R L 8 = Uz n.toNat) := by
  unfold Uz;rw [show Ae0 n.toNat = L from by unfold Ae0; omega, show n.toNat * 8 % 18446744073709551616 = R from by rw [IntKind.wrap_u64] at hR; omega]; rfl
 clear m g o d;go_enter Tryz.func118, Tryz.ntmps118
 go_wp2
 go_loopw [4, 5] (fun i r wr => ∃ k : Nat, i = .int .i64 ((L : Int) - 1 - (k : Int)) ∧ r = .int .u64 ((R / 256 ^ k : Nat) : Int) ∧ k ≤ 8 ∧ Row wr w.heap.size 5 (AbT R L k) ∧ Below w.heap.size w wr) (fun _ r _ => (intOf r).toNat)
 case atStart => exact ⟨0, by simp, by simp, by omega, by rw [← AeZ R L t aa.out z.out]; exact Row.new _ _ _, (Below.refl _ _).alloc (Nat.le_refl _) _⟩
 case round =>
  obtain ⟨k, rfl, rfl, hk, b, hb⟩ := hrel;by_cases x : R / 256 ^ k = 0
  · have l := Xu (P := Tryz.prog) 250 9 5 5 Tryz.underlying250 Tryz.underlying5 Tryz.underlying9 (cap := L) b (ER R L k) (n := L) (by simp [ER]) (fun j hj => by simp [AbT]);rw [AgF R L k hk x, c.out] at l;have y : ((R / 256 ^ k : Nat) : Int) = 0 := by omega
    rw [y];clear x y c;go_wp2
    go_ret
    exact ⟨rfl, hb⟩
  · have af : k < 8 := by
     rcases Nat.lt_or_ge k 8 with h | h
     · exact h
     · obtain rfl : k = 8 := by omega
       exact absurd (Nat.div_eq_of_lt s.out) x
    have u : 0 < R / 256 ^ k := Nat.pos_of_ne_zero x;obtain ⟨q, hq⟩ : ∃ q, q = R / 256 ^ k := ⟨_, rfl⟩;rw [← hq] at x u ⊢;have Hq := Lv hq;clear hq;have hc := b.cellv (i := L - 1 - k) (v := .int .u8 ((AdK R L k (L - 1 - k)).toNat : Int)) (by rw [VQ, if_pos (by omega)]);have hf := b.free (L - 1 - k);go_wp2
    go_roundw
    case rel => exact ⟨k + 1, by rw [AhG], by rw [← Ahr, Hq.out], by omega, by rw [← AgE R L k (by omega), AkA, Hq.out]; exact b.set _ _, hb.setCell (p := ⟨w.heap.size, L - 1 - k, none⟩) (Nat.le_refl _) _⟩
    case measure => simp [intOf]; omega
attribute [local go_sem] Oper.semAt_some
theorem AaG (s : ByteArray) (w : World) :
 Calls Tryz.prog 117 #[.string s] w fun e w' => e = .returned (.func (.func 154) #[] #[.pointer (some ⟨w.heap.size, 0, none⟩)]) ∧ w.alloc (.cells #[.string s] 9) = w' := by
 go_enter Tryz.func117, Tryz.ntmps117
 go_wp2
 go_ret
 exact ⟨rfl, rfl⟩
def KC (H : List (BitVec 32)) (l : List Vl) : List (BitVec 32) := l.foldl (fun H c => Y1 H c.1) H
def Air (s : List UInt8) : List UInt8 := Xy (KC KH (Kc ((s ++ Uz s.length).length / 64) (s ++ Uz s.length)))
theorem KN : ∀ (l : List Vl) (H : List (BitVec 32)), H.length = 8 → (KC H l).length = 8
 | [], _, h => h
 | _ :: l, _, h => KN l _ (XH _ _ h 8)
theorem Ah8 (n : Nat) : (Uz n).length = Ae0 n := by simp [Uz, ER]
theorem AjC (n : Nat) : 9 ≤ Ae0 n ∧ Ae0 n ≤ 72 := by unfold Ae0; omega
theorem AjR (s : ByteArray) (hs : s.size ≤ 1000000) (w : World) :
 Calls Tryz.prog 81 #[.string s] w fun e w' => e = .returned (.string ⟨(Air s.data.toList).toArray⟩) ∧ Below w.heap.size w w' := by
 refine (callsIn_wide (n := 0)).1 ?_;refine callsIn_of_wp_marks Tryz.func81 rfl trivial ?_;simp only [Tryz.ntmps81, Lm, Le, Lu, Nat.reduceAdd, Nat.reduceSub, Lk, Ll, Ly, LH, Lp, Ln];gi_wp2_with fail
 refine ⟨trivial, rfl, (callsIn_wide.2 (AgQ w)).mono ?_⟩;rintro e w1 ⟨rfl, b1⟩;gi_wp2_with (refine Q5 rfl 195 _ _ rfl w1.heap.size (wds KH).toArray rfl rfl 195 _ (heap_alloc_new w1 _) (by kernel_rfl) rfl (US _) ?_; rw [World.setRow_alloc_new]);have rh := Row.new w1 195 (wds KH).toArray;have b2 := b1.alloc b1.size (.cells (wds KH).toArray 195);have g1 := b1.size;obtain ⟨G, hG⟩ : ∃ G, G = w1.heap.size := ⟨_, rfl⟩;rw [← hG] at rh g1 ⊢;clear hG;have lh := rh.lt;generalize w1.alloc (.cells (wds KH).toArray 195) = w2 at rh b2 lh ⊢;clear b1;refine ⟨trivial, rfl, (callsIn_wide.2 (AjD (s.size : Int) (by omega) (by omega) w2)).mono ?_⟩;rw [L1];rintro e w3 ⟨rfl, b3⟩;have ac := rh.below b3 lh;have z := b2.trans (b3.mono b2.size);have l3 := b3.size;clear b3 b2 rh;have am : (Uz s.size).length ≤ 72 := by rw [Ah8]; exact (AjC _).2
 gi_wp2_with fail
 have hq : (s ++ (⟨(Uz s.size).toArray⟩ : ByteArray)).data.toList = s.data.toList ++ Uz s.data.toList.length := by simp
 have an : (s ++ (⟨(Uz s.size).toArray⟩ : ByteArray)).size ≤ 1000072 := by rw [ByteArray.size_append, VU (Uz s.size)]; omega
 generalize (s ++ (⟨(Uz s.size).toArray⟩ : ByteArray)) = q at hq an ⊢;have Hq := Lv hq;clear hq am;refine ⟨trivial, rfl, (callsIn_wide.2 (AaG q w3)).mono ?_⟩;rintro e w4 ⟨rfl, aj⟩;have rb := Row.new w3 9 #[.string q];have ak := ac.alloc (.cells #[.string q] 9);have b4 := z.alloc z.size (.cells #[.string q] 9);have g4 : G < w3.heap.size := ac.lt;have af : (w3.alloc (.cells #[.string q] 9)).heap.size = w3.heap.size + 1 := by simp
 rw [aj] at rb ak b4 af;obtain ⟨u, ag⟩ : ∃ u, u = w3.heap.size := ⟨_, rfl⟩;rw [← ag] at rb g4 af ⊢;clear ag aj ac z l3 lh;have gB : w.heap.size ≤ u := by omega
 have ai : q.data.toList.length ≤ 2000000 := by simp; omega
 have ae := Lv (AbC u q.data.toList ai w4 rb);gi_wp2
 refine AbW (gf := 154) (lb := #[.pointer (some ⟨u, 0, none⟩)]) rfl (enters_of Tryz.func154 (by kernel_rfl) rfl) ae.out (fun r h => by subst h; omega)
  (fun h k => ⟨k.1.trans h.1, Li h.2 k.2⟩) (fun W l o o' hl ho hc => ⟨by rw [World.putObj_heap_other (by omega)], by simp⟩) (World.grownBy.refl _ _) (fun _ => rfl)
  (fun g W => Row W G 195 (wds (KC KH g)).toArray ∧ Below w.heap.size w W ∧ u < W.heap.size) (fun _ _ _ => False) ?hI ?hIx ⟨ak, b4, by omega⟩
  (fun x a' W => ∃ v, u < v ∧ Row W v 201 (u8s x.1).toArray ∧ a' = { tmps := #[.string s, undef, .string ⟨#[]⟩, .pointer (some ⟨G, 0, none⟩), .pointer (some ⟨v, 0, none⟩), undef, .agg (wds KH).toArray, .string s, .string s, .int .i64 s.size, .string ⟨(Uz s.size).toArray⟩, .string q, .func (.func 154) #[] #[.pointer (some ⟨u, 0, none⟩)], .agg (u8s x.1).toArray, undef, undef, undef, undef, undef, undef, undef], defers := [] }) ?hAx ?assign ?body ?done ?stop
 case hI =>
  intro g A B row hs hg d;refine ⟨(hg.block G hs.1.lt (fun e => ?_)).trans hs.1, hs.2.1.grown hg hs.2.1.size (fun k hk => ?_), Lg hs.2.2 hg.size⟩
  · rcases d _ e.symm with h | ⟨h, _⟩ <;> omega
  · rcases d _ hk with h | ⟨h, _⟩ <;> omega
 case hIx => exact fun _ _ _ _ _ h _ _ => h
 case hAx =>
  rintro x a' _ A B row ⟨v, h1, h2, h3⟩ hg d;refine ⟨v, h1, (hg.block v h2.lt (fun e => ?_)).trans h2, h3⟩;rcases d _ e.symm with h | ⟨_, o, ho, hc⟩
  · omega
  · rw [h2] at ho; cases ho; cases hc
 case assign =>
  rintro l g x W K ⟨d, p, t⟩ hK;have hx : (u8s x.1).toArray.size = 64 := Ad0 _ x.2;have Hx := Lv hx;clear hx;have HK := Lv hK;clear hK;gi_wp2_with (refine Q5 rfl 201 _ _ rfl W.heap.size (u8s x.1).toArray rfl rfl 201 _ (heap_alloc_new W _) (by rw [Hx.out]; kernel_rfl) (by rw [Hx.out]; rfl) (AjU _) ?_; rw [World.setRow_alloc_new]);exact HK.out _ _ (KeepsFrom.alloc _ _ _) ⟨Below.heap_alloc _ _ _ t, by simp⟩ ⟨d.alloc _, p.alloc p.size _, by simp; omega⟩ ⟨_, t, Row.new _ _ _, rfl⟩
 case body =>
  rintro l g x a' W hl _ ⟨d, p, t⟩ ⟨v, ap, ao, rfl⟩ _;have hx : (u8s x.1).toArray.size = 64 := Ad0 _ x.2;obtain ⟨H, m⟩ : ∃ H, H = KC KH g := ⟨_, rfl⟩;have j : H.length = 8 := by rw [m]; exact KN _ _ rfl
  rw [← m] at d;have Hx := Lv hx;have HH := Lv m;have b := Lv j;clear hx m j
  gi_wp2_with (first
   | (refine Q7 rfl 195 _ rfl G rfl 195 (wds H).toArray (0, 0) _ d Tryz.underlying195 rfl (by rw [JG _ b.out]; kernel_rfl) ?_)
   | (refine Q7 rfl 201 _ rfl v rfl 201 (u8s x.1).toArray (0, 0) _ ao Tryz.underlying201 rfl (by rw [Hx.out]; kernel_rfl) ?_))
  refine ⟨trivial, rfl, (CallsIn.inRound l (callsIn_wide.2 (Af1 H b.out x.1 x.2 W))).mono ?_⟩;rintro e W2 ⟨rfl, i⟩;have ab := d.below i d.lt;have hn : (Y1 H x.1).length = 8 := XH _ _ b.out 8;have Hn := Lv hn;clear hn;gi_wp2_with (refine Q5 rfl 195 _ _ rfl G (wds (Y1 H x.1)).toArray rfl rfl 195 _ ab (by rw [JG _ Hn.out]; kernel_rfl) (by rw [JG _ Hn.out, JG _ b.out]) (US _) ?_);refine ⟨(KeepsFrom.of_below i).trans (KeepsFrom.setRow ab _), ⟨(Ab9 _ _ _ _ (by omega)).trans (i.block _ t), Li i.size (by simp [World.setRow])⟩, ?_, ?_, ?_⟩
  · have := ab.setRow (wds (Y1 H x.1)).toArray;have e : Y1 H x.1 = KC KH (g ++ [x]) := by rw [HH.out, KC, KC, List.foldl_append]; rfl
    rw [e] at this;rw [e]; exact this
  · exact Ks (p.trans (i.mono p.size)) g1 _
  · have := i.size; simp [World.setRow]; omega
 case stop => exact fun D c g W _ _ h _ => h.elim
 case done =>
  rintro D ys W hD rfl ⟨d, p, _⟩ hK;obtain ⟨H, m⟩ : ∃ H, H = KC KH (Kc (q.data.toList.length / 64) q.data.toList) := ⟨_, rfl⟩;have j : H.length = 8 := by rw [m]; exact KN _ _ rfl
  have y : Xy H = Air s.data.toList := by rw [m, Hq.out]; rfl
  rw [← m] at d;have b := Lv j;have ad := Lv y;have HK := Lv hK;clear m j y hK;gi_wp2_with (refine Q7 rfl 195 _ rfl G rfl 195 (wds H).toArray (0, 0) _ d Tryz.underlying195 rfl (by rw [JG _ b.out]; kernel_rfl) ?_);refine ⟨trivial, rfl, (callsIn_wide.2 (Af2 H b.out W)).mono ?_⟩;rintro e W5 ⟨rfl, aa⟩;have ah : W5.heap[D]? = some (.deferred (some [])) := (aa.block D (Lt.1 HK.out).1).trans HK.out;rw [ad.out];have al := Lv ah;clear ah HK d;gi_wp2;refine ⟨by simp, .inl ⟨_, _, rfl, run_takeDeferred al.out, ?_⟩⟩;exact ⟨_, results_tmp rfl _ _ _, rfl, (p.trans (aa.mono p.size)).grown (grownBy_putObj' _ _ _) (Li p.size aa.size) (fun k e => by cases e; omega)⟩
end Go.Proofs.YtkoikjnlpifbjaaGreat
namespace Go.Proofs.YtkoikjnlpifbjaaGreat
open Go.RowKit Go.Deep
def part (l : List UInt8) (n j : Nat) : List UInt8 := l.take j ++ List.replicate (n - j) 0
def Yi (r : RunV) : List UInt8 := Air (Uf r.kind r.value r.evs)
theorem Yb (r : RunV) (w : World) (hok : r.ok w) (hl : r.evs.length ≤ 10000) :
 Calls Tryz.prog 52 #[r.val] w fun e w' => e = .returned (.string ⟨(Yi r).toArray⟩) ∧ Below w.heap.size w w' := by
 have b := Lv hok;have i := Lv hl;clear hok hl;go_enter Tryz.func52, Tryz.ntmps52
 rw [show r.val = .agg r.cells from rfl];go_wp2_with (refine Qm _ _ rfl ?_)
 refine Stop.to ?_;refine Qe rfl 114 _ rfl r.cells rfl ?_;intro G j l m g;have g := (Below.refl w.heap.size w).trans (g.mono l);have c : r.ok j := ⟨b.out.kind, b.out.value, b.out.steps, b.out.len, b.out.cap, b.out.nil, b.out.reads.go g, b.out.evs⟩;have d := Lv c;clear c;go_wp2_with (refine wpList_load_row rfl 114 _ rfl G rfl 114 r.cells (0, 0) _ m Tryz.underlying114 rfl (by kernel_rfl) ?_)
 refine (AdY r j d.out (by have := i.out; omega)).mono ?_;rintro e n ⟨rfl, h⟩;have h := g.trans (h.mono g.size);go_wp2_with fail
 refine (AjR ⟨(Uf r.kind r.value r.evs).toArray⟩ (by rw [VU]; have := Afb r.kind r.value r.evs; have := i.out; omega) n).mono ?_;rintro e o ⟨rfl, k⟩;go_wp2_with fail
 go_ret
 exact ⟨rfl, h.trans (k.mono h.size)⟩
theorem Ais (l : List UInt8) : (Air l).length = 32 := by
 rw [Air, Aeh, KN _ _ rfl]
theorem AcT (r : RunV) : (Yi r).length = 32 := Ais _
theorem RunV.ok.ok_go {r : RunV} {w w' : World} (h : r.ok w) (b : Below w.heap.size w w') : r.ok w' :=
 ⟨h.kind, h.value, h.steps, h.len, h.cap, h.nil, h.reads.go b, h.evs⟩
instance St.runok {r : RunV} : St (fun W => r.ok W) := ⟨fun h b => h.ok_go b⟩
end Go.Proofs.YtkoikjnlpifbjaaGreat
