/- Lemmas for VerdictTellsP. -/
import Derived.Test.YtdcmppdhdcjpfaaGreatZz34
import Derived.Test.YtdcmppdhdcjpfaaGreatZz1
import Derived.Test.YtdcmppdhdcjpfaaGreatZz35
import Derived.Test.YtdcmppdhdcjpfaaGreatZz24
import Derived.Test.YtdcmppdhdcjpfaaGreatZz25
import Derived.Test.YtdcmppdhdcjpfaaGreatZz20
import Derived.Lib.ConvBytes
import Derived.Laws.Cover3
import Derived.Test.YtdcmppdhdcjpfaaGreatRows
set_option linter.unusedVariables false
set_option linter.unusedSimpArgs false
set_option maxRecDepth 100000
set_option maxHeartbeats 16000000
namespace Go.Proofs.YtdcmppdhdcjpfaaGreat
open Go.RowKit Go.Deep
attribute [local go_sem] Oper.semAt_some
abbrev Va := { l : List UInt8 // l.length = 64 }
def Ae1 (l : List UInt8) (h : 64 ≤ l.length) : Va := ⟨l.take 64, by simp; omega⟩
def Kd : Nat → List UInt8 → List Va
 | 0, _ => []
 | n + 1, l => if h : 64 ≤ l.length then Ae1 l h :: Kd n (l.drop 64) else []
def Ai4 (w : World) (b : Nat) : Nat := match w.cell? ⟨b, 0, none⟩ with | some (.string s) => s.size | _ => 0
theorem AaM : ∀ (n k : Nat) (l : List UInt8), k < n → 64 * (k + 1) ≤ l.length → ∃ c : Va, (Kd n l)[k]? = some c ∧ c.1 = (l.drop (64 * k)).take 64
 | 0, k, l, h, _ => by omega
 | n + 1, 0, l, _, h => by
  rw [Kd, dif_pos (by omega)]
  exact ⟨_, rfl, by simp [Ae1]⟩
 | n + 1, k + 1, l, h, h2 => by
  rw [Kd, dif_pos (by omega)]
  obtain ⟨c, h3, h4⟩ := AaM n k (l.drop 64) (by omega) (by simp; omega)
  exact ⟨c, by simpa using h3, by rw [h4, Nm, Nat.mul_add, Nat.add_comm]⟩
theorem Ea : ∀ (n : Nat) (l : List UInt8), 64 * n ≤ l.length → (Kd n l).length = n
 | 0, l, _ => rfl
 | n + 1, l, h => by
  rw [Kd, dif_pos (by omega), Lc, Ea n (l.drop 64) (by simp; omega)]
theorem Acu (l : List UInt8) (k : Nat) (x : Va) (hx : x.1 = (l.drop (64 * k)).take 64) (h : 64 * (k + 1) ≤ l.length) :
 (Kd (l.length / 64) l).take (k + 1) = (Kd (l.length / 64) l).take k ++ [x] := by
 obtain ⟨c, b, e⟩ := AaM (l.length / 64) k l (by omega) h;have d : k < (Kd (l.length / 64) l).length := (Lb.1 b).1;rw [No d];rw [La d] at b;have : c = x := Subtype.ext (e.trans hx.symm);rw [← this];injection b with b;rw [b]
theorem UJ (w : World) (e : TypeId) (s : ByteArray) : w.grownBy (Lib.bytesWorld w e s) none :=
 ⟨rfl, rfl, rfl, by rw [Lib.bytesWorld_size]; omega, fun k hk _ => Lib.bytesWorld_at_old w e s k hk⟩
theorem Abp (bs : Nat) (s : List UInt8) (hs : s.length ≤ 2000000) (w : World) (hrow : Row w bs 9 #[.string ⟨s.toArray⟩]) :
 Aci Tryz.prog 228 #[.pointer (some ⟨bs, 0, none⟩)] (fun x : Va => #[.agg (u8s x.1).toArray]) (· = bs) (fun A B => B.heap[bs]? = A.heap[bs]? ∧ A.heap.size ≤ B.heap.size) (fun xs => xs = Kd (s.length / 64) s) (fun _ => True) (s.length / 64) w := by
 intro l J Jx W _ ad hJ ap hY h0;refine callsIn_of_wp Tryz.func228 rfl trivial ?_ rfl;simp only [Tryz.ntmps228, Lk, Lc, Lr, Nat.reduceAdd, Nat.reduceSub, Ll, Lm, Lu, L7, Lp, Ln];gi_wp2;have aj : Row W bs 9 #[.string ⟨s.toArray⟩] := (ad.block bs hrow.lt (by simp)).trans hrow;clear hrow ad;gi_loopw [3] (fun _ wr => ∃ (k : Nat) (q : ByteArray), q.data.toList = s.drop (64 * k) ∧ 64 * k ≤ s.length ∧ Row wr bs 9 #[.string q] ∧ J ((Kd (s.length / 64) s).take k) wr) (fun _ wr => Ai4 wr bs)
 case atStart => exact ⟨0, ⟨s.toArray⟩, by simp, by omega, aj, by simpa using h0⟩
 case round =>
  obtain ⟨k, q, hq, hk, hr, p⟩ := hrel
  have aa : q.size + 64 * k = s.length := by
   have := congrArg List.length hq;simp at this; omega
  have Hq := Lh hq;have d := Lh aa;clear hq aa;have hc := hr.cellv (i := 0) (v := .string q) rfl;have hf := hr.free 0;by_cases ao : 64 ≤ q.size
  · have b := fun w => Lib.run_convert_string_bytes (P := Tryz.prog) w 9 277 5 (q.extract 0 64) Tryz.underlying9 Tryz.underlying277 Tryz.underlying5
    have u : (q.extract 0 64).size = 64 := by simp; omega
    simp only [u] at b;have ah := Lh u;have o := fun w => run_arrayAt (P := Tryz.prog) w 213 5 64 (some ⟨wr.heap.size, 0, none⟩) 64 (grownCap wr 64 0 5) Tryz.underlying213 (Nat.le_refl _)
    clear u;obtain ⟨x, hx⟩ : ∃ x : Va, x.1 = (q.extract 0 64).data.toList := ⟨⟨(q.extract 0 64).data.toList, by have := ah.out; simpa using this⟩, rfl⟩
    have c : ∀ j v, (u8s x.1)[j]? = some v → (Lib.bytesWorld wr 5 (q.extract 0 64)).cell? ⟨wr.heap.size, j, none⟩ = some v := by
     intro j v hv;rw [X6, hx] at hv
     have p : j < (q.extract 0 64).size := by
      rcases Nat.lt_or_ge j (q.extract 0 64).data.toList.length with h | h
      · simpa using h
      · rw [LW h] at hv; cases hv
     rw [Lib.bytesWorld_cell _ _ _ j p, ← hv, List.getD, La (by simpa using p)];rfl
    have g := Lh c;have Hx := Lh hx;have m : wr.grownBy (Lib.bytesWorld wr 5 (q.extract 0 64)) none := UJ _ _ _;have t := hJ _ _ _ none p m (fun r e => by cases e);have ab : Row (Lib.bytesWorld wr 5 (q.extract 0 64)) bs 9 #[.string q] := (m.block bs hr.lt (by simp)).trans hr;have av : k < s.length / 64 := by have := d.out; omega
    obtain ⟨fn, an, ae, am, hy, hR⟩ := hY _ x _ t (by rw [L4]; omega);have al := Lh m;have HR := Lh hR;have ag := Lh ab;clear c hx m p ab hr hR;gi_wp2_with (refine Y1 rfl 213 _ rfl wr.heap.size rfl (u8s x.1) _ g.out Tryz.underlying213 rfl (by rw [YZ, x.2]; kernel_rfl) ?_);refine ⟨rfl, HR.out.mono ?_⟩;rintro e W' (⟨rfl, y, z, aw⟩ | ⟨rfl, ai⟩)
    · have n : Row W' bs 9 #[.string q] := z.trans ag.out;have aq := n.cellv (i := 0) (v := .string q) rfl;have ar := n.free 0;have af := Lh y;clear y z t hy hf b o;gi_wp2;go_roundw
      case rel =>
       refine ⟨k + 1, q.extract 64 q.size, ?_, by have := d.out; omega, n.set _ _, ?_⟩
       · have := Hq.out;simp only [ByteArray.data_extract, Array.toList_extract, List.extract_eq_take_drop, this, Nm];rw [L1 (by simp; have := d.out; omega), Nat.mul_add]
       · refine hJ _ _ _ (some bs) ?_ (grownBy_setCell' _ _ _) (fun r e => by cases e; exact .inl rfl);rw [Acu s k x (by rw [Hx.out]; simp [Hq.out]) (by have := d.out; omega)];exact af.out
      case measure =>
       have ak := n.set 0 (.string (q.extract 64 q.size));have ac := ak.cell 0;unfold Ai4;rw [ac, hc];simp; omega
    · clear t hy b o;gi_wp2;refine bodyPost_ret (results_none rfl _ _ _) rfl ?_;exact ⟨⟨_, rfl⟩, .inr ⟨_, trivial, ai⟩⟩
  · gi_wp2;go_end0
    refine ⟨⟨_, rfl⟩, .inl ⟨_, rfl, ?_⟩⟩;have au : k = s.length / 64 := by have := d.out; omega
    rw [L1 (by rw [Ea _ _ (by omega)]; omega)] at p;exact p
end Go.Proofs.YtdcmppdhdcjpfaaGreat
namespace Go.Proofs.YtdcmppdhdcjpfaaGreat
open Go.RowKit Go.Deep
def Adj (R L k i : Nat) : UInt8 := if i = 0 then 128 else if i + k < L then 0 else UInt8.ofNat (R / 256 ^ (L - 1 - i))
def EO (R L k : Nat) : List UInt8 := (List.range L).map (Adj R L k)
def AbL (R L k : Nat) : Array Value := (u8s (EO R L k)).toArray
theorem VE (R L k i : Nat) : (AbL R L k)[i]? = if i < L then some (.int .u8 ((Adj R L k i).toNat : Int)) else none := by
 unfold AbL EO;simp only [N8, X6, LA];by_cases h : i < L <;> simp [h]
theorem Aga (R L k : Nat) : (AbL R L k).size = L := by simp [AbL, EO, u8s]
theorem Agb (R L k : Nat) (hk : k + 1 < L) : (AbL R L k).setIfInBounds (L - 1 - k) (.int .u8 ((UInt8.ofNat (R / 256 ^ k)).toNat : Int)) = AbL R L (k + 1) := by
 apply Array.ext_getElem?;intro i;rw [N6, VE, VE, Aga];by_cases hi : L - 1 - k = i
 · subst hi;rw [if_pos rfl, if_pos (by omega), if_pos (by omega)];unfold Adj;rw [if_neg (by omega), if_neg (by omega), show L - 1 - (L - 1 - k) = k from by omega]
 · rw [if_neg hi];by_cases b : i < L
   · rw [if_pos b, if_pos b];congr 4;unfold Adj;by_cases c : i = 0
     · simp [c]
     · rw [if_neg c, if_neg c];by_cases d : i + (k + 1) < L
       · rw [if_pos d, if_pos (by omega)]
       · rw [if_neg d, if_neg (by omega)]
   · rw [if_neg b, if_neg b]
theorem AeB (R L : Nat) (cs : Array Value) (hs : cs.size = L) (h : ∀ i, i < L → cs[i]? = some (.int .u8 0)) : cs.setIfInBounds 0 (.int .u8 128) = AbL R L 0 := by
 apply Array.ext_getElem?;intro i;rw [N6, VE, hs];by_cases hi : 0 = i
 · subst hi;rw [if_pos rfl];by_cases b : 0 < L <;> simp [b, Adj]
 · rw [if_neg hi];by_cases b : i < L
   · rw [if_pos b, h i b];unfold Adj;rw [if_neg (by omega), if_pos (by omega)]; rfl
   · rw [if_neg b, Array.getElem?_eq_none (by omega)]
theorem Aih (z : Value) (n i : Nat) (h : i < n) : (madeCells #[z] n)[i]? = some z := by
 unfold madeCells;simp [h, Nat.mod_one]
theorem Ajo (q : Nat) : ((q : Int) % 256) = ((UInt8.ofNat q).toNat : Int) := by simp
theorem AgW (L k : Nat) : (L : Int) - 1 - (k : Int) - 1 = (L : Int) - 1 - ((k + 1 : Nat) : Int) := by omega
theorem AgL (R k : Nat) : ((R / 256 ^ k : Nat) : Int) / 256 = ((R / 256 ^ (k + 1) : Nat) : Int) := by
 rw [Nat.pow_succ, ← Nat.div_div_eq_div_mul]; omega
def AeC (n : Nat) : Nat := 72 - (n + 8) % 64
def Ui (n : Nat) : List UInt8 := EO (n * 8 % 18446744073709551616) (AeC n) 8
theorem Agc (R L k : Nat) (hk : k ≤ 8) (h : R / 256 ^ k = 0) : EO R L k = EO R L 8 := by
 unfold EO;apply List.map_congr_left;intro i hi;unfold Adj;by_cases b : i = 0
 · simp [b]
 · rw [if_neg b, if_neg b];by_cases c : i + 8 < L
   · rw [if_pos (by omega), if_pos c]
   · rw [if_neg c];by_cases d : i + k < L
     · rw [if_pos d]
       have : R / 256 ^ (L - 1 - i) = 0 := by
        have e : 256 ^ k ≤ 256 ^ (L - 1 - i) := Nat.pow_le_pow_right (by omega) (by omega);rw [Nat.div_eq_zero_iff] at h ⊢;rcases h with h | h
        · exact absurd h (Nat.pos_iff_ne_zero.1 (Nat.pow_pos (by omega)))
        · exact .inr (by omega)
       rw [this]; rfl
     · rw [if_neg d]
theorem Ais (n : Int) (h0 : 0 ≤ n) (h1 : n ≤ 9223372036854775807) (w : World) :
 Calls Tryz.prog 152 #[.int .i64 n] w fun e w' => e = .returned (.string ⟨(Ui n.toNat).toArray⟩) ∧ Below w.heap.size w w' := by
 obtain ⟨L, hL, ae, ac⟩ : ∃ L : Nat, 72 - (n + 8) % 64 = (L : Int) ∧ 9 ≤ L ∧ L ≤ 72 := ⟨(72 - (n + 8) % 64).toNat, by omega, by omega, by omega⟩;obtain ⟨t, m⟩ : ∃ t, t = madeCells #[Value.int .u8 0] L := ⟨_, rfl⟩;have ab := run_make_row' (P := Tryz.prog) 277 5 (.int .u8 0) 1 Tryz.underlying277 Vz rfl .i64 .i64 L (by omega) (by omega);have g : ∀ i, i < L → t[i]? = some (.int .u8 0) := fun i hi => by rw [m]; exact Aih _ _ _ hi
 have o := size_madeCells #[Value.int .u8 0] L;rw [← m] at ab o;have ad : t[0]? = some (.int .u8 0) := g 0 (by omega)
 obtain ⟨R, hR, d⟩ : ∃ R : Nat, IntKind.u64.wrap (n * 8) = (R : Int) ∧ R < 18446744073709551616 := by
  rw [IntKind.wrap_u64]; exact ⟨((n * 8) % 18446744073709551616).toNat, by omega, by omega⟩
 have s := Lh d;have z := Lh g;have aa := Lh o
 have c : Hid (EO R L 8 = Ui n.toNat) := by
  unfold Ui;rw [show AeC n.toNat = L from by unfold AeC; omega, show n.toNat * 8 % 18446744073709551616 = R from by rw [IntKind.wrap_u64] at hR; omega]; rfl
 clear m g o d;go_enter Tryz.func152, Tryz.ntmps152
 go_wp2
 go_loopw [4, 5] (fun i r wr => ∃ k : Nat, i = .int .i64 ((L : Int) - 1 - (k : Int)) ∧ r = .int .u64 ((R / 256 ^ k : Nat) : Int) ∧ k ≤ 8 ∧ Row wr w.heap.size 5 (AbL R L k) ∧ Below w.heap.size w wr) (fun _ r _ => (intOf r).toNat)
 case atStart => exact ⟨0, by simp, by simp, by omega, by rw [← AeB R L t aa.out z.out]; exact Row.new _ _ _, (Below.refl _ _).alloc (Nat.le_refl _) _⟩
 case round =>
  obtain ⟨k, rfl, rfl, hk, b, hb⟩ := hrel;by_cases x : R / 256 ^ k = 0
  · have l := Xt (P := Tryz.prog) 277 9 5 5 Tryz.underlying277 Tryz.underlying5 Tryz.underlying9 (cap := L) b (EO R L k) (n := L) (by simp [EO]) (fun j hj => by simp [AbL]);rw [Agc R L k hk x, c.out] at l;have y : ((R / 256 ^ k : Nat) : Int) = 0 := by omega
    rw [y];clear x y c;go_wp2
    go_ret
    exact ⟨rfl, hb⟩
  · have af : k < 8 := by
     rcases Nat.lt_or_ge k 8 with h | h
     · exact h
     · obtain rfl : k = 8 := by omega
       exact absurd (Nat.div_eq_of_lt s.out) x
    have u : 0 < R / 256 ^ k := Nat.pos_of_ne_zero x;obtain ⟨q, hq⟩ : ∃ q, q = R / 256 ^ k := ⟨_, rfl⟩;rw [← hq] at x u ⊢;have Hq := Lh hq;clear hq;have hc := b.cellv (i := L - 1 - k) (v := .int .u8 ((Adj R L k (L - 1 - k)).toNat : Int)) (by rw [VE, if_pos (by omega)]);have hf := b.free (L - 1 - k);go_wp2
    go_roundw
    case rel => exact ⟨k + 1, by rw [AgW], by rw [← AgL, Hq.out], by omega, by rw [← Agb R L k (by omega), Ajo, Hq.out]; exact b.set _ _, hb.setCell (p := ⟨w.heap.size, L - 1 - k, none⟩) (Nat.le_refl _) _⟩
    case measure => simp [intOf]; omega
attribute [local go_sem] Oper.semAt_some
theorem AaA (s : ByteArray) (w : World) :
 Calls Tryz.prog 151 #[.string s] w fun e w' => e = .returned (.func (.func 228) #[] #[.pointer (some ⟨w.heap.size, 0, none⟩)]) ∧ w.alloc (.cells #[.string s] 9) = w' := by
 go_enter Tryz.func151, Tryz.ntmps151
 go_wp2
 go_ret
 exact ⟨rfl, rfl⟩
def Ky (H : List (BitVec 32)) (l : List Va) : List (BitVec 32) := l.foldl (fun H c => YK H c.1) H
def Ahv (s : List UInt8) : List UInt8 := Xz (Ky KH (Kd ((s ++ Ui s.length).length / 64) (s ++ Ui s.length)))
theorem KL : ∀ (l : List Va) (H : List (BitVec 32)), H.length = 8 → (Ky H l).length = 8
 | [], _, h => h
 | _ :: l, _, h => KL l _ (XG _ _ h 8)
theorem Ahg (n : Nat) : (Ui n).length = AeC n := by simp [Ui, EO]
theorem Air (n : Nat) : 9 ≤ AeC n ∧ AeC n ≤ 72 := by unfold AeC; omega
theorem AiH (s : ByteArray) (hs : s.size ≤ 1000000) (w : World) :
 Calls Tryz.prog 78 #[.string s] w fun e w' => e = .returned (.string ⟨(Ahv s.data.toList).toArray⟩) ∧ Below w.heap.size w w' := by
 refine (callsIn_wide (n := 0)).1 ?_;refine callsIn_of_wp_marks Tryz.func78 rfl trivial ?_;simp only [Tryz.ntmps78, Lk, Lc, Lr, Nat.reduceAdd, Nat.reduceSub, Ll, Lm, Lu, L7, Lp, Ln];gi_wp2_with fail
 refine ⟨trivial, rfl, (callsIn_wide.2 (Agk w)).mono ?_⟩;rintro e w1 ⟨rfl, b1⟩;gi_wp2_with (refine Q3 rfl 207 _ _ rfl w1.heap.size (wds KH).toArray rfl rfl 207 _ (heap_alloc_new w1 _) (by kernel_rfl) rfl (UC _) ?_; rw [World.setRow_alloc_new]);have rh := Row.new w1 207 (wds KH).toArray;have b2 := b1.alloc b1.size (.cells (wds KH).toArray 207);have g1 := b1.size;obtain ⟨G, hG⟩ : ∃ G, G = w1.heap.size := ⟨_, rfl⟩;rw [← hG] at rh g1 ⊢;clear hG;have lh := rh.lt;generalize w1.alloc (.cells (wds KH).toArray 207) = w2 at rh b2 lh ⊢;clear b1;refine ⟨trivial, rfl, (callsIn_wide.2 (Ais (s.size : Int) (by omega) (by omega) w2)).mono ?_⟩;rw [Lg];rintro e w3 ⟨rfl, b3⟩;have ac := rh.below b3 lh;have z := b2.trans (b3.mono b2.size);have l3 := b3.size;clear b3 b2 rh;have am : (Ui s.size).length ≤ 72 := by rw [Ahg]; exact (Air _).2
 gi_wp2_with fail
 have hq : (s ++ (⟨(Ui s.size).toArray⟩ : ByteArray)).data.toList = s.data.toList ++ Ui s.data.toList.length := by simp
 have an : (s ++ (⟨(Ui s.size).toArray⟩ : ByteArray)).size ≤ 1000072 := by rw [ByteArray.size_append, Ux (Ui s.size)]; omega
 generalize (s ++ (⟨(Ui s.size).toArray⟩ : ByteArray)) = q at hq an ⊢;have Hq := Lh hq;clear hq am;refine ⟨trivial, rfl, (callsIn_wide.2 (AaA q w3)).mono ?_⟩;rintro e w4 ⟨rfl, aj⟩;have rb := Row.new w3 9 #[.string q];have ak := ac.alloc (.cells #[.string q] 9);have b4 := z.alloc z.size (.cells #[.string q] 9);have g4 : G < w3.heap.size := ac.lt;have af : (w3.alloc (.cells #[.string q] 9)).heap.size = w3.heap.size + 1 := by simp
 rw [aj] at rb ak b4 af;obtain ⟨u, ag⟩ : ∃ u, u = w3.heap.size := ⟨_, rfl⟩;rw [← ag] at rb g4 af ⊢;clear ag aj ac z l3 lh;have gB : w.heap.size ≤ u := by omega
 have ai : q.data.toList.length ≤ 2000000 := by simp; omega
 have ae := Lh (Abp u q.data.toList ai w4 rb);gi_wp2
 refine AbO (gf := 228) (lb := #[.pointer (some ⟨u, 0, none⟩)]) rfl (enters_of Tryz.func228 (by kernel_rfl) rfl) ae.out (fun r h => by subst h; omega)
  (fun h k => ⟨k.1.trans h.1, Li h.2 k.2⟩) (fun W l o o' hl ho hc => ⟨by rw [World.putObj_heap_other (by omega)], by simp⟩) (World.grownBy.refl _ _) (fun _ => rfl)
  (fun g W => Row W G 207 (wds (Ky KH g)).toArray ∧ Below w.heap.size w W ∧ u < W.heap.size) (fun _ _ _ => False) ?hI ?hIx ⟨ak, b4, by omega⟩
  (fun x a' W => ∃ v, u < v ∧ Row W v 213 (u8s x.1).toArray ∧ a' = { tmps := #[.string s, undef, .string ⟨#[]⟩, .pointer (some ⟨G, 0, none⟩), .pointer (some ⟨v, 0, none⟩), undef, .agg (wds KH).toArray, .string s, .string s, .int .i64 s.size, .string ⟨(Ui s.size).toArray⟩, .string q, .func (.func 228) #[] #[.pointer (some ⟨u, 0, none⟩)], .agg (u8s x.1).toArray, undef, undef, undef, undef, undef, undef, undef], defers := [] }) ?hAx ?assign ?body ?done ?stop
 case hI =>
  intro g A B row hs hg d;refine ⟨(hg.block G hs.1.lt (fun e => ?_)).trans hs.1, hs.2.1.grown hg hs.2.1.size (fun k hk => ?_), Ld hs.2.2 hg.size⟩
  · rcases d _ e.symm with h | ⟨h, _⟩ <;> omega
  · rcases d _ hk with h | ⟨h, _⟩ <;> omega
 case hIx => exact fun _ _ _ _ _ h _ _ => h
 case hAx =>
  rintro x a' _ A B row ⟨v, h1, h2, h3⟩ hg d;refine ⟨v, h1, (hg.block v h2.lt (fun e => ?_)).trans h2, h3⟩;rcases d _ e.symm with h | ⟨_, o, ho, hc⟩
  · omega
  · rw [h2] at ho; cases ho; cases hc
 case assign =>
  rintro l g x W K ⟨d, p, t⟩ hK;have hx : (u8s x.1).toArray.size = 64 := AdC _ x.2;have Hx := Lh hx;clear hx;have HK := Lh hK;clear hK;gi_wp2_with (refine Q3 rfl 213 _ _ rfl W.heap.size (u8s x.1).toArray rfl rfl 213 _ (heap_alloc_new W _) (by rw [Hx.out]; kernel_rfl) (by rw [Hx.out]; rfl) (AiK _) ?_; rw [World.setRow_alloc_new]);exact HK.out _ _ (KeepsFrom.alloc _ _ _) ⟨Below.heap_alloc _ _ _ t, by simp⟩ ⟨d.alloc _, p.alloc p.size _, by simp; omega⟩ ⟨_, t, Row.new _ _ _, rfl⟩
 case body =>
  rintro l g x a' W hl _ ⟨d, p, t⟩ ⟨v, ap, ao, rfl⟩ _;have hx : (u8s x.1).toArray.size = 64 := AdC _ x.2;obtain ⟨H, m⟩ : ∃ H, H = Ky KH g := ⟨_, rfl⟩;have j : H.length = 8 := by rw [m]; exact KL _ _ rfl
  rw [← m] at d;have Hx := Lh hx;have HH := Lh m;have b := Lh j;clear hx m j
  gi_wp2_with (first
   | (refine Zb rfl 207 _ rfl G rfl 207 (wds H).toArray (0, 0) _ d Tryz.underlying207 rfl (by rw [JI _ b.out]; kernel_rfl) ?_)
   | (refine Zb rfl 213 _ rfl v rfl 213 (u8s x.1).toArray (0, 0) _ ao Tryz.underlying213 rfl (by rw [Hx.out]; kernel_rfl) ?_))
  refine ⟨trivial, rfl, (CallsIn.inRound l (callsIn_wide.2 (AfB H b.out x.1 x.2 W))).mono ?_⟩;rintro e W2 ⟨rfl, i⟩;have ab := d.below i d.lt;have hn : (YK H x.1).length = 8 := XG _ _ b.out 8;have Hn := Lh hn;clear hn;gi_wp2_with (refine Q3 rfl 207 _ _ rfl G (wds (YK H x.1)).toArray rfl rfl 207 _ ab (by rw [JI _ Hn.out]; kernel_rfl) (by rw [JI _ Hn.out, JI _ b.out]) (UC _) ?_);refine ⟨(KeepsFrom.of_below i).trans (KeepsFrom.setRow ab _), ⟨(Ab0 _ _ _ _ (by omega)).trans (i.block _ t), Li i.size (by simp [World.setRow])⟩, ?_, ?_, ?_⟩
  · have := ab.setRow (wds (YK H x.1)).toArray;have e : YK H x.1 = Ky KH (g ++ [x]) := by rw [HH.out, Ky, Ky, List.foldl_append]; rfl
    rw [e] at this;rw [e]; exact this
  · exact Kn (p.trans (i.mono p.size)) g1 _
  · have := i.size; simp [World.setRow]; omega
 case stop => exact fun D c g W _ _ h _ => h.elim
 case done =>
  rintro D ys W hD rfl ⟨d, p, _⟩ hK;obtain ⟨H, m⟩ : ∃ H, H = Ky KH (Kd (q.data.toList.length / 64) q.data.toList) := ⟨_, rfl⟩;have j : H.length = 8 := by rw [m]; exact KL _ _ rfl
  have y : Xz H = Ahv s.data.toList := by rw [m, Hq.out]; rfl
  rw [← m] at d;have b := Lh j;have ad := Lh y;have HK := Lh hK;clear m j y hK;gi_wp2_with (refine Zb rfl 207 _ rfl G rfl 207 (wds H).toArray (0, 0) _ d Tryz.underlying207 rfl (by rw [JI _ b.out]; kernel_rfl) ?_);refine ⟨trivial, rfl, (callsIn_wide.2 (AfD H b.out W)).mono ?_⟩;rintro e W5 ⟨rfl, aa⟩;have ah : W5.heap[D]? = some (.deferred (some [])) := (aa.block D (Lj.1 HK.out).1).trans HK.out;rw [ad.out];have al := Lh ah;clear ah HK d;gi_wp2;refine ⟨by simp, .inl ⟨_, _, rfl, run_takeDeferred al.out, ?_⟩⟩;exact ⟨_, results_tmp rfl _ _ _, rfl, (p.trans (aa.mono p.size)).grown (grownBy_putObj' _ _ _) (Li p.size aa.size) (fun k e => by cases e; omega)⟩
end Go.Proofs.YtdcmppdhdcjpfaaGreat
namespace Go.Proofs.YtdcmppdhdcjpfaaGreat
open Go.RowKit Go.Deep
def part (l : List UInt8) (n j : Nat) : List UInt8 := l.take j ++ List.replicate (n - j) 0
def Acy (r : RunV) : List UInt8 := Ahv (YU r.kind r.value r.evs)
theorem Ab5 (r : RunV) (w : World) (hok : r.ok w) (hl : r.evs.length ≤ 10000) :
 Calls Tryz.prog 33 #[r.val] w fun e w' => e = .returned (.string ⟨(Acy r).toArray⟩) ∧ Below w.heap.size w w' := by
 have b := Lh hok;have i := Lh hl;clear hok hl;go_enter Tryz.func33, Tryz.ntmps33
 rw [show r.val = .agg r.cells from rfl];go_wp2_with (refine Qn _ _ rfl ?_)
 refine Stop.to ?_;refine Qe rfl 40 _ rfl r.cells rfl ?_;intro G j l m g;have g := (Below.refl w.heap.size w).trans (g.mono l);have c : r.ok j := ⟨b.out.kind, b.out.value, b.out.steps, b.out.len, b.out.cap, b.out.nil, b.out.reads.go g, b.out.evs⟩;have d := Lh c;clear c;go_wp2_with (refine wpList_load_row rfl 40 _ rfl G rfl 40 r.cells (0, 0) _ m Tryz.underlying40 rfl (by kernel_rfl) ?_)
 refine (Adx r j d.out (by have := i.out; omega)).mono ?_;rintro e n ⟨rfl, h⟩;have h := g.trans (h.mono g.size);go_wp2_with fail
 refine (AiH ⟨(YU r.kind r.value r.evs).toArray⟩ (by rw [Ux]; have := AeM r.kind r.value r.evs; have := i.out; omega) n).mono ?_;rintro e o ⟨rfl, k⟩;go_wp2_with fail
 go_ret
 exact ⟨rfl, h.trans (k.mono h.size)⟩
theorem Ahw (l : List UInt8) : (Ahv l).length = 32 := by
 rw [Ahv, AdY, KL _ _ rfl]
theorem Acz (r : RunV) : (Acy r).length = 32 := Ahw _
theorem RunV.ok.ok_go {r : RunV} {w w' : World} (h : r.ok w) (b : Below w.heap.size w w') : r.ok w' :=
 ⟨h.kind, h.value, h.steps, h.len, h.cap, h.nil, h.reads.go b, h.evs⟩
instance St.runok {r : RunV} : St (fun W => r.ok W) := ⟨fun h b => h.ok_go b⟩
theorem XX {p q : PgV} (h1 : p.params = q.params) (h2 : p.V = q.V) (h3 : p.body = q.body) {t : Tr} : Good p t ↔ Good q t := by
 obtain ⟨a, b, c, d, e, f, g⟩ := p;obtain ⟨i, j, k, l, m, n, o⟩ := q;simp only at h1 h2 h3;subst h1 h2 h3;exact ⟨fun h => ⟨h.hat, h.size, h.vars, h.tag, h.kind⟩, fun h => ⟨h.hat, h.size, h.vars, h.tag, h.kind⟩⟩
theorem Abr {p q : PgV} (h1 : p.params = q.params) (h2 : p.V = q.V) (h3 : p.body = q.body) (n : Nat) (fuel : Int) : Zd p n fuel = Zd q n fuel := by
 by_cases h : ∃ t, Good p t
 · obtain ⟨t, b⟩ := h;rw [Js b, Js ((XX h1 h2 h3).1 b), h1]
 · rw [ZN fun t b => h ⟨t, b⟩, ZN fun t b => h ⟨t, (XX h1 h2 h3).2 b⟩]
theorem E6 {p q : PgV} (h1 : p.params = q.params) (h2 : p.V = q.V) (h3 : p.body = q.body) (args : List Int) (fuel : Int) : ZF p args fuel = ZF q args fuel := by
 have d := Abr h1 h2 h3 args.length fuel
 have c : ∀ s, IsRun p args fuel s ↔ IsRun q args fuel s := fun s => by
  unfold IsRun;rw [h2];exact ⟨fun ⟨t, v, s', a, b⟩ => ⟨t, v, s', (XX h1 h2 h3).1 a, b⟩, fun ⟨t, v, s', a, b⟩ => ⟨t, v, s', (XX h1 h2 h3).2 a, b⟩⟩
 by_cases h : Zd p args.length fuel = 0
 · by_cases k : ∃ s, IsRun p args fuel s
   · obtain ⟨s, k⟩ := k;rw [AbW h k, AbW (d ▸ h) ((c s).1 k)]
   · unfold ZF;rw [dif_neg (fun x => k x.2), dif_neg (fun x => k (x.2.imp fun s g => (c s).2 g))]
 · rw [VH h, VH (fun e => h (d.trans e))]
noncomputable def rnZ (p : PgV) (fuel : Int) (args : List Int) : Rn := ⟨((ZF p args fuel).out.getD (0, 0)).1, ((ZF p args fuel).out.getD (0, 0)).2, Acy ((ZF p args fuel).rv none 0)⟩
theorem XP {p q : PgV} (h1 : p.params = q.params) (h2 : p.V = q.V) (h3 : p.body = q.body) (fuel : Int) : rnZ p fuel = rnZ q fuel := by
 funext args;unfold rnZ;rw [E6 h1 h2 h3]
noncomputable def Yk (p : PgV) (d : Dl) : PgV := ⟨p.params, none, 0, p.V, none, 0, Af3 p d⟩
theorem IsMut.rn {p m : PgV} {d : Dl} (h : IsMut p d m) (fuel : Int) : rnZ m fuel = rnZ (Yk p d) fuel := XP (q := Yk p d) h.par h.vars h.body fuel
theorem IsMut.run {p m : PgV} {d : Dl} (h : IsMut p d m) (args : List Int) (fuel : Int) : ZF m args fuel = ZF (Yk p d) args fuel := E6 (q := Yk p d) h.par h.vars h.body args fuel
noncomputable def Yg (p : PgV) (d : Dl) (ts : List (List Int)) (fuel : Int) : Mt := Zr (rnZ p fuel) (rnZ (Yk p d) fuel) d ts
noncomputable def JE (p : PgV) (ts : List (List Int)) (fuel : Int) : Int := if Q1 p ≠ 0 then Q1 p else Jl p.params ts fuel
noncomputable def Z8 (p : PgV) (d : Dl) (ts : List (List Int)) (fuel : Int) : Int := if JE p ts fuel ≠ 0 then JE p ts fuel else Vq p d
theorem Abg {params fuel : Int} {ts : List (List Int)} (h : Jl params ts fuel = 0) : 1 ≤ ts.length ∧ ts.length ≤ 20 ∧ (∀ l ∈ ts, (l.length : Int) = params) ∧ 1 ≤ fuel ∧ fuel ≤ 10000 := by
 unfold Jl at h;split at h
 · cases h
 · split at h
   · split at h
     · cases h
     · rename_i c b d;exact ⟨by omega, by omega, b, by omega, by omega⟩
   · cases h
theorem AaJ {p : PgV} {ts : List (List Int)} {fuel : Int} (h : JE p ts fuel = 0) {l : List Int} (hl : l ∈ ts) : Zd p l.length fuel = 0 := by
 unfold JE at h;split at h
 · rename_i b; exact absurd h b
 · rename_i b;obtain ⟨t, d⟩ := checkP_ok.1 (by simpa using b);obtain ⟨_, _, c, e, g⟩ := Abg h;rw [Js d.good, if_neg (by simp [c l hl]), if_neg (by omega)]
section
variable {α : Type} {f g : α → Rn}
theorem Ae7 {pre rest : List α} {x : α} : ((pre ++ x :: rest).map g).getD pre.length ⟨0, 0, []⟩ = g x := by
 rw [LQ, LA, Ls (Nat.le_refl _), Nn]; rfl
theorem KX {pre rest : List α} : Q8 f g (pre ++ rest) = Q8 f g pre ++ Q8 f g rest := by unfold Q8; rw [Na]
theorem U8 {pre : List α} : (Q8 f g pre).length = pre.length := by unfold Q8; simp
theorem YO {d : Dl} {pre rest : List α} {x : α} (h1 : (1 : Int) ∉ Q8 f g pre) (hx : QZ (f x) (g x) = 1) : Zr f g d (pre ++ x :: rest) = ⟨d, 1, (pre.length : Int), (g x).kind, (g x).value, (g x).dig⟩ := by
 have e : Q8 f g (pre ++ x :: rest) = Q8 f g pre ++ 1 :: Q8 f g rest := by rw [KX]; unfold Q8; rw [LF, hx]
 unfold Zr Ac4;rw [e, Ai8 _ h1, U8, if_neg (by simp)];simp only [Lg, Ae7]
theorem Ael {d : Dl} {pre : List α} {x : α} (h1 : (1 : Int) ∉ Q8 f g pre) (h2 : (2 : Int) ∉ Q8 f g pre) (hx : QZ (f x) (g x) = 2) : Zr f g d (pre ++ [x]) = ⟨d, 2, (pre.length : Int), (g x).kind, (g x).value, (g x).dig⟩ := by
 have e : Q8 f g (pre ++ [x]) = Q8 f g pre ++ [2] := by rw [KX]; unfold Q8; rw [LF, hx, Nc]
 unfold Zr Ac4;rw [e, Ai9 h1 h2, U8, if_neg (by simp)];simp only [Lg, Ae7]
theorem Ev {d : Dl} {pre : List α} {x : α} (h1 : (1 : Int) ∉ Q8 f g pre) (hx1 : ¬ QZ (f x) (g x) = 1) (hx2 : QZ (f x) (g x) = 2 → ¬ (Zr f g d pre).verdict = 0) : Zr f g d (pre ++ [x]) = Zr f g d pre := by
 have e : Q8 f g (pre ++ [x]) = Q8 f g pre ++ [QZ (f x) (g x)] := by rw [KX]; unfold Q8; rw [LF, Nc]
 have k : ZQ (Q8 f g (pre ++ [x])) = ZQ (Q8 f g pre) := by
  rw [e];by_cases c : QZ (f x) (g x) = 2
  · have j := hx2 c;rw [VA] at j
    have m : (2 : Int) ∈ Q8 f g pre := by
     by_cases h : (2 : Int) ∈ Q8 f g pre
     · exact h
     · exact absurd (best_v0.2 ⟨h1, h⟩) j
    exact AhT h1 m hx1
  · exact Ai7 hx1 c
 by_cases b : (ZQ (Q8 f g pre)).1 = 0
 · rw [Ud b, Ud (by rw [k]; exact b)]
 · unfold Zr Ac4;rw [k, if_neg b, if_neg b];obtain ⟨i, hi, l, _⟩ := Ae0 b;rw [hi, Lg, AgT (by rw [U8] at l; exact l)]
end
theorem Aho {W : World} {g : Nat} {t : TypeId} {cs : List Value} (h : Row W g t cs.toArray) : Rd W (some ⟨g, 0, none⟩) cs := fun j u hj => ⟨_, rfl, by
 have := h.cellv (i := j) (v := u) (by simpa using hj)
 unfold Addr.add
 by_cases h0 : j = 0
 · subst h0; exact this
 · rw [if_neg h0]; simpa using this⟩
def EB (params : Int) (V : List Int) (body : List Nd) (g1 g2 : Nat) : PgV := ⟨params, some ⟨g1, 0, none⟩, V.length, V, some ⟨g2, 0, none⟩, body.length, body⟩
theorem Aig {params : Int} {V : List Int} {body : List Nd} {g1 g2 : Nat} {W : World} (hp : InI params) (hv : ∀ t ∈ V, InI t) (hb : ∀ x ∈ body, InI x.tag ∧ InI x.n) (h1 : V.length ≤ maxLen) (h2 : body.length ≤ maxLen)
 (r1 : Row W g1 3 (Qi V).toArray) (r2 : Row W g2 85 (body.flatMap Nd.cells).toArray) : (EB params V body g1 g2).ok W :=
 ⟨hp, Nat.le_refl _, h1, fun h => (by cases h), Aho r1, hv, Nat.le_refl _, h2, fun h => (by cases h), Aho r2, hb⟩
theorem Uu {p : PgV} {t : Tr} {args : List Int} {fuel v : Int} {s : Ms} {w : World} (hok : p.ok w) (hin : ∀ a ∈ args, InI a) (hc : Zd p args.length fuel = 0) (hg : Good p t) (he : evG (fuel.toNat + 1) (.one t) (ZH p.V args fuel.toNat) = (v, s)) : ZF p args fuel = s.stopped 3 0 := by
 obtain ⟨g, h, e, b⟩ := VG hok hin hc;have := b.good.hat.uniq hg.hat;subst this;have c := b.big.ev (fuel.toNat + 1) (by simp [ZH]);rw [he] at c;have d : s = e := congrArg Prod.snd c;rw [b.eq, d]
theorem Ae6 {params : Int} {V : List Int} {body : List Nd} (w : World) (hp : InI params) (hv : ∀ t ∈ V, InI t) (hb : ∀ x ∈ body, InI x.tag ∧ InI x.n) (h1 : V.length ≤ maxLen) (h2 : body.length ≤ maxLen) : ∃ W g1 g2, (EB params V body g1 g2).ok W := by
 have c := Row.new w 3 (Qi V).toArray;have d := Row.new (w.alloc (.cells (Qi V).toArray 3)) 85 (body.flatMap Nd.cells).toArray;have b : Below (w.alloc (.cells (Qi V).toArray 3)).heap.size (w.alloc (.cells (Qi V).toArray 3)) ((w.alloc (.cells (Qi V).toArray 3)).alloc (.cells (body.flatMap Nd.cells).toArray 85)) := (Below.refl _ _).alloc (Nat.le_refl _) _;exact ⟨_, _, _, Aig hp hv hb h1 h2 (c.below b c.lt) d⟩
def YL : List Nd := [⟨20, 1⟩, ⟨26, 0⟩]
def YM : List Nd := [⟨20, 1⟩, ⟨25, 0⟩, ⟨1, 0⟩]
def treeE5 : Tr := .node ⟨20, 1⟩ [.node ⟨26, 0⟩ []]
def treeE7 : Tr := .node ⟨20, 1⟩ [.node ⟨25, 0⟩ [.node ⟨1, 0⟩ []]]
theorem Adz : treeE5.fits := by
 refine .mk _ _ (by rfl) (fun k b => ?_);rw [Lo.1 b];exact .mk _ _ (by rfl) (fun k b => by simp at b)
theorem AdA : treeE7.fits := by
 refine .mk _ _ (by rfl) (fun k b => ?_);rw [Lo.1 b];refine .mk _ _ (by rfl) (fun k b => ?_);rw [Lo.1 b];exact .mk _ _ (by rfl) (fun k b => by simp at b)
theorem AiZ (g1 g2 : Nat) : Good (EB 1 [0] YL g1 g2) treeE5 := ⟨⟨Adz, [], by rfl⟩, by rfl, by show JN 1 [0]; decide, rfl, by show ofT [0] treeE5 = 2; decide +kernel⟩
theorem Ae8 (g1 g2 : Nat) : Good (EB 1 [0] YM g1 g2) treeE7 := ⟨⟨AdA, [], by rfl⟩, by rfl, by show JN 1 [0]; decide, rfl, by show ofT [0] treeE7 = 2; decide +kernel⟩
theorem Aby (g1 g2 : Nat) : Good (EB 1 [0] bodyE g1 g2) treeE := ⟨⟨Aam, [], by rfl⟩, by rfl, by show JN 1 [0]; decide, rfl, by show ofT [0] treeE = 2; decide +kernel⟩
theorem AcO {n : Int} (h : InI n) : ∀ a ∈ [n], InI a := fun a ha => by rw [Lo.1 ha]; exact h
theorem Ag3 {t : Tr} {body : List Nd} {g1 g2 : Nat} (h : Good (EB 1 [0] body g1 g2) t) (a : Int) : Zd (EB 1 [0] body g1 g2) [a].length 9 = 0 := by
 rw [Js h]; rfl
theorem Aft {p : PgV} (w : World) (h1 : p.params = 1) (h2 : p.V = [0]) (h3 : p.body = bodyE) : (rnZ p 9 [0]).kind = 0 ∧ (rnZ p 9 [0]).value = 0 := by
 obtain ⟨W, b, c, d⟩ := Ae6 (params := 1) (V := [0]) (body := bodyE) w (by unfold InI; omega) (by simp [InI]) (by simp [bodyE, InI]) (by unfold maxLen; simp) (by unfold maxLen; simp [bodyE]);rw [XP (q := EB 1 [0] bodyE b c) h1 h2 h3];have h := Uu d (args := [0]) (fuel := 9) (AcO (by unfold InI; omega)) (Ag3 (Aby b c) 0) (Aby b c) (v := 0) (s := ⟨[0], [[]], 6, 3, [], some (0, 0)⟩) (by kernel_rfl);unfold rnZ;rw [h];exact ⟨rfl, rfl⟩
theorem Ai3 {p : PgV} (w : World) (h1 : p.params = 1) (h2 : p.V = [0]) (h3 : p.body = bodyE) : (rnZ p 9 [5]).kind = 0 ∧ (rnZ p 9 [5]).value = 5 := by
 obtain ⟨W, b, c, d⟩ := Ae6 (params := 1) (V := [0]) (body := bodyE) w (by unfold InI; omega) (by simp [InI]) (by simp [bodyE, InI]) (by unfold maxLen; simp) (by unfold maxLen; simp [bodyE]);rw [XP (q := EB 1 [0] bodyE b c) h1 h2 h3];have h := Uu d (args := [5]) (fuel := 9) (AcO (by unfold InI; omega)) (Ag3 (Aby b c) 5) (Aby b c) (v := 0) (s := ⟨[5], [[]], 6, 3, [], some (0, 5)⟩) (by kernel_rfl);unfold rnZ;rw [h];exact ⟨rfl, rfl⟩
theorem AjP {p : PgV} (w : World) (h1 : p.params = 1) (h2 : p.V = [0]) (h3 : p.body = YL) : (rnZ p 9 [0]).kind = 3 ∧ (rnZ p 9 [0]).value = 0 := by
 obtain ⟨W, b, c, d⟩ := Ae6 (params := 1) (V := [0]) (body := YL) w (by unfold InI; omega) (by simp [InI]) (by simp [YL, InI]) (by unfold maxLen; simp) (by unfold maxLen; simp [YL]);rw [XP (q := EB 1 [0] YL b c) h1 h2 h3];have h := Uu d (args := [0]) (fuel := 9) (AcO (by unfold InI; omega)) (Ag3 (AiZ b c) 0) (AiZ b c) (v := 0) (s := ⟨[0], [[]], 7, 2, [], none⟩) (by kernel_rfl);unfold rnZ;rw [h];exact ⟨rfl, rfl⟩
theorem Ahr {p : PgV} (w : World) (h1 : p.params = 1) (h2 : p.V = [0]) (h3 : p.body = YM) (a : Int) (ha : a = 0 ∨ a = 5) : (rnZ p 9 [a]).kind = 0 ∧ (rnZ p 9 [a]).value = 0 := by
 obtain ⟨W, b, c, d⟩ := Ae6 (params := 1) (V := [0]) (body := YM) w (by unfold InI; omega) (by simp [InI]) (by simp [YM, InI]) (by unfold maxLen; simp) (by unfold maxLen; simp [YM]);rw [XP (q := EB 1 [0] YM b c) h1 h2 h3];rcases ha with rfl | rfl
 · have h := Uu d (args := [0]) (fuel := 9) (AcO (by unfold InI; omega)) (Ag3 (Ae8 b c) 0) (Ae8 b c) (v := 0) (s := ⟨[0], [[]], 6, 3, [], some (0, 0)⟩) (by kernel_rfl);unfold rnZ;rw [h];exact ⟨rfl, rfl⟩
 · have h := Uu d (args := [5]) (fuel := 9) (AcO (by unfold InI; omega)) (Ag3 (Ae8 b c) 5) (Ae8 b c) (v := 0) (s := ⟨[5], [[]], 6, 3, [], some (0, 0)⟩) (by kernel_rfl);unfold rnZ;rw [h];exact ⟨rfl, rfl⟩
theorem AjD : (⟨[0], 7, 0⟩ : Dl) ∈ Jo bodyE treeE := by
 unfold Jo;rw [Nt];refine ⟨(1, [0]), by simp [Q0, Zs, treeE], ?_⟩;rw [LJ];refine ⟨(7, 0), ?_, rfl⟩;unfold ZO ZR;rw [Nt];refine ⟨7, by rw [LJ]; exact ⟨6, by simp, rfl⟩, ?_⟩;rw [LJ];refine ⟨0, ?_, rfl⟩;rw [LZ];exact ⟨by unfold U6; rw [KV]; simp, by decide⟩
theorem Aka : (⟨[0], 5, 0⟩ : Dl) ∈ Jo bodyE treeE := by
 unfold Jo;rw [Nt];refine ⟨(1, [0]), by simp [Q0, Zs, treeE], ?_⟩;rw [LJ];refine ⟨(5, 0), ?_, rfl⟩;unfold ZO ZR;rw [Nt];refine ⟨5, by rw [LJ]; exact ⟨4, by simp, rfl⟩, ?_⟩;rw [LJ];refine ⟨0, ?_, rfl⟩;rw [LZ];exact ⟨by unfold U6; rw [KV]; simp, by decide⟩
theorem AjL : (⟨[], 0, 0⟩ : Dl) ∉ Jo bodyE treeE := fun h => by
 obtain ⟨q, k, _, b⟩ := allZ_mem.1 h;unfold ZO ZR at b;rw [Nt] at b;obtain ⟨e, d, b⟩ := b;rw [LJ] at d b;obtain ⟨i, _, rfl⟩ := d;obtain ⟨n, _, c⟩ := b;injection c with c _;have : (i : Int) + 1 = 0 := c;omega
theorem Aii (g1 g2 : Nat) : Af3 (pE g1 g2) ⟨[0], 5, 0⟩ = YL := by
 rw [AbH (Ep g1 g2) (q := 1) (k := .node ⟨25, 0⟩ [.node ⟨3, 0⟩ []]) (by rfl)]; rfl
theorem AbG (g1 g2 : Nat) : Af3 (pE g1 g2) ⟨[0], 7, 0⟩ = YM := by
 rw [AbH (Ep g1 g2) (q := 1) (k := .node ⟨25, 0⟩ [.node ⟨3, 0⟩ []]) (by rfl)]; rfl
theorem Agy (g1 g2 : Nat) {ts : List (List Int)} (h : ts = [[0], [5]] ∨ ts = [[0]]) : JE (pE g1 g2) ts 9 = 0 := by
 unfold JE;rw [if_neg (by rw [checkP_ok.2 ⟨_, Ep g1 g2⟩]; simp)];show Jl 1 ts 9 = 0;rcases h with rfl | rfl <;> decide
theorem AbD (g1 g2 : Nat) {ts : List (List Int)} (h : ts = [[0], [5]] ∨ ts = [[0]]) (d : Dl) : Z8 (pE g1 g2) d ts 9 = Vq (pE g1 g2) d := by
 unfold Z8; rw [if_neg (by rw [Agy g1 g2 h]; simp)]
theorem Akc (g1 g2 : Nat) (w : World) : Yg (pE g1 g2) ⟨[0], 5, 0⟩ [[0], [5]] 9 = ⟨⟨[0], 5, 0⟩, 1, 0, 3, 0, (rnZ (Yk (pE g1 g2) ⟨[0], 5, 0⟩) 9 [0]).dig⟩ := by
 obtain ⟨e, i⟩ := Aft (p := pE g1 g2) w rfl rfl rfl;obtain ⟨b, c⟩ := AjP (p := Yk (pE g1 g2) ⟨[0], 5, 0⟩) w rfl rfl (Aii g1 g2);have h := YO (f := rnZ (pE g1 g2) 9) (g := rnZ (Yk (pE g1 g2) ⟨[0], 5, 0⟩) 9) (d := ⟨[0], 5, 0⟩) (pre := []) (rest := [[5]]) (x := [0]) (by simp [Q8]) (by unfold QZ; rw [e, i, b, c]; rfl);unfold Yg;rw [Lp] at h;rw [h, b, c];rfl
theorem Akd (g1 g2 : Nat) (w : World) : Yg (pE g1 g2) ⟨[0], 7, 0⟩ [[0], [5]] 9 = ⟨⟨[0], 7, 0⟩, 1, 1, 0, 0, (rnZ (Yk (pE g1 g2) ⟨[0], 7, 0⟩) 9 [5]).dig⟩ := by
 obtain ⟨e, i⟩ := Aft (p := pE g1 g2) w rfl rfl rfl;obtain ⟨l, m⟩ := Ai3 (p := pE g1 g2) w rfl rfl rfl;obtain ⟨j, k⟩ := Ahr (p := Yk (pE g1 g2) ⟨[0], 7, 0⟩) w rfl rfl (AbG g1 g2) 0 (.inl rfl);obtain ⟨b, c⟩ := Ahr (p := Yk (pE g1 g2) ⟨[0], 7, 0⟩) w rfl rfl (AbG g1 g2) 5 (.inr rfl);have h := YO (f := rnZ (pE g1 g2) 9) (g := rnZ (Yk (pE g1 g2) ⟨[0], 7, 0⟩) 9) (d := ⟨[0], 7, 0⟩) (pre := [[0]]) (rest := []) (x := [5]) (by simp only [Q8, LF, Nc, Lo]; unfold QZ; rw [e, i, j, k]; decide) (by unfold QZ; rw [l, m, b, c]; rfl);unfold Yg;rw [show ([[0]] ++ [5] :: [] : List (List Int)) = [[0], [5]] from rfl] at h;rw [h, b, c];rfl
theorem Ajc (g1 g2 : Nat) (w : World) : Yg (pE g1 g2) ⟨[0], 7, 0⟩ [[0]] 9 = ⟨⟨[0], 7, 0⟩, 0, -1, 0, 0, []⟩ := by
 obtain ⟨b, c⟩ := Aft (p := pE g1 g2) w rfl rfl rfl;obtain ⟨d, e⟩ := Ahr (p := Yk (pE g1 g2) ⟨[0], 7, 0⟩) w rfl rfl (AbG g1 g2) 0 (.inl rfl);unfold Yg;refine Ud ?_;rw [best_v0];simp only [Q8, LF, Nc, Lo];unfold QZ;rw [b, c, d, e];decide
end Go.Proofs.YtdcmppdhdcjpfaaGreat
