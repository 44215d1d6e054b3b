/- Lemmas for RunnerJustP. -/
import Derived.WalkKit
import Derived.WalkSpells
import Derived.Lib.Hide
import Derived.Deep.OwnRows
import Derived.Deep.Draws
import Derived.Deep.QuietTactic
import Derived.BigQuiet
import Derived.StillTailTactics
import Derived.StillTail
import Derived.Laws.StructEq
import Derived.OrdersHeld
import Derived.RangeFuncNested
import Derived.RangeFuncBound
import Derived.RangeFuncCalls
import Derived.RangeFuncLeaves
import Derived.OwnWalkIn
import Derived.TacticsInMore
import Derived.LoopNIn
import Derived.LoopIn
import Derived.Shelf.Abstract
import Derived.Shelf.RegionOpen
import Derived.Deep.Slices
import Derived.ProofKit
import Derived.OpenShut
import Derived.ChangeSame
import Derived.Maps.OwnIn
import Derived.BigFrameIn
import Derived.Deep.WholeRow
import Derived.Laws.CopyRow
set_option linter.unusedVariables false
set_option linter.unusedSimpArgs false
set_option maxRecDepth 100000
set_option maxHeartbeats 16000000
namespace Go.Proofs.YtkoikjnlpifbjaaGreat
open Go.RowKit
abbrev La := @List.getElem?_eq_getElem
abbrev Ld := @List.getElem?_eq_some_iff
abbrev Le := @List.length_cons
abbrev Lf := @List.length_append
abbrev Lg := @Nat.lt_of_lt_of_le
abbrev Li := @Nat.le_trans
abbrev Lj := @List.mem_of_getElem?
abbrev Lk := @Array.replicate_succ
abbrev Ll := @Array.replicate_zero
abbrev Lm := @List.size_toArray
abbrev Ln := @List.cons_append
abbrev Lp := @List.nil_append
abbrev Lt := @Array.getElem?_eq_some_iff
abbrev Lu := @List.length_nil
abbrev Ly := @List.push_toArray
abbrev Lz := @List.length_map
abbrev L0 := @List.eq_nil_of_length_eq_zero
abbrev L1 := @Int.toNat_natCast
abbrev L2 := @List.mem_cons
abbrev L3 := @List.mem_singleton
abbrev L4 := @List.append_assoc
abbrev L5 := @List.mem_append
abbrev L6 := @List.getElem?_map
abbrev L7 := @List.length_take
abbrev L8 := @List.getElem?_append_right
abbrev L9 := @List.not_mem_nil
abbrev LA := @List.take_of_length_le
abbrev LC := @List.getElem?_append_left
abbrev LD := @List.flatMap_append
abbrev LE := @List.drop_succ_cons
abbrev LF := @List.take_succ_cons
abbrev LG := @List.take_add_one
abbrev LH := @List.append_toArray
abbrev LI := @List.flatMap_cons
abbrev LJ := @List.getD_cons_zero
abbrev LK := @List.take_append_drop
abbrev LL := @List.drop_zero
abbrev LM := @Nat.le_of_eq
abbrev LN := @Nat.zero_add
abbrev LO := @List.drop_eq_getElem_cons
abbrev LP := @List.take_zero
abbrev LQ := @List.map_cons
abbrev LR := @List.mem_map
abbrev LS := @List.length_set
abbrev LT := @List.map_append
abbrev LU := @List.length_drop
abbrev LV := @List.getElem?_take_of_lt
abbrev LW := @List.take_length
abbrev LX := @List.getD_eq_getElem?_getD
abbrev LY := @List.mem_map_of_mem
abbrev LZ := @Option.getD_some
abbrev Na := @List.append_nil
abbrev Nc := @Bool.and_eq_true
abbrev Nf := @Array.length_toList
abbrev Ng := @Array.getElem?_modify
abbrev Ni := @List.length_singleton
abbrev Nj := @List.getD_cons_succ
abbrev Nk := @Array.getElem?_toList
abbrev Nl := @List.pairwise_cons
abbrev Nm := @List.getElem?_cons_succ
abbrev Nn := @List.drop_drop
abbrev No := @Option.some.injEq
abbrev Np := @List.map_nil
abbrev Nq := @List.mem_filter
abbrev Ns := @Option.map_some
abbrev Nt := @List.getElem?_eq_none
abbrev Nu := @List.length_replicate
abbrev Nv := @List.getElem?_drop
abbrev Nx := @List.take_append_of_le_length
abbrev Ny := @Nat.add_sub_cancel_left
abbrev Nz := @Bool.eq_iff_iff
abbrev N0 := @List.getElem_of_mem
abbrev N1 := @List.map_toArray
abbrev N2 := @List.length_filter_le
abbrev N3 := @List.pairwise_iff_getElem
abbrev N4 := @List.take_left'
abbrev N5 := @Array.all_eq_true_iff_forall_mem
abbrev N6 := @Nat.lt_trichotomy
abbrev N7 := @Array.toArray_toList
abbrev N8 := @List.any_eq_false
abbrev N9 := @List.take_succ_eq_append_getElem
abbrev NA := @List.mem_range
abbrev NC := @Array.getElem?_eq_none
abbrev ND := @Nat.lt_of_le_of_lt
abbrev NE := @List.drop_eq_nil_of_le
abbrev NF := @List.filter_append
abbrev NG := @List.cons.injEq
abbrev NH := @Array.getElem?_setIfInBounds
abbrev NI := @List.getElem?_toArray
abbrev NJ := @List.pairwise_map
abbrev NK := @List.mem_cons_of_mem
abbrev NL := @List.take_take
abbrev NM := @Nat.mod_eq_of_lt
abbrev NN := @Nat.sub_self
abbrev NO := @List.mem_flatMap
abbrev NP := @Array.getElem?_eq_getElem
abbrev NQ := @List.length_reverse
abbrev NR := @Array.setIfInBounds_comm
abbrev NS := @List.nodup_cons
abbrev NT := @Nat.min_eq_left
abbrev NU := @List.getElem?_replicate
theorem Qa {α} {l : List α} {i : Nat} {a : α} : l.toArray.setIfInBounds i a = (l.set i a).toArray := List.setIfInBounds_toArray ..
theorem Qb {α} {x : α} {xs : List α} {a : α} : (x :: xs).set 0 a = a :: xs := List.set_cons_zero ..
theorem Qc {α} {x : α} {xs : List α} {n : Nat} {a : α} : (x :: xs).set (n + 1) a = x :: xs.set n a := List.set_cons_succ ..
theorem Lv {p : Prop} (h : p) : Go.RowKit.Hid p := h
def Row (w : World) (g : Nat) (t : TypeId) (cs : Array Value) : Prop := w.heap[g]? = some (.cells cs t (0, 0))
section
variable {w w' : World} {g : Nat} {t : TypeId} {cs : Array Value}
theorem Row.lt (h : Row w g t cs) : g < w.heap.size := by
 rcases Nat.lt_or_ge g w.heap.size with c | b
 · exact c
 · rw [Row, NC b] at h; cases h
theorem Row.cell (h : Row w g t cs) (i : Nat) : w.cell? ⟨g, i, none⟩ = cs[i]? := cell_of_row w g i cs t (0, 0) h
theorem Row.cellv (h : Row w g t cs) {i : Nat} {v : Value} (hv : cs[i]? = some v) : w.cell? ⟨g, i, none⟩ = some v := (h.cell i).trans hv
theorem Row.free (h : Row w g t cs) (i : Nat) : w.frozen? ⟨g, i, none⟩ = false := by
 rw [Row] at h; simp [World.frozen?, h]
theorem Row.new (w : World) (t : TypeId) (cs : Array Value) : Row (w.alloc (.cells cs t)) w.heap.size t cs := heap_alloc_new w _
theorem Row.drew (h : Row w g t cs) : Row w.drew g t cs := h
theorem Row.drewN (h : Row w g t cs) (n : Nat) : Row (w.drewN n) g t cs := h
theorem Row.alloc (h : Row w g t cs) (o : Obj) : Row (w.alloc o) g t cs := (Below.heap_alloc w o g h.lt).trans h
theorem Row.set (h : Row w g t cs) (i : Nat) (u : Value) : Row (w.setCell ⟨g, i, none⟩ u) g t (cs.setIfInBounds i u) := by
 rw [Row] at h ⊢;simp [World.setCell, Ng, h]
theorem Row.far (h : Row w g t cs) {p : Addr} (hp : g ≠ p.block) (u : Value) : Row (w.setCell p u) g t cs := (Below.heap_setCell w p u g hp).trans h
theorem Row.below {B : Nat} (h : Row w g t cs) (hb : Below B w w') (hg : g < B) : Row w' g t cs := (hb.block g hg).trans h
end
theorem Row.from_ {w : World} {g : Nat} {t : TypeId} {cur : Array Value} (h : Row w g t cur) (o : Nat) {cs : List Value} (hc : ∀ j v, cs[j]? = some v → cur[o + j]? = some v) :
 ∀ j v, cs[j]? = some v → w.cell? ((⟨g, o, none⟩ : Addr).add j) = some v := fun j v hj => by
 rw [show ((⟨g, o, none⟩ : Addr).add j) = ⟨g, o + j, none⟩ from by unfold Addr.add; split <;> simp_all]
 exact h.cellv (hc j v hj)
theorem Ks {B : Nat} {a w : World} (h : Below B a w) {g : Nat} (hg : B ≤ g) (cells : Array Value) : Below B a (w.setRow g cells) :=
 h.trans ⟨rfl, rfl, rfl, by simp [World.setRow], fun k hk => by simp only [World.setRow, Ng]; rw [if_neg (by omega)]⟩
theorem Row.setRow {w : World} {g : Nat} {t : TypeId} {cs : Array Value} (h : Row w g t cs) (cells : Array Value) : Row (w.setRow g cells) g t cells := by
 rw [Row] at h ⊢;simp [World.setRow, Ng, h]
theorem ZZ {B : Nat} {a w : World} (h : Below B a w) (n : Nat) : Below B a (w.drewN n) := ⟨h.os, h.tape, h.output, h.size, h.block⟩
theorem ET {P : Program} {f : FuncId} {args : Array Value} {w : World} {a n : Nat} {v : Value}
 (h : Calls P f args (w.drewN (a + n)) fun e w' => e = .returned v ∧ w' = w.drewN (a + n)) :
 Calls P f args (w.drewN (a + n)) fun e w'' => e = .returned v ∧ ∃ m, w'' = w.drewN (a + m) :=
 h.mono fun _ _ h => ⟨h.1, n, h.2⟩
theorem QX {P : Program} {id : Nat} {Q : Exit → Act → World → Prop} {a : Act} {w : World} {l : List Oper} (n : Nat) (hm : P.follows .mixedOrders = true) (hB : Region.lexTailB .any l.toArray n = true)
 (h : wpStill P l.toArray w.drew (fun a' => wpList P l.toArray Q (l.drop n) a' w.drew) (l.take n) a) : (Code.region id l.toArray true).wp P Q a w :=
 wp_region_still_tail n hm hB h
theorem VU (l : List UInt8) : (⟨l.toArray⟩ : ByteArray).size = l.length := by simp [ByteArray.size]
def u8s (l : List UInt8) : List Value := l.map fun b => .int .u8 (b.toNat : Int)
theorem Yc (l : List UInt8) (i : Nat) : (u8s l)[i]? = l[i]?.map fun b => .int .u8 (b.toNat : Int) := by simp [u8s]
theorem Uh (l : List UInt8) : (u8s l).length = l.length := by simp [u8s]
theorem Ug (a b : List UInt8) : u8s (a ++ b) = u8s a ++ u8s b := by simp [u8s]
theorem AaF {P : Program} (w : World) (t e : TypeId) (n : Nat) (cs : Array Value) (k : IntKind) (i : Nat) (v : Value) (hu : P.underlying t = some (.array n e)) (hp : (part e cs i).run P w = .ok v w) (hs : (P.info? e).map (·.size) = some 1) (hi : i < n) :
 (Instr.index t (.agg cs) (.int k (i : Int))).run P w = .ok v w := by
 cases hq : P.info? e with
 | none => simp [hq] at hs
 | some q =>
  have b : q.size = 1 := by simpa [hq] using hs
  simp [Instr.index, run_underlying hu, asIntOf, hi, sizeOf, typeInfo, hq, b, hp]
theorem Xu {P : Program} {w : World} (src dst e t : TypeId) (hs : P.underlying src = some (.slice e)) (he : P.underlying e = some (.int .u8)) (hd : P.underlying dst = some .string)
 {g n cap : Nat} {cs : Array Value} (hr : Row w g t cs) (l : List UInt8) (hl : l.length = n) (hc : ∀ j, j < n → cs[j]? = (u8s l)[j]?) :
 (convert src dst (.slice (some ⟨g, 0, none⟩) n cap)).run P w = .ok (.string ⟨l.toArray⟩) w := by
 subst hl;refine run_convert_bytes_back w src dst e _ cap l hs he hd (fun j b => ?_);rw [show (Addr.add ⟨g, 0, none⟩ j) = ⟨g, j, none⟩ from by unfold Addr.add; split <;> simp_all, hr.cell j, hc j b, Yc, La b]
 rfl
theorem J6 {P : Program} {w : World} (src dst e : TypeId) (hs : P.underlying src = some (.slice e)) (he : P.underlying e = some (.int .u8)) (hd : P.underlying dst = some .string)
 {base n : Nat} {v : Value} (l : List UInt8) (hown : w.ownsRow base e 1 v n (u8s l)) : (convert src dst v).run P w = .ok (.string ⟨l.toArray⟩) w := by
 have h : l.length = n := by have := hown.1; rw [Uh] at this; omega
 rcases hown.2 with ⟨rfl, m⟩ | ⟨g, c, b, rfl, o, d, p, s, i, k⟩
 · have : l = [] := L0 (by omega);subst this;rw [run_convert_bytes_nil w src e hs he 0 0 dst hd]; rfl
 · refine Xu src dst e e hs he hd (cs := b) d l h (fun j q => ?_);rw [← k, LV (by omega)]; simp
theorem JK (w : World) (xs : List Value) (t : TypeId) : ∀ j u, xs[j]? = some u → (w.alloc (.cells xs.toArray t)).cell? ((⟨w.heap.size, 0, none⟩ : Addr).add j) = some u := fun j u hj =>
 (Row.new w t xs.toArray).from_ 0 (by intro j v h; simpa using h) j u hj
theorem VA (l : List UInt8) : ∀ u ∈ u8s l, u.oneCell' = true := by
 intro u b;simp only [u8s, LR] at b;obtain ⟨x, _, rfl⟩ := b; rfl
theorem QK {base size n : Nat} {e : TypeId} {v : Value} {xs : List Value} {B : Nat} {a w w' : World} (h : Below B a w) (hown : w.ownsRow base e size v n xs) (hg : w.grownBy w' v.ownBlock) (hB : B ≤ w.heap.size) (hb : B ≤ base) : Below B a w' :=
 h.grown hg hB (fun k hk => by
  rcases hown.2 with ⟨rfl, _⟩ | ⟨g, _, _, rfl, h1, _⟩
  · simp [Value.ownBlock] at hk
  · simp [Value.ownBlock] at hk; omega)
def wd (x : BitVec 32) : Int := (x.toNat : Int)
theorem AgU (x : BitVec 32) : 0 ≤ wd x := by unfold wd; omega
theorem Alc (x : BitVec 32) : wd x < 4294967296 := by unfold wd; have := x.isLt; omega
theorem Ack (x : BitVec 32) : IntKind.u32.wrap (wd x) = wd x := by
 rw [IntKind.wrap_u32]; have := AgU x; have := Alc x; omega
theorem XY (x : BitVec 32) : BitVec.ofInt 32 (wd x) = x := by
 unfold wd; apply BitVec.eq_of_toNat_eq; rw [BitVec.ofInt_natCast, BitVec.toNat_ofNat, NM x.isLt]
theorem Ach (x y : BitVec 32) : IntKind.u32.wrap (wd x + wd y) = wd (x + y) := by
 rw [IntKind.wrap_u32]; unfold wd; rw [BitVec.toNat_add]; omega
theorem Afe (x y : BitVec 32) : bits .xor .u32 (wd x) (wd y) = wd (x ^^^ y) := by
 show IntKind.u32.wrap ((BitVec.ofInt 32 (wd x) ^^^ BitVec.ofInt 32 (wd y)).toNat : Int) = _;rw [XY, XY]; exact Ack _
theorem Afd (x y : BitVec 32) : bits .and .u32 (wd x) (wd y) = wd (x &&& y) := by
 show IntKind.u32.wrap ((BitVec.ofInt 32 (wd x) &&& BitVec.ofInt 32 (wd y)).toNat : Int) = _;rw [XY, XY]; exact Ack _
theorem AfU (x y : BitVec 32) : bits .or .u32 (wd x) (wd y) = wd (x ||| y) := by
 show IntKind.u32.wrap ((BitVec.ofInt 32 (wd x) ||| BitVec.ofInt 32 (wd y)).toNat : Int) = _;rw [XY, XY]; exact Ack _
theorem Acj (x : BitVec 32) (m : Nat) : IntKind.u32.wrap (wd x * (2 : Int) ^ m) = wd (x <<< m) := by
 rw [IntKind.wrap_u32]; unfold wd; rw [BitVec.toNat_shiftLeft, Nat.shiftLeft_eq, Int.natCast_emod, Int.natCast_mul, Int.natCast_pow]; rfl
theorem YG (x : BitVec 32) (m : Nat) : wd x / (2 : Int) ^ m = wd (x >>> m) := by
 unfold wd; rw [BitVec.toNat_ushiftRight, Nat.shiftRight_eq_div_pow, Int.natCast_ediv, Int.natCast_pow]; rfl
theorem Aci (x y : BitVec 32) : (wd x + wd y) % 4294967296 = wd (x + y) := by rw [← Ach, IntKind.wrap_u32]
theorem VV (x : BitVec 32) (m : Nat) : wd x * (2 : Int) ^ m % (4294967296 : Int) = wd (x <<< m) := by rw [← Acj, IntKind.wrap_u32]
theorem AfV (x : BitVec 32) : wd x * (256 : Int) % (4294967296 : Int) = wd (x <<< 8) := VV x 8
theorem AfW (x : BitVec 32) : wd x / (8 : Int) = wd (x >>> 3) := YG x 3
theorem AjX (x : BitVec 32) : wd x / (256 : Int) = wd (x >>> 8) := YG x 8
theorem Ad5 (x : BitVec 32) : wd x / (1024 : Int) = wd (x >>> 10) := YG x 10
theorem AiC (x : BitVec 32) : wd x / (65536 : Int) = wd (x >>> 16) := YG x 16
theorem AiD (x : BitVec 32) : wd x / (16777216 : Int) = wd (x >>> 24) := YG x 24
def wds (l : List (BitVec 32)) : List Value := l.map fun b => .int .u32 (wd b)
theorem Aff (l : List (BitVec 32)) : (wds l).length = l.length := by simp [wds]
theorem US (l : List (BitVec 32)) : (wds l).toArray.all (·.oneCell') = true := by
 refine N5.2 (fun v b => ?_);simp only [wds, List.mem_toArray, LR] at b;obtain ⟨x, _, rfl⟩ := b; rfl
theorem AjU (l : List UInt8) : (u8s l).toArray.all (·.oneCell') = true := by
 refine N5.2 (fun v b => ?_);simp only [u8s, List.mem_toArray, LR] at b;obtain ⟨x, _, rfl⟩ := b; rfl
theorem JG (l : List (BitVec 32)) {n : Nat} (h : l.length = n) : (wds l).toArray.size = n := by rw [Lm, Aff, h]
theorem Ad0 (l : List UInt8) {n : Nat} (h : l.length = n) : (u8s l).toArray.size = n := by rw [Lm, Uh, h]
theorem Xk (l : List (BitVec 32)) (i : Nat) (h : i < l.length) : (wds l).toArray[i]? = some (.int .u32 (wd (l.getD i 0))) := by
 simp [wds, La h, List.getD]
theorem UT (l : List (BitVec 32)) (i : Nat) (x : BitVec 32) : (wds l).toArray.setIfInBounds i (.int .u32 (wd x)) = (wds (l.set i x)).toArray := by
 simp [wds, List.map_set]
theorem AkB (l : List UInt8) (i : Nat) (h : i < l.length) : (u8s l).toArray[i]? = some (.int .u8 ((l.getD i 0).toNat : Int)) := by
 simp [u8s, La h, List.getD]
theorem AjW (b : UInt8) : ((b.toNat : Nat) : Int) = wd (BitVec.ofNat 32 b.toNat) := by
 have := b.toNat_lt;unfold wd; rw [BitVec.toNat_ofNat, NM (by omega)]
def EG : Nat → Nat → List UInt8
 | 0, _ => []
 | f + 1, n => if n < 128 then [UInt8.ofNat n] else UInt8.ofNat (128 + n % 128) :: EG f (n / 128)
def U5 (n : Nat) : List UInt8 := EG 10 n
theorem AeF (f n : Nat) (h : n < 128) : EG (f + 1) n = [UInt8.ofNat n] := by rw [EG, if_pos h]
theorem AhK (f n : Nat) (h : ¬ n < 128) : EG (f + 1) n = UInt8.ofNat (128 + n % 128) :: EG f (n / 128) := by rw [EG, if_neg h]
theorem Adh : ∀ f n, (EG f n).length ≤ f
 | 0, _ => by simp [EG]
 | f + 1, n => by
  unfold EG
  split
  · simp
  · have := Adh f (n / 128); simp; omega
theorem Uw (n : Nat) : (U5 n).length ≤ 10 := Adh 10 n
def Acq (n : Int) : Nat := if 0 ≤ n then (2 * n).toNat else (-2 * n - 1).toNat
theorem Aj3 {n : Int} (h : -9223372036854775808 ≤ n ∧ n ≤ 9223372036854775807) : Acq n < 18446744073709551616 := by unfold Acq; split <;> omega
def zz (n : Int) : List UInt8 := U5 (Acq n)
theorem Uk (n : Int) : (zz n).length ≤ 10 := Uw _
def InI (n : Int) : Prop := -9223372036854775808 ≤ n ∧ n ≤ 9223372036854775807
structure EvV where
 var : Int
 at_ : Int
 val : Int
structure RunV where
 kind : Int
 value : Int
 steps : Int
 addr : Option Addr
 cap : Nat
 evs : List EvV
def EvV.cells (e : EvV) : List Value := [.int .i64 e.var, .int .i64 e.at_, .int .i64 e.val]
def EvV.ok (e : EvV) : Prop := InI e.var ∧ InI e.at_ ∧ InI e.val
def EvV.bytes (e : EvV) : List UInt8 := zz e.var ++ zz e.at_ ++ zz e.val
theorem EvV.bytes_len (e : EvV) : e.bytes.length ≤ 30 := by
 have := Uk e.var; have := Uk e.at_; have := Uk e.val;simp only [EvV.bytes, Lf]; omega
def Uf (kind value : Int) (evs : List EvV) : List UInt8 := U5 evs.length ++ (evs.flatMap EvV.bytes ++ (zz kind ++ zz value))
theorem Afx : ∀ evs : List EvV, (evs.flatMap EvV.bytes).length ≤ 30 * evs.length
 | [] => by simp
 | e :: evs => by
  have := Afx evs; have := e.bytes_len
  simp only [LI, Lf, Le]; omega
theorem Afb (kind value : Int) (evs : List EvV) : (Uf kind value evs).length ≤ 30 * evs.length + 30 := by
 have := Afx evs; have := Uw evs.length; have := Uk kind; have := Uk value;simp only [Uf, Lf]; omega
structure Stop (p : Prop) (i : p → p) : Prop where
 out : p
theorem Stop.to {p : Prop} (h : p) : Stop p id := ⟨h⟩
structure Only (g : Nat) (w w' : World) : Prop where
 os : w'.os = w.os
 tape : w'.tape = w.tape
 output : w'.output = w.output
 size : w'.heap.size = w.heap.size
 block : ∀ k, k ≠ g → w'.heap[k]? = w.heap[k]?
theorem Row.only {w w' : World} {g k : Nat} {t : TypeId} {cs : Array Value} (h : Row w k t cs) (o : Only g w w') (hk : k ≠ g) : Row w' k t cs := (o.block k hk).trans h
theorem Only.below {w w' : World} {g B : Nat} (o : Only g w w') (hg : B ≤ g) : Below B w w' := ⟨o.os, o.tape, o.output, LM o.size.symm, fun k hk => o.block k (by omega)⟩
theorem Ql {w w' a : World} {g B : Nat} (b : Below B a w) (o : Only g w w') (hg : B ≤ g) : Below B a w' := b.trans (o.below hg)
theorem Zv (w : World) (g : Nat) (cells : Array Value) : Only g w (w.setRow g cells) :=
 ⟨rfl, rfl, rfl, by simp [World.setRow], fun k hk => by simp only [World.setRow, Ng]; rw [if_neg (fun h => hk h.symm)]⟩
section
variable {P : Program} {ops : Array Oper} {rest : List Oper} {o : Oper} {a : Act} {w : World} {K : Act → World → Prop} {Q : Exit → Act → World → Prop}
theorem Zn (ty : TypeId) (ho : o.op = .alloc ty) (z : Value) (cs : Array Value) (hz : (zeroValue ty).run P w = .ok z w) (hc : z.cells = cs)
 (h : ∀ g w', w.heap.size ≤ g → Row w' g ty cs → Below g w w' → K (a.put o.dst (.pointer (some ⟨g, 0, none⟩))) w') : o.wp P a w K Q := by
 have e : (execOp a.eval o).run P w = .ok (.value (.pointer (some ⟨w.heap.size, 0, none⟩))) (w.alloc (.cells cs ty)) := by
  rw [← hc]; simp [execOp, ho, Instr.alloc, Sem.run_bind, hz, newVar, newRow]
 unfold Oper.wp;rw [e];exact h _ _ (Nat.le_refl _) (Row.new _ _ _) ((Below.refl _ _).alloc (Nat.le_refl _) _)
theorem Qi (hgd : o.guard = none) (ty : TypeId) (ho : o.op = .alloc ty) (z : Value) (cs : Array Value) (hz : (zeroValue ty).run P w = .ok z w) (hc : z.cells = cs)
 (h : ∀ g w', w.heap.size ≤ g → Row w' g ty cs → Below g w w' → wpList P ops Q rest (a.put o.dst (.pointer (some ⟨g, 0, none⟩))) w') : wpList P ops Q (o :: rest) a w :=
 wpList_plain hgd fun _ hK => Zn ty ho z cs hz hc fun g w' h1 h2 h3 => hK _ _ (h g w' h1 h2 h3)
theorem Yd (hgd : o.guard = none) (v : Value) (hv : (execOp a.eval o).run P w = .ok (.value v) w) (h : wpList P ops Q rest (a.put o.dst v) w) : wpList P ops Q (o :: rest) a w :=
 wpList_plain hgd fun _ hK => by unfold Oper.wp; rw [hv]; exact hK _ _ h
theorem ZK {ρ : Operand → Value} (ty : TypeId) (ps : List (Nat × Operand)) (ho : o.op = .build ty ps.toArray) (v : Value) (hv : (Instr.build ty (ps.map fun (i, x) => (i, ρ x)).toArray).run P w = .ok v w) : (execOp ρ o).run P w = .ok (.value v) w := by
 simp only [execOp, ho, Sem.run_bind, N1, hv, Result.andThen_ok, Sem.run_pure]
theorem E9 {ρ : Operand → Value} {ty : TypeId} {x : Operand} {i : Nat} (ho : o.op = .field ty x i) (v : Value) (hv : (Instr.field ty (ρ x) i).run P w = .ok v w) : (execOp ρ o).run P w = .ok (.value v) w := by
 simp only [execOp, ho, Sem.run_bind, hv, Result.andThen_ok, Sem.run_pure]
theorem QE (ty : TypeId) (_ : o.op = .alloc ty) (h : Stop (wpList P ops Q (o :: rest) a w) id) : wpList P ops Q (o :: rest) a w := h.out
theorem Qp (ty : TypeId) (p x : Operand) (_ : o.op = .store ty p x) (h : Stop (wpList P ops Q (o :: rest) a w) id) : wpList P ops Q (o :: rest) a w := h.out
theorem Qk (hgd : o.guard = none) (ty : TypeId) (p x : Operand) (ho : o.op = .store ty p x) (g : Nat) (cells : Array Value) (hp : a.eval p = .pointer (some ⟨g, 0, none⟩)) (hx : a.eval x = .agg cells)
 (t : TypeId) (cur : Array Value) (hg : Row w g t cur) (hi : (P.info? ty).map (·.size) = some cells.size) (hs : cur.size = cells.size) (h1 : cells.all (·.oneCell') = true)
 (h : ∀ w', Row w' g t cells → Only g w w' → wpList P ops Q rest (a.put o.dst undef) w') : wpList P ops Q (o :: rest) a w :=
 wpList_store_row hgd ty p x ho g cells hp hx t cur hg hi hs h1 (h _ (hg.setRow cells) (Zv _ _ _))
end
class St (S : World → Prop) : Prop where
 go : ∀ {W W' : World}, S W → Below W.heap.size W W' → S W'
theorem St.drew {S : World → Prop} [h : St S] {W : World} (hS : S W) : S W.drew := h.go hS ⟨rfl, rfl, rfl, Nat.le_refl _, fun _ _ => rfl⟩
theorem St.drewN {S : World → Prop} [h : St S] {W : World} (hS : S W) (n : Nat) : S (W.drewN n) := h.go hS ⟨rfl, rfl, rfl, Nat.le_refl _, fun _ _ => rfl⟩
theorem St.alloc {S : World → Prop} [h : St S] {W : World} (hS : S W) (o : Obj) : S (W.alloc o) := h.go hS ((Below.refl _ _).alloc (Nat.le_refl _) o)
theorem St.from_ {S : World → Prop} [h : St S] {W W' : World} {g : Nat} (hS : S W) (hb : Below g W W') (hg : W.heap.size ≤ g) : S W' := h.go hS (hb.mono hg)
instance St.row {g : Nat} {t : TypeId} {cs : Array Value} : St (fun W => Row W g t cs) := ⟨fun h b => h.below b h.lt⟩
instance St.below {w : World} : St (fun W => Below w.heap.size w W) := ⟨fun h b => h.trans (b.mono h.size)⟩
instance St.and {S T : World → Prop} [hs : St S] [ht : St T] : St (fun W => S W ∧ T W) := ⟨fun h b => ⟨hs.go h.1 b, ht.go h.2 b⟩⟩
instance St.lt {n : Nat} : St (fun W => n < W.heap.size) := ⟨fun h b => Lg h b.size⟩
instance St.le {n : Nat} : St (fun W => n ≤ W.heap.size) := ⟨fun h b => Li h b.size⟩
section
variable {P : Program} {ops : Array Oper} {md : Region.Mode} {S : World → Prop}
def Yt (P : Program) (S : World → Prop) (v : Value) : Result Next → Prop
 | .ok (.value u) W => u = v ∧ S W
 | .ok .skip W => v = undef ∧ S W
 | .ok (.enter f args) W => Calls P f args W fun e W' => e = .returned v ∧ S W'
 | _ => False
def YieldsH (P : Program) (ops : Array Oper) (S : World → Prop) (o : Oper) (v : Value) (a : Act) : Prop :=
 (Region.wanted o (yielded ops a.tmps) = true ∧ ∀ W, S W → Yt P S v ((execOp a.eval o).run P W)) ∨ (Region.wanted o (yielded ops a.tmps) = false ∧ v = undef)
def ZX (P : Program) (ops : Array Oper) (S : World → Prop) (Q : Act → Prop) : List Oper → Act → Prop
 | [], a => Q a
 | o :: rest, a => ∃ v, YieldsH P ops S o v a ∧ ZX P ops S Q rest (a.put o.dst v)
theorem QS {Q : Act → Prop} {a : Act} (h : Q a) : ZX P ops S Q [] a := h
theorem YO {Q : Act → Prop} {a : Act} {o : Oper} {rest : List Oper} (hw : Region.wanted o (yielded ops a.tmps) = false) (h : ZX P ops S Q rest (a.put o.dst undef)) : ZX P ops S Q (o :: rest) a :=
 ⟨undef, .inr ⟨hw, rfl⟩, h⟩
theorem Qg {Q : Act → Prop} {a : Act} {o : Oper} {rest : List Oper} (hw : Region.wanted o (yielded ops a.tmps) = true) (v : Value) (hv : ∀ W, S W → (execOp a.eval o).run P W = .ok (.value v) W) (h : ZX P ops S Q rest (a.put o.dst v)) : ZX P ops S Q (o :: rest) a :=
 ⟨v, .inl ⟨hw, fun W hW => by rw [hv W hW]; exact ⟨rfl, hW⟩⟩, h⟩
theorem Agj {Q : Act → Prop} {a : Act} {o : Oper} {rest : List Oper} (hw : Region.wanted o (yielded ops a.tmps) = true) (f : FuncId) (args : Array Value) (he : ∀ W, (execOp a.eval o).run P W = .ok (.enter f args) W) (v : Value)
 (hc : ∀ W, S W → Calls P f args W fun e W' => e = .returned v ∧ S W') (h : ZX P ops S Q rest (a.put o.dst v)) : ZX P ops S Q (o :: rest) a :=
 ⟨v, .inl ⟨hw, fun W hW => by rw [he W]; exact hc W hW⟩, h⟩
theorem QG [hst : St S] {Q : Act → Prop} {a : Act} {o : Oper} {rest : List Oper} (hw : Region.wanted o (yielded ops a.tmps) = true) (f : FuncId) (args : Array Value) (he : ∀ W, (execOp a.eval o).run P W = .ok (.enter f args) W) (v : Value)
 (hc : ∀ W, S W → Calls P f args W fun e W' => e = .returned v ∧ Below W.heap.size W W') (h : ZX P ops S Q rest (a.put o.dst v)) : ZX P ops S Q (o :: rest) a :=
 Agj hw f args he v (fun W hW => (hc W hW).mono fun _ _ ⟨h1, h2⟩ => ⟨h1, hst.go hW h2⟩) h
theorem Zd {Q : Act → Prop} {a : Act} {o : Oper} {rest : List Oper} (hw : Region.wanted o (yielded ops a.tmps) = true) (ty : TypeId) (x : Operand) (ho : o.op = .load ty x) (g : Nat) (hx : a.eval x = .pointer (some ⟨g, 0, none⟩)) (t : TypeId) (cs : Array Value) (d : TypeDesc)
 (hr : ∀ W, S W → Row W g t cs) (hu : P.underlying ty = some d) (hd : (match d with | .struct _ | .array _ _ => true | _ => false) = true) (hi : (P.info? ty).map (·.size) = some cs.size)
 (h : ZX P ops S Q rest (a.put o.dst (.agg cs))) : ZX P ops S Q (o :: rest) a :=
 Qg hw (.agg cs) (fun W hW => by
  simp only [execOp, ho, hx, Instr.loadAt, Instr.sureAddr, Sem.run_bind, Sem.run_pure, Result.andThen_ok, run_loadVar_row W g t ty cs (0, 0) d (hr W hW) hu hd hi]) h
def hOp (P : Program) (ops : Array Oper) (S : World → Prop) (i : Nat) (K : Act → Prop) (a : Act) : Prop :=
 match ops[i]? with
 | none => K a
 | some o => ∃ v, YieldsH P ops S o v a ∧ K (a.put o.dst v)
theorem Ac0 {i : Nat} {o : Oper} {K : Act → Prop} {a : Act} (hi : ops[i]? = some o) : hOp P ops S i K a ↔ ∃ v, YieldsH P ops S o v a ∧ K (a.put o.dst v) := by
 unfold hOp; simp only [hi]
theorem AcZ {i : Nat} {a : Act} {K K' : Act → Prop} (h : ∀ a, K a → K' a) (hh : hOp P ops S i K a) : hOp P ops S i K' a := by
 unfold hOp at *;split
 · rename_i b; simp only [b] at hh; exact h _ hh
 · rename_i o b;simp only [b] at hh;obtain ⟨v, d, c⟩ := hh;exact ⟨v, d, h _ c⟩
theorem VC {i : Nat} {a : Act} {w : World} (hS : S w) {K : Act → Prop} {K' : Act → World → Prop} {Q' : Exit → Act → World → Prop} (h : ∀ a W, K a → S W → K' a W) (hh : hOp P ops S i K a) : wpOp P ops Q' i K' a w := by
 unfold hOp at hh;unfold wpOp;split
 · rename_i g; simp only [g] at hh; exact h _ _ hh hS
 · rename_i o g;simp only [g] at hh;obtain ⟨v, l, c⟩ := hh;rcases l with ⟨j, k⟩ | ⟨j, rfl⟩
   · simp only [j, if_true];refine .inl ?_;have b := k w hS;unfold Oper.wp;generalize (execOp a.eval o).run P w = r at b;cases r with
     | ok n w' =>
      cases n <;> simp only [Yt] at b <;> simp only [Oper.upon]
      case value u => obtain ⟨rfl, d⟩ := b; exact h _ _ c d
      case skip => obtain ⟨rfl, d⟩ := b; exact h _ _ c d
      case enter f args => exact b.mono fun e w'' ⟨he, hs⟩ => by subst he; exact h _ _ c hs
     | halt x w' => simp only [Yt] at b
   · simp only [j, Bool.false_eq_true, if_false]; exact h _ _ c hS
theorem YieldsH.of_same {o : Oper} {v : Value} {a a' : Act} (hy : YieldsH P ops S o v a) (he : execOp a'.eval o = execOp a.eval o)
 (hw : Region.wanted o (yielded ops a'.tmps) = Region.wanted o (yielded ops a.tmps)) : YieldsH P ops S o v a' := by
 unfold YieldsH at *;rw [he, hw];exact hy
theorem Afz {j : Nat} {oi oj : Oper} {v : Value} (hj : ops[j]? = some oj) (hap : oi.apart ops oj = true)
 (hsi : ∀ cs b, oi.op ≠ .select cs b) (hsj : ∀ cs b, oj.op ≠ .select cs b) {K : Act → Prop} {a : Act}
 (hy : YieldsH P ops S oi v a) (h : hOp P ops S j K (a.put oi.dst v)) :
 hOp P ops S j (fun a' => YieldsH P ops S oi v a' ∧ K (a'.put oi.dst v)) a := by
 obtain ⟨d, g, e⟩ := Oper.apart_spec hap;rw [Ac0 hj] at h ⊢;obtain ⟨u, c, i⟩ := h;refine ⟨u, c.of_same (execOp_put oj hsj a oi.dst v d).symm (wanted_put oj a oi.dst v d).symm, hy.of_same (execOp_put oi hsi a oj.dst u e) (wanted_put oi a oj.dst u e), ?_⟩;rw [← Act.put_comm a v u g]; exact i
def Aar (P : Program) (md : Region.Mode) (ops : Array Oper) (S : World → Prop) (Q : Act → Prop) : Nat → Array Bool → Act → Prop
 | 0, listed, a => Region.ready md ops listed = [] ∧ Q a
 | fuel + 1, listed, a =>
  (Region.ready md ops listed = [] → Q a) ∧
  ∀ i ∈ Region.ready md ops listed, hOp P ops S i (Aar P md ops S Q fuel (listed.setIfInBounds i true)) a
theorem XF {Q : Act → Prop} {Q' : Exit → Act → World → Prop} (hQ : ∀ a W, Q a → S W → Q' .normal a W) : ∀ (fuel : Nat) (listed : Array Bool) (a : Act) (w : World), S w →
 Aar P md ops S Q fuel listed a → wpAny P md ops Q' fuel listed a w
 | 0, _, _, _, hS, h => ⟨h.1, hQ _ _ h.2 hS⟩
 | fuel + 1, _, _, _, hS, h => ⟨fun h0 => hQ _ _ (h.1 h0) hS, fun i hi => VC hS (fun a' W hK hSW => XF hQ fuel _ a' W hSW hK) (h.2 i hi)⟩
theorem YieldsH.hOp {i : Nat} {o : Oper} {v : Value} {a : Act} (hi : ops[i]? = some o) (hy : YieldsH P ops S o v a) {K : Act → Prop} (h : K (a.put o.dst v)) : hOp P ops S i K a :=
 (Ac0 hi).2 ⟨v, hy, h⟩
theorem Acm {Q : Act → Prop} {i : Nat} {oi : Oper} {v : Value} (hi : ops[i]? = some oi) (hsel : ∀ (j : Nat) (o : Oper) cs b, ops[j]? = some o → o.op ≠ .select cs b) :
 ∀ (fuel : Nat) (listed : Array Bool) (a : Act),
  (∀ j oj, ops[j]? = some oj → j ≠ i → listed.getD j true = false → (∀ e ∈ oj.after, Region.binds md e = true → e.on ≠ i) → oi.apart ops oj = true) →
  i ∈ Region.ready md ops listed → YieldsH P ops S oi v a →
  Aar P md ops S Q fuel (listed.setIfInBounds i true) (a.put oi.dst v) → Aar P md ops S Q (fuel + 1) listed a := by
 intro fuel
 induction fuel with
 | zero =>
  intro listed a _ n x H;refine ⟨fun h => (by rw [h] at n; cases n), fun j w => ?_⟩;by_cases c : j = i
  · subst c; exact x.hOp hi H
  · have := ready_mono w c;rw [H.1] at this;cases this
 | succ fuel ih =>
  intro listed a d n x H;refine ⟨fun h => (by rw [h] at n; cases n), fun j w => ?_⟩;by_cases c : j = i
  · subst c; exact x.hOp hi H
  · have u := H.2 j (ready_mono w c);obtain ⟨l, oj, m, p⟩ := mem_ready.1 w
    have s : ∀ e ∈ oj.after, Region.binds md e = true → e.on ≠ i := fun e he hb y => by
     have u := p e he hb;have h0 := (mem_ready.1 n).1;rw [y, getD_both h0] at u;cases u
    have h2 := Afz m (d j oj m c l s) (fun cs b => hsel i oi cs b hi) (fun cs b => hsel j oj cs b m) x u
    have g : ∀ k ok, ops[k]? = some ok → k ≠ i → (listed.setIfInBounds j true).getD k true = false →
     (∀ e ∈ ok.after, Region.binds md e = true → e.on ≠ i) → oi.apart ops ok = true := fun k ok hk z t aa => by
     refine d k ok hk z ?_ aa;by_cases q : j = k
     · subst q; exact l
     · rw [getD_set_ne true q] at t; exact t
    refine AcZ (fun a' h3 => ih (listed.setIfInBounds j true) a' g (ready_mono n (Ne.symm c)) h3.1 ?_) h2;rw [NR _ _ c];exact h3.2
theorem Ui {Q : Act → Prop} (hs : Region.noSelect ops = true) : ∀ (l : List Oper) (k : Nat) (listed : Array Bool) (a : Act), (∀ j, l[j]? = ops[k + j]?) →
 Region.lexFrom md ops l.length k listed = true → ZX P ops S Q l a → Aar P md ops S Q l.length listed a
 | [], _, _, _, _, hB, h => ⟨by simpa [Region.lexFrom] using hB, h⟩
 | o :: l, k, listed, a, hl, hB, h => by
  have h0 : ops[k]? = some o := by simpa using (hl 0).symm
  simp only [Le, Region.lexFrom, Nc] at hB
  obtain ⟨⟨hr, hf⟩, hB'⟩ := hB
  obtain ⟨v, hy, hK⟩ := h
  exact Acm h0 (Region.noSelect_spec hs) l.length listed a (Region.free_spec h0 hf) (by simpa using hr) hy
   (Ui hs l (k + 1) _ _ (fun j => by have := hl (j + 1); simpa [Nat.add_assoc, Nat.add_comm 1 j] using this) hB' hK)
theorem ZJ {id : Nat} {Q : Exit → Act → World → Prop} {a : Act} {w : World} {l : List Oper} (S : World → Prop) (hm : P.follows .mixedOrders = true) (hB : Region.lexB .any l.toArray = true) (hS : S w.drew)
 (h : ZX P l.toArray S (fun a' => ∀ W, S W → Q .normal a' W) l a) : (Code.region id l.toArray true).wp P Q a w := by
 simp only [Region.lexB, Nc] at hB;refine wp_region_any hm (XF (S := S) (Q := fun a' => ∀ W, S W → Q .normal a' W) (fun _ W h b => h W b) _ _ _ _ hS ?_);have := Ui (md := .any) hB.1 l 0 (Array.replicate l.toArray.size false) a (by simp) (by simpa using hB.2) h;simpa using this
def UU (P : Program) (md : Region.Mode) (ops : Array Oper) (S : World → Prop) (n : Nat) (L : Array Bool → Act → Prop) : Nat → Array Bool → Act → Prop
 | 0, listed, a => L listed a
 | f + 1, listed, a =>
  Region.ready md ops listed ≠ [] ∧ ∀ i ∈ Region.ready md ops listed, i < n ∧ hOp P ops S i (UU P md ops S n L f (listed.setIfInBounds i true)) a
theorem Xl {n g : Nat} {L : Array Bool → Act → Prop} {Q' : Exit → Act → World → Prop} (hL : ∀ listed a W, L listed a → S W → wpAny P md ops Q' g listed a W) :
 ∀ (f : Nat) (listed : Array Bool) (a : Act) (w : World), S w → UU P md ops S n L f listed a → wpAny P md ops Q' (f + g) listed a w
 | 0, listed, a, w, hS, h => by rw [LN]; exact hL _ _ _ h hS
 | f + 1, listed, a, w, hS, h => by
  rw [show f + 1 + g = (f + g) + 1 by omega]
  exact ⟨fun h0 => absurd h0 h.1, fun i hi => VC hS (fun a' W h' hW => Xl hL f _ a' W hW h') (h.2 i hi).2⟩
theorem AaJ {n i : Nat} {oi : Oper} {v : Value} {L : Array Bool → Act → Prop} (hi : ops[i]? = some oi) (hsel : ∀ (j : Nat) (o : Oper) cs b, ops[j]? = some o → o.op ≠ .select cs b)
 (hs : Region.sinkB md ops n = true) (hc : Region.chainB md ops n = true) (hn : n < ops.size) (hin : i < n)
 (hdone : ∀ listed a, L listed a → ∀ j ∈ Region.ready md ops listed, n ≤ j) :
 ∀ (f : Nat) (listed : Array Bool) (a : Act), HeadInv md ops n listed →
  (∀ j oj, ops[j]? = some oj → j ≠ i → listed.getD j true = false → (∀ e ∈ oj.after, Region.binds md e = true → e.on ≠ i) → oi.apart ops oj = true) →
  i ∈ Region.ready md ops listed → YieldsH P ops S oi v a →
  UU P md ops S n L f (listed.setIfInBounds i true) (a.put oi.dst v) → UU P md ops S n L (f + 1) listed a := by
 intro f
 induction f with
 | zero =>
  intro listed a inv _ q z H;have d := (mem_ready.1 q).1;refine ⟨fun h => (by rw [h] at q; cases q), fun j s => ?_⟩
  have m : j < n := by
   rcases Nat.lt_or_ge j n with h | h
   · exact h
   · exact absurd s (tail_waits hs hc hn inv _ i rfl hin d j h)
  refine ⟨m, ?_⟩;by_cases c : j = i
  · subst c; exact z.hOp hi H
  · have := hdone _ _ H j (ready_mono s c);omega
 | succ f ih =>
  intro listed a inv g q z H;have d := (mem_ready.1 q).1;refine ⟨fun h => (by rw [h] at q; cases q), fun j s => ?_⟩
  have m : j < n := by
   rcases Nat.lt_or_ge j n with h | h
   · exact h
   · exact absurd s (tail_waits hs hc hn inv _ i rfl hin d j h)
  refine ⟨m, ?_⟩;by_cases c : j = i
  · subst c; exact z.hOp hi H
  · have y := (H.2 j (ready_mono s c)).2;obtain ⟨p, oj, t, u⟩ := mem_ready.1 s
    have x : ∀ e ∈ oj.after, Region.binds md e = true → e.on ≠ i := fun e he hb aa => by
     have y := u e he hb;rw [aa, getD_both d] at y;cases y
    have h2 := Afz t (g j oj t c p x) (fun cs b => hsel i oi cs b hi) (fun cs b => hsel j oj cs b t) z y
    have l : ∀ k ok, ops[k]? = some ok → k ≠ i → (listed.setIfInBounds j true).getD k true = false →
     (∀ e ∈ ok.after, Region.binds md e = true → e.on ≠ i) → oi.apart ops ok = true := fun k ok hk ab d ac => by
     refine g k ok hk ab ?_ ac;by_cases w : j = k
     · subst w; exact p
     · rw [getD_set_ne true w] at d; exact d
    refine AcZ (fun a' h3 => ih (listed.setIfInBounds j true) a' (inv.set s m) l (ready_mono q (Ne.symm c)) h3.1 ?_) h2;rw [NR _ _ c];exact h3.2
theorem YI {n g : Nat} {Lq : Act → Prop} (hsel : Region.noSelect ops = true) (hs : Region.sinkB md ops n = true) (hc : Region.chainB md ops n = true) (hn : n < ops.size) :
 ∀ (l : List Oper) (k : Nat) (listed : Array Bool) (a : Act), (∀ j, j < l.length → l[j]? = ops[k + j]?) → k + l.length = n → HeadInv md ops n listed →
 Region.lexHead md ops g l.length k listed = true → ZX P ops S Lq l a →
 UU P md ops S n (fun listed' a' => Region.seqB md ops g n listed' = true ∧ Lq a') l.length listed a
 | [], k, listed, a, _, hk, _, hB, h => by
  have : k = n := by simpa using hk
  subst this
  exact ⟨by simpa [Region.lexHead] using hB, h⟩
 | o :: l, k, listed, a, hl, hk, inv, hB, h => by
  have h0 : ops[k]? = some o := by simpa using (hl 0 (by simp)).symm
  simp only [Le, Region.lexHead, Nc] at hB
  obtain ⟨⟨hr, hf⟩, hB'⟩ := hB
  have hkn : k < n := by simp only [Le] at hk; omega
  have hr' : k ∈ Region.ready md ops listed := by simpa using hr
  obtain ⟨v, hy, hK⟩ := h
  exact AaJ h0 (Region.noSelect_spec hsel) hs hc hn hkn (fun listed' a' hL => seqB_ready hL.1) l.length listed a inv (Region.free_spec h0 hf) hr' hy
   (YI hsel hs hc hn l (k + 1) _ _ (fun j hj => by have := hl (j + 1) (by simp; omega); simpa [Nat.add_assoc, Nat.add_comm 1 j] using this) (by simp only [Le] at hk; omega) (inv.set hr' hkn) hB' hK)
theorem ZA {id : Nat} {Q : Exit → Act → World → Prop} {a : Act} {w : World} {l : List Oper} (S : World → Prop) (n : Nat) (hm : P.follows .mixedOrders = true) (hB : Region.lexTailB .any l.toArray n = true) (hS : S w.drew)
 (h : ZX P l.toArray S (fun a' => ∀ W, S W → wpList P l.toArray Q (l.drop n) a' W) (l.take n) a) : (Code.region id l.toArray true).wp P Q a w := by
 simp only [Region.lexTailB, Nc, decide_eq_true_eq] at hB;obtain ⟨⟨⟨⟨i, s⟩, y⟩, v⟩, e⟩ := hB;have x : n < l.length := by simpa using s
 have b : (l.take n).length = n := by simp; omega
 have d : (l.drop n).length = l.toArray.size - n := by simp
 have k : HeadInv .any l.toArray n (Array.replicate l.toArray.size false) :=
  ⟨by simp, fun j oj _ q => (by rw [getD_replicate_false] at q; cases q), fun t _ z => getD_in (by simpa using z) (getD_replicate_false _ _)⟩
 have H := YI (md := .any) (g := l.toArray.size - n) i y v s (l.take n) 0 _ a (fun j p => by
  have m : j < n := by rw [b] at p; exact p
  simp [m]) (by simpa using b) k (by rw [b]; exact e) h
 refine wp_region_any hm ?_
 have := Xl (Q' := Q) (g := l.toArray.size - n) (fun c a' W o u => by
  have := wpAny_of_seq (md := .any) (Q' := Q) (l.drop n) n c a' W (fun j => by simp [Nv]) (by rw [d]; exact o.1) (o.2 W u)
  rwa [d] at this) _ _ _ _ hS H
 rw [b, show n + (l.toArray.size - n) = l.toArray.size by omega] at this;exact this
end
theorem Z1 {P : Program} {ops : Array Oper} {S : World → Prop} {a : Act} {o : Oper} (hw : Region.wanted o (yielded ops a.tmps) = true) (ty : TypeId) (x : Operand) (ho : o.op = .load ty x) (g : Nat) (hx : a.eval x = .pointer (some ⟨g, 0, none⟩)) (t : TypeId) (cs : Array Value) (d : TypeDesc)
 (hr : ∀ W, S W → Row W g t cs) (hu : P.underlying ty = some d) (hd : (match d with | .struct _ | .array _ _ => true | _ => false) = true) (hi : (P.info? ty).map (·.size) = some cs.size) : YieldsIf P ops S o (.agg cs) a :=
 .inl ⟨hw, fun W hW => by simp only [execOp, ho, hx, Instr.loadAt, Instr.sureAddr, Sem.run_bind, Sem.run_pure, Result.andThen_ok, run_loadVar_row W g t ty cs (0, 0) d (hr W hW) hu hd hi]⟩
theorem Qd {P : Program} {ops : Array Oper} {S : World → Prop} {a : Act} {o : Oper} (hw : Region.wanted o (yielded ops a.tmps) = true) {v : Value} (hv : ∀ W, S W → (execOp a.eval o).run P W = .ok (.value v) W) : YieldsIf P ops S o v a := .inl ⟨hw, hv⟩
theorem VJ {l : List Oper} {i : Nat} {o : Oper} {rest : List Oper} (ho : l.drop i = o :: rest) : l.toArray[i]? = some o := by
 have := congrArg List.head? ho;rw [List.head?_drop] at this; simpa using this
theorem Ak7 {P : Program} {md : Region.Mode} {l : List Oper} {Q : Exit → Act → World → Prop} {S : World → Prop} {i : Nat} {oi : Oper} {rest : List Oper} {v : Value} {fuel : Nat} {listed : Array Bool} {a : Act} {w : World} (ho : l.drop i = oi :: rest)
 (hs : Region.noSelect l.toArray = true) (hf : Region.free md l.toArray listed i = true) (hr : (Region.ready md l.toArray listed).contains i = true)
 (hQ : ∀ c a w, Q (.panic c) (a.put oi.dst v) w → Q (.panic c) a w) (hy : YieldsIf P l.toArray S oi v a) (hS : S w)
 (h : wpAnyH P md l.toArray Q S fuel (listed.setIfInBounds i true) (a.put oi.dst v) w) : wpAnyH P md l.toArray Q S (fuel + 1) listed a w :=
 wpAnyH_take (VJ ho) hs hf hr hQ hy hS h
theorem tkH {P : Program} {md : Region.Mode} {l : List Oper} {Q : Exit → Act → World → Prop} {S : World → Prop} (i : Nat) {oi : Oper} {rest : List Oper} (v : Value) {fuel : Nat} {listed : Array Bool} {a : Act} {w : World} (ho : l.drop i = oi :: rest) (hy : YieldsIf P l.toArray S oi v a)
 (h : wpAnyH P md l.toArray Q S fuel (listed.setIfInBounds i true) (a.put oi.dst v) w) (hs : Region.noSelect l.toArray = true := by kernel_rfl) (hf : Region.free md l.toArray listed i = true := by kernel_rfl) (hr : (Region.ready md l.toArray listed).contains i = true := by kernel_rfl)
 (hQ : ∀ c a w, Q (.panic c) (a.put oi.dst v) w → Q (.panic c) a w := by exact fun _ _ _ h => h) (hS : S w := by assumption) : wpAnyH P md l.toArray Q S (fuel + 1) listed a w := Ak7 ho hs hf hr hQ hy hS h
theorem Qf {P : Program} {l : List Oper} {Q : Exit → Act → World → Prop} {i : Nat} {o : Oper} {rest : List Oper} {K : Act → World → Prop} {a : Act} {w : World} (ho : l.drop i = o :: rest) (hg : o.guard = none) (h : ∀ K' : Act → World → Prop, (∀ a w, K a w → K' a w) → o.wp P a w K' Q) : wpOp P l.toArray Q i K a w := by
 have b := VJ ho;unfold wpOp; simp only [b]; rw [if_pos (by simp [Region.wanted, hg])]; exact .inl (h K fun _ _ h => h)
theorem ZC {P : Program} {o : Oper} {a : Act} {w : World} {K : Act → World → Prop} {Q : Exit → Act → World → Prop} (ty : TypeId) (p x : Operand) (ho : o.op = .store ty p x) (g : Nat) (cells : Array Value) (hp : a.eval p = .pointer (some ⟨g, 0, none⟩)) (hx : a.eval x = .agg cells)
 (t : TypeId) (cur : Array Value) (hg : Row w g t cur) (hi : (P.info? ty).map (·.size) = some cells.size) (hs : cur.size = cells.size) (h1 : cells.all (·.oneCell') = true)
 (h : ∀ w', Row w' g t cells → Only g w w' → K (a.put o.dst undef) w') : o.wp P a w K Q := by
 have := wp_store_row (P := P) (o := o) (a := a) (w := w) (K := K) (Q := Q) ty p x ho g cells hp hx t cur hg hi hs h1 (h _ (hg.setRow cells) (Zv _ _ _));exact this
theorem Qo {P : Program} {o : Oper} {a : Act} {w w1 : World} {K : Act → World → Prop} {Q : Exit → Act → World → Prop} (f : FuncId) (args : Array Value) (he : (execOp a.eval o).run P w = .ok (.enter f args) w1)
 (hc : Calls P f args w1 fun e w' => ∃ v, e = .returned v ∧ K (a.put o.dst v) w') : o.wp P a w K Q := by
 unfold Oper.wp; rw [he]; simp only [Oper.upon];exact hc.mono fun e w' ⟨v, h1, h2⟩ => by subst h1; exact h2
theorem Qs {P : Program} {o : Oper} {a : Act} {w w1 : World} {K : Act → World → Prop} {Q : Exit → Act → World → Prop} (v : Value) (he : (execOp a.eval o).run P w = .ok (.value v) w1) (h : K (a.put o.dst v) w1) : o.wp P a w K Q := by
 unfold Oper.wp; rw [he]; exact h
def VW {β : Type} (own : Nat → Prop) (B : Nat) (J : β → World → Prop) : Prop :=
 ∀ s W W' row, J s W → W.grownBy W' row → (∀ r, row = some r → own r ∨ (B ≤ r ∧ ∃ o : Obj, W.heap[r]? = some o ∧ o.isCells = false)) → J s W'
def Acs {α : Type} (P : Program) (g : Nat) (lb : Array Value) (encs : α → Array Value) (own : Nat → Prop) (Kp : World → World → Prop) (S Sp : List α → Prop) (N : Nat) (w : World) : Prop :=
 ∀ (l : Nat) (J Jx : List α → World → Prop) (W : World), W.grownBy W none → w.grownBy W none → VW own W.heap.size J → VW own W.heap.size Jx →
  (∀ pre x W1, J pre W1 → pre.length < N → YieldAt Fence.wide 0 P l (encs x) W1 fun e W' =>
   (e = .returned (.bool true) ∧ J (pre ++ [x]) W' ∧ Kp W1 W') ∨ (e = .returned (.bool false) ∧ Jx (pre ++ [x]) W')) →
  J [] W →
  CallsIn Fence.wide 0 P g (#[.func (.yield l) #[] #[]] ++ lb) W fun e W' => (∃ v, e = .returned v) ∧ ((∃ xs, S xs ∧ J xs W') ∨ (∃ pre, Sp pre ∧ Jx pre W'))
theorem KeepsFrom.of_below {B : Nat} {W W' : World} (h : Below W.heap.size W W') : KeepsFrom B W W' :=
 ⟨h.size, fun k _ _ hk _ => (h.block k (Lt.1 hk).1).trans hk⟩
theorem KeepsFrom.alloc (B : Nat) (W : World) (o : Obj) : KeepsFrom B W (W.alloc o) := (KeepsOthers.alloc W o).from B
theorem KeepsFrom.setRow {B : Nat} {W : World} {g : Nat} {t : TypeId} {cs : Array Value} (h : Row W g t cs) (cells : Array Value) : KeepsFrom B W (W.setRow g cells) :=
 ⟨by simp [World.setRow], fun k o _ hk ho => by
  simp only [World.setRow, Ng]
  by_cases e : g = k
  · subst e; rw [h] at hk; cases hk; cases ho
  · rw [if_neg e, hk]⟩
theorem Ab9 (W : World) (g k : Nat) (cells : Array Value) (h : k ≠ g) : (W.setRow g cells).heap[k]? = W.heap[k]? := by
 simp only [World.setRow, Ng]; rw [if_neg (by omega)]
section
variable {F : Fence} {n : Nat} {P : Program}
theorem Q7 {ops : Array Oper} {rest : List Oper} {o : Oper} {a : Act} {w : World} {Q : Exit → Act → World → Prop} (hgd : o.guard = none) (ty : TypeId) (x : Operand) (ho : o.op = .load ty x)
 (g : Nat) (hx : a.eval x = .pointer (some ⟨g, 0, none⟩)) (t : TypeId) (cs : Array Value) (fr : Nat × Nat) (d : TypeDesc) (hg : w.heap[g]? = some (.cells cs t fr))
 (hu : P.underlying ty = some d) (hd : (match d with | .struct _ | .array _ _ => true | _ => false) = true) (hi : (P.info? ty).map (·.size) = some cs.size)
 (h : wpListIn F n P ops Q rest (a.put o.dst (.agg cs)) w) : wpListIn F n P ops Q (o :: rest) a w := by
 refine wpListIn_plain hgd fun K e => ?_
 unfold Oper.wpIn;refine ⟨?_, ?_⟩
 · simp [Oper.about, ho]
 · rw [Oper.semAt_plain F _ _ (by rw [ho]; intro c b; cases b)];simp only [execOp, ho, hx, Instr.loadAt, Instr.sureAddr, Sem.run_bind, Sem.run_pure, Result.andThen_ok, run_loadVar_row w g t ty cs fr d hg hu hd hi];exact e _ _ h
theorem Vf (w : World) (g : Nat) (ty : TypeId) (cs : List Value) (d : TypeDesc) (hc : ∀ j v, cs[j]? = some v → w.cell? ⟨g, j, none⟩ = some v)
 (hu : P.underlying ty = some d) (hd : (match d with | .struct _ | .array _ _ => true | _ => false) = true) (hi : (P.info? ty).map (·.size) = some cs.length) :
 (loadVar ty ⟨g, 0, none⟩).run P w = .ok (.agg cs.toArray) w := by
 have c : (loadCells ⟨g, 0, none⟩ cs.length).run P w = .ok cs.toArray w :=
  run_loadCells_list (P := P) w ⟨g, 0, none⟩ cs (fun j v h => by
   rw [show ((⟨g, 0, none⟩ : Addr).add j) = ⟨g, j, none⟩ from by unfold Addr.add; split <;> simp_all]
   exact hc j v h)
 cases hq : P.info? ty with
 | none => simp [hq] at hi
 | some i =>
  have e : i.size = cs.length := by simpa [hq] using hi
  have b : (isAgg ty).run P w = .ok true w := by
   unfold isAgg;rw [Sem.run_bind, run_underlying hu w];cases d <;> simp_all
  simp [loadVar, Sem.run_bind, b, sizeOf, typeInfo, hq, e, c]
theorem Uj {ops : Array Oper} {rest : List Oper} {o : Oper} {a : Act} {w : World} {Q : Exit → Act → World → Prop} (hgd : o.guard = none) (ty : TypeId) (x : Operand) (ho : o.op = .load ty x)
 (g : Nat) (hx : a.eval x = .pointer (some ⟨g, 0, none⟩)) (cs : List Value) (d : TypeDesc) (hc : ∀ j v, cs[j]? = some v → w.cell? ⟨g, j, none⟩ = some v)
 (hu : P.underlying ty = some d) (hd : (match d with | .struct _ | .array _ _ => true | _ => false) = true) (hi : (P.info? ty).map (·.size) = some cs.length)
 (h : wpListIn F n P ops Q rest (a.put o.dst (.agg cs.toArray)) w) : wpListIn F n P ops Q (o :: rest) a w := by
 refine wpListIn_plain hgd fun K e => ?_
 unfold Oper.wpIn;refine ⟨?_, ?_⟩
 · simp [Oper.about, ho]
 · rw [Oper.semAt_plain F _ _ (by rw [ho]; intro c b; cases b)];simp only [execOp, ho, hx, Instr.loadAt, Instr.sureAddr, Sem.run_bind, Sem.run_pure, Result.andThen_ok, Vf w g ty cs d hc hu hd hi];exact e _ _ h
theorem Q5 {ops : Array Oper} {rest : List Oper} {o : Oper} {a : Act} {w : World} {Q : Exit → Act → World → Prop} (hgd : o.guard = none) (ty : TypeId) (x y : Operand) (ho : o.op = .store ty x y)
 (g : Nat) (cells : Array Value) (hx : a.eval x = .pointer (some ⟨g, 0, none⟩)) (hy : a.eval y = .agg cells)
 (t : TypeId) (old : Array Value) (hg : w.heap[g]? = some (.cells old t (0, 0))) (hi : (P.info? ty).map (·.size) = some cells.size)
 (hold : old.size = cells.size) (h1 : cells.all (·.oneCell') = true)
 (h : wpListIn F n P ops Q rest (a.put o.dst undef) (w.setRow g cells)) : wpListIn F n P ops Q (o :: rest) a w := by
 refine wpListIn_plain hgd fun K d => ?_
 unfold Oper.wpIn;refine ⟨?_, ?_⟩
 · simp [Oper.about, ho]
 · rw [Oper.semAt_plain F _ _ (by rw [ho]; intro c b; cases b)];simp only [execOp, ho, hx, hy, Instr.storeAt, Instr.sureAddr, Sem.run_bind, Sem.run_pure, Result.andThen_ok, run_storeVar_row w g t ty old cells hg hi hold h1];exact d _ _ h
end
section
variable {P : Program}
theorem AbW {α : Type} {g : Operand} {ps : Array Tmp} {assign body : Code} {Q : Exit → Act → World → Prop} {a : Act} {w : World}
 {gf : Nat} {lb : Array Value} (hg : a.eval g = .func (.func gf) #[] lb) (eg : ∀ args w, (callFunc gf args).run P w = .ok (.enter gf args) w)
 {encs : α → Array Value} {own : Nat → Prop} {Kp : World → World → Prop} {S Sp : List α → Prop} {N : Nat} {w0 : World} (hseq : Acs P gf lb encs own Kp S Sp N w0)
 (hown : ∀ r, own r → r < w.heap.size)
 (hKt : ∀ {A B C : World}, Kp A B → Kp B C → Kp A C) (hKb : ∀ (W : World) (l : Nat) (o o' : Obj), w.heap.size ≤ l → W.heap[l]? = some o → o.isCells = false → Kp W (W.putObj l o')) (hb0 : w0.grownBy w none) (hps : ∀ x, (encs x).size = ps.size)
 (I : List α → World → Prop) (Ix : Code → List α → World → Prop) (hI : VW own w.heap.size I) (hIx : ∀ c, VW own w.heap.size (Ix c)) (h0 : I [] w) (Ax : α → Act → World → Prop) (hAx : ∀ x a', VW own w.heap.size (fun (_ : Unit) W => Ax x a' W))
 (hassign : ∀ (l : Nat) (pre : List α) (x : α) (W : World) (K : Act → World → Prop), I pre W → (∀ a' W', KeepsFrom w.heap.size W W' → Kp W W' → I pre W' → Ax x a' W' → K a' W') →
  assign.wpIn (Fence.wide.inRound l) 0 P (Exit.then K (fun _ _ _ => False)) { tmps := (ps.zip (encs x)).foldl (fun t (p, v) => t.setIfInBounds p v) a.tmps, defers := [] } W)
 (hbody : ∀ (l : Nat) (pre : List α) (x : α) (a' : Act) (W : World), w.heap.size ≤ l → (∃ r, W.heap[l]? = some (.loop r)) → I pre W → Ax x a' W → pre.length < N → body.wpIn (Fence.wide.inRound l) 0 P (ownPostG w.heap.size Kp I Ix (pre ++ [x]) W) a' W)
 (hdone : ∀ (D : Nat) (xs : List α) (W : World), w.heap.size ≤ D → S xs → I xs W → W.heap[D]? = some (.deferred (some [])) → Q .normal { a with defers := { target := .collected D, args := #[] } :: a.defers } W)
 (hstop : ∀ (D : Nat) (c : Code) (pre : List α) (W : World), w.heap.size ≤ D → Sp pre → Ix c pre W → W.heap[D]? = some (.deferred (some [])) → c.wpIn Fence.wide 0 P Q { a with defers := { target := .collected D, args := #[] } :: a.defers } W) :
 (Code.rangeFunc g ps assign body).wpIn Fence.wide 0 P Q a w := by
 refine wpIn_rangeFunc ?_;intro fn au;obtain ⟨d, i⟩ : ∃ d : LoopState → Option Code → Loop, d = fun st pe => { state := st, pending := pe, fn, tmps := a.tmps, params := ps, assign, body, defers := w.heap.size } := ⟨_, rfl⟩;obtain ⟨z, ae⟩ : ∃ z, (w.alloc (.deferred (some []))).alloc (.loop (d .ready none)) = z := ⟨_, rfl⟩
 have ap : z.heap[w.heap.size + 1]? = some (.loop (d .ready none)) := by
  rw [← ae]; have := World.alloc_heap_new (w.alloc (.deferred (some []))) (.loop (d .ready none)); rwa [World.size_alloc] at this
 have ao : z.heap[w.heap.size]? = some (.deferred (some [])) := by
  rw [← ae]; exact (Below.heap_alloc _ _ _ (by simp)).trans (World.alloc_heap_new w _)
 have aa : ∀ {s : List α} {W : World} {l : Nat} {o : Obj} (o' : Obj), I s W → w.heap.size ≤ l → W.heap[l]? = some o → o.isCells = false → I s (W.putObj l o') :=
  fun o' hs hB q ho => hI _ _ _ (some _) hs (grownBy_putObj' _ _ o') (fun r e => by cases e; exact .inr ⟨hB, _, q, ho⟩)
 have m : ∀ {c : Code} {s : List α} {W : World} {l : Nat} {o : Obj} (o' : Obj), Ix c s W → w.heap.size ≤ l → W.heap[l]? = some o → o.isCells = false → Ix c s (W.putObj l o') :=
  fun o' hs hB q ho => hIx _ _ _ _ (some _) hs (grownBy_putObj' _ _ o') (fun r e => by cases e; exact .inr ⟨hB, _, q, ho⟩)
 have an : I [] z := by
  rw [← ae]; exact hI _ _ _ none (hI _ _ _ none h0 (World.grownBy_alloc _ _ _) (fun r e => by cases e)) (World.grownBy_alloc _ _ _) (fun r e => by cases e)
 have av : w0.grownBy z none := by
  rw [← ae]
  exact ⟨hb0.os, hb0.tape, hb0.output, Li hb0.size (by simp; omega), fun k hk _ => by
   have := hb0.size
   rw [Below.heap_alloc _ _ _ (by simp; omega), Below.heap_alloc _ _ _ (by omega)]; exact hb0.block k hk (by simp)⟩
 have s1 : z.heap.size = w.heap.size + 2 := by rw [← ae]; simp
 refine ⟨w.heap.size + 1, [{ target := .collected w.heap.size, args := #[] }], z, { target := .fn (.func gf) lb, args := #[.func (.yield (w.heap.size + 1)) #[] #[]] }, z, gf,
  #[.func (.yield (w.heap.size + 1)) #[] #[]] ++ lb, z, ?_, ?_, ?_, ?_, (fun h => by cases h), ?_⟩
 · rw [← ae, i]; exact run_enterLoop_outer _ _ _ _ _
 · simp only [resolve, hg];simp [go_sem]
 · intro f' _; trivial
 · simp [invoke, go_sem, eg]
 · have am : ∀ {A B : World} {row : Option Nat}, (∀ r, row = some r → own r ∨ (z.heap.size ≤ r ∧ ∃ o : Obj, A.heap[r]? = some o ∧ o.isCells = false)) → (∀ r, row = some r → own r ∨ (w.heap.size ≤ r ∧ ∃ o : Obj, A.heap[r]? = some o ∧ o.isCells = false)) :=
    fun y r e => by
     rcases y r e with h | ⟨hB, h⟩
     · exact .inl h
     · exact .inr ⟨by omega, h⟩
   have af : ∀ {A B : World} {row : Option Nat} {k : Nat} {o : Obj}, A.grownBy B row → (∀ r, row = some r → own r ∨ (z.heap.size ≤ r ∧ ∃ o : Obj, A.heap[r]? = some o ∧ o.isCells = false)) → w.heap.size ≤ k → k < z.heap.size → A.heap[k]? = some o → B.heap[k]? = some o :=
    fun u y h1 h2 hk => (u.block _ (Lt.1 hk).1 (fun e => by
     rcases y _ e.symm with h | ⟨h, _⟩
     · have := hown _ h; omega
     · omega)).trans hk
   refine (hseq (w.heap.size + 1)
    (fun pre W => I pre W ∧ W.heap[w.heap.size + 1]? = some (.loop (d .ready none)) ∧ W.heap[w.heap.size]? = some (.deferred (some [])))
    (fun pre W => ∃ c, Ix c pre W ∧ W.heap[w.heap.size + 1]? = some (.loop (d .done (some c))) ∧ W.heap[w.heap.size]? = some (.deferred (some [])))
    z (World.grownBy.refl z none) av
    (fun s A B row hs u y => ⟨hI s A B row hs.1 u (am (B := B) y), af u y (by omega) (by omega) hs.2.1, af u y (by omega) (by omega) hs.2.2⟩)
    (fun s A B row hs u y => by
     obtain ⟨c, hc, q, hk⟩ := hs
     exact ⟨c, hIx c s A B row hc u (am (B := B) y), af u y (by omega) (by omega) q, af u y (by omega) (by omega) hk⟩)
    ?_ ⟨an, ap, ao⟩).mono ?_
   · rintro pre x W ⟨hi, q, hk⟩ ak;have al : w.heap.size + 1 < W.heap.size := (Lt.1 q).1;have hy := run_yield (P := P) (args := encs x) q (by rw [i]; exact hps x);rw [i] at hy;refine ⟨fn, _, assign, body, hy, roundIn_of_wpIn au (hassign _ pre x W _ hi ?_)⟩;clear hy;intro a' Wa ag ai aw ar;replace q := ag.same _ _ (by omega) q rfl;replace hk := ag.same _ _ (Nat.le_refl _) hk rfl;replace al : w.heap.size + 1 < Wa.heap.size := (Lt.1 q).1;refine ⟨_, run_beginRound q (by rw [i]), ?_⟩;have aj : (Wa.putObj (w.heap.size + 1) (.loop { d .ready none with state := .busy })).heap[w.heap.size + 1]? = some (.loop { d .ready none with state := .busy }) := World.putObj_heap_same al;have ax : (Wa.putObj (w.heap.size + 1) (.loop { d .ready none with state := .busy })).heap[w.heap.size]? = some (.deferred (some [])) := (World.putObj_heap_other (by omega)).trans hk;have ay : Kp Wa (Wa.putObj (w.heap.size + 1) (.loop { d .ready none with state := .busy })) := hKb _ _ _ _ (by omega) q rfl;refine wpIn_mono (hbody _ pre x a' _ (by omega) ⟨_, aj⟩ (aa _ aw (by omega) q rfl) (hAx x a' () _ _ (some _) ar (grownBy_putObj' _ _ _) (fun r e => by cases e; exact .inr ⟨by omega, _, q, rfl⟩)) ak) ?_
     have fin : ∀ (b : Option Code) (W3 : World), KeepsFrom w.heap.size (Wa.putObj (w.heap.size + 1) (.loop { d .ready none with state := .busy })) W3 →
      (Instr.endRound (w.heap.size + 1) b).run P W3 = .ok (.bool b.isNone) (W3.putObj (w.heap.size + 1) (.loop (d (if b.isNone then .ready else .done) b))) ∧
      W3.heap[w.heap.size + 1]? = some (.loop { d .ready none with state := .busy }) ∧
      (W3.putObj (w.heap.size + 1) (.loop (d (if b.isNone then .ready else .done) b))).heap[w.heap.size + 1]? = some (.loop (d (if b.isNone then .ready else .done) b)) ∧
      (W3.putObj (w.heap.size + 1) (.loop (d (if b.isNone then .ready else .done) b))).heap[w.heap.size]? = some (.deferred (some [])) := fun b W3 n => by
      have j := n.same _ _ (by omega) aj rfl;have := run_endRound (P := P) b j;rw [i] at this ⊢;exact ⟨this, by rw [i] at j; exact j, World.putObj_heap_same (Lt.1 j).1, (World.putObj_heap_other (by omega)).trans (n.same _ _ (Nat.le_refl _) ax rfl)⟩
     rintro e a3 W3 hp;cases e with
     | normal =>
      obtain ⟨n, ah, ab⟩ := hp;obtain ⟨y, j, ad, ac⟩ := fin none W3 n;exact ⟨_, _, y, .inl ⟨rfl, ⟨aa _ ab (by omega) j rfl, ad, ac⟩, hKt ai (hKt (hKt ay ah) (hKb _ _ _ _ (by omega) j rfl))⟩⟩
     | ret =>
      obtain ⟨n, ab⟩ := hp;obtain ⟨y, j, ad, ac⟩ := fin (some .ret) W3 n;exact ⟨_, _, y, .inr ⟨rfl, .ret, m _ ab (by omega) j rfl, ad, ac⟩⟩
     | exit id =>
      obtain ⟨n, ab⟩ := hp;obtain ⟨y, j, ad, ac⟩ := fin (some (.exit id)) W3 n;exact ⟨_, _, y, .inr ⟨rfl, .exit id, m _ ab (by omega) j rfl, ad, ac⟩⟩
     | goto t =>
      obtain ⟨n, ab⟩ := hp;obtain ⟨y, j, ad, ac⟩ := fin (some (.goto t)) W3 n;exact ⟨_, _, y, .inr ⟨rfl, .goto t, m _ ab (by omega) j rfl, ad, ac⟩⟩
     | panic ch => exact hp.elim
     | outgrown => exact hp.elim
   · rintro e W2 ⟨⟨v, rfl⟩, (⟨xs, hS, hi, q, hk⟩ | ⟨pre, aq, c, hi, q, hk⟩)⟩
     · exact ⟨none, _, by have := run_endLoop (P := P) q (by rw [i]; simp); rw [i] at this; exact this, hdone _ xs _ (Nat.le_refl _) hS (aa _ hi (by omega) q rfl) ((World.putObj_heap_other (by omega)).trans hk)⟩
     · exact ⟨some c, _, by have := run_endLoop (P := P) q (by rw [i]; simp); rw [i] at this; exact this, hstop _ c pre _ (Nat.le_refl _) aq (m _ hi (by omega) q rfl) ((World.putObj_heap_other (by omega)).trans hk)⟩
end
end Go.Proofs.YtkoikjnlpifbjaaGreat
namespace Go.Proofs.YtkoikjnlpifbjaaGreat
open Go.ChangeShapes Go.WideShapes Go.RowKit Go.Deep
theorem JI (a : Addr) (n : Nat) : (a.add n).block = a.block := by unfold Addr.add; split <;> rfl
theorem KY (a : Addr) (i j : Nat) : (a.add i).add j = a.add (i + j) := by
 unfold Addr.add;by_cases hi : i = 0 <;> by_cases b : j = 0 <;> simp [hi, b, Nat.add_assoc]
def Rd (w : World) (A : Option Addr) (xs : List Value) : Prop := ∀ j u, xs[j]? = some u → ∃ ad, A = some ad ∧ w.cell? (ad.add j) = some u
theorem Rd.nil (w : World) (A : Option Addr) : Rd w A [] := fun j u h => by simp at h
theorem Rd.go {w w' : World} {A : Option Addr} {xs : List Value} (h : Rd w A xs) (b : Below w.heap.size w w') : Rd w' A xs := fun j u hj => by
 obtain ⟨d, e, c⟩ := h j u hj;exact ⟨d, e, (b.cell (World.block_lt_of_cell? _ _ c)).trans c⟩
instance St.rd {A : Option Addr} {xs : List Value} : St (fun W => Rd W A xs) := ⟨fun h b => h.go b⟩
theorem Rd.part {w : World} {A : Option Addr} {xs : List Value} (h : Rd w A xs) (k : Nat) (cs : List Value) (hk : ∀ j u, cs[j]? = some u → xs[k + j]? = some u) (hne : cs ≠ []) :
 ∃ ad, A = some ad ∧ ∀ j u, cs[j]? = some u → w.cell? ((ad.add k).add j) = some u := by
 match cs, hne with
 | c :: cs, _ =>
  obtain ⟨ad, e, _⟩ := h k c (hk 0 c rfl);refine ⟨ad, e, fun j u i => ?_⟩;obtain ⟨b, d, g⟩ := h (k + j) u (hk j u i);obtain rfl : ad = b := by rw [e] at d; injection d
  rw [KY]; exact g
section
variable {H : Type} {enc : TypeId × Value → H} {P : Program} {w : World} {base : Nat} {spare : Nat → Bool} {held : Bool}
theorem U7 {t e : TypeId} {fuel : Nat} {cs : List Value} {x : DataW H × List MemPlace} (ht : P.underlying t = some (.slice e)) (h : DataW.trod enc P w base spare held fuel t cs = some x) :
 ∃ (A : Option Addr) (cap : Nat) (xss : List (List Value)), cs = [.slice A xss.length cap] ∧ xss.length ≤ cap ∧ cap ≤ maxLen ∧ (A = none → cap = 0) ∧ (∀ xs ∈ xss, xs.length = P.cellsOf e) ∧ Rd w A xss.flatten ∧ ∀ xs ∈ xss, ∃ n y, DataW.trod enc P w base spare held n e xs = some y := by
 rcases open_slice ht h with ⟨rfl, _⟩ | ⟨a, len, cap, m, n, D, Pl, rfl, hb, hl, hm, o, _, hi⟩
 · exact ⟨none, 0, [], rfl, Nat.le_refl _, Nat.zero_le _, fun _ => rfl, fun _ h => by simp at h, Rd.nil _ _, fun _ h => by simp at h⟩
 · have ac : len ≤ m := by rw [o]; split <;> omega
   have aa : ∀ i, i < len → ∃ b, w.cells? base (a.add (i * P.cellsOf e)) (P.cellsOf e) = some b ∧ ∃ y, DataW.trod enc P w base spare held n e b = some y := fun i h => by
    obtain ⟨b, d, g⟩ := hi i (by omega);exact ⟨b, d, _, g⟩
   clear hi o ac
   have ad : ∀ k, k ≤ len → ∃ xss : List (List Value), xss.length = k ∧ (∀ xs ∈ xss, xs.length = P.cellsOf e) ∧ Rd w (some a) xss.flatten ∧ ∀ xs ∈ xss, ∃ n y, DataW.trod enc P w base spare held n e xs = some y := by
    intro k
    induction k with
    | zero => intro _; exact ⟨[], rfl, fun _ h => by simp at h, Rd.nil _ _, fun _ h => by simp at h⟩
    | succ k ih =>
     intro hk;obtain ⟨xss, d, g, p, q⟩ := ih (by omega);obtain ⟨b, hc, y, hy⟩ := aa k (by omega);obtain ⟨_, v, s⟩ := World.cells?_some hc
     have z : xss.flatten.length = k * P.cellsOf e := by
      rw [← d]; clear d p q ih
      induction xss with
      | nil => simp
      | cons x xss ih => simp only [List.flatten_cons, Lf, Le]; rw [ih (fun xs c => g xs (by simp [c])), g x (by simp), Nat.succ_mul]; omega
     refine ⟨xss ++ [b], by simp [d], fun xs c => ?_, fun j u l => ?_, fun xs c => ?_⟩
     · rcases L5.1 c with h | h
       · exact g xs h
       · rw [L3.1 h]; exact v
     · rw [List.flatten_append] at l;by_cases ab : j < xss.flatten.length
       · rw [LC ab] at l; exact p j u l
       · rw [L8 (by omega)] at l;simp only [List.flatten_cons, List.flatten_nil, Na] at l;have ae : j - xss.flatten.length < b.length := (Ld.1 l).1;refine ⟨a, rfl, ?_⟩;have := s (j - xss.flatten.length) (by omega);rw [l, z] at this;rw [← this, KY, show k * P.cellsOf e + (j - k * P.cellsOf e) = j from by omega]
     · rcases L5.1 c with h | h
       · exact q xs h
       · rw [L3.1 h]; exact ⟨n, y, hy⟩
   obtain ⟨xss, d, g, p, q⟩ := ad len (Nat.le_refl _);subst d;exact ⟨some a, cap, xss, rfl, hl, hm, fun h => by simp at h, g, p, q⟩
theorem UJ {α : Type} (enc' : α → List Value) (ok : α → Prop) : ∀ (xss : List (List Value)), (∀ xs ∈ xss, ∃ a, xs = enc' a ∧ ok a) → ∃ l : List α, xss = l.map enc' ∧ ∀ a ∈ l, ok a
 | [], _ => ⟨[], rfl, fun _ h => by simp at h⟩
 | x :: xss, h => by
  obtain ⟨a, rfl, ha⟩ := h x (by simp)
  obtain ⟨l, rfl, hl⟩ := UJ enc' ok xss (fun xs hxs => h xs (by simp [hxs]))
  refine ⟨a :: l, rfl, fun b hb => ?_⟩
  rcases L2.1 hb with rfl | h
  · exact ha
  · exact hl b h
theorem UO {t : TypeId} {fuel : Nat} {cs : List Value} {x : DataW H × List MemPlace} (ht : P.underlying t = some (.int .i64)) (h : DataW.trod enc P w base spare held fuel t cs = some x) : ∃ n, cs = [.int .i64 n] ∧ InI n := by
 obtain ⟨n, rfl, _, b⟩ := DataW.trod_int ht h;have := bounds_i64 b;exact ⟨n, rfl, by unfold InI; omega⟩
theorem Aal {t : TypeId} {fs : Array Field} {fuel : Nat} {cs : List Value} {x : DataW H × List MemPlace} (ht : P.underlying t = some (.struct fs)) (h : DataW.trod enc P w base spare held fuel t cs = some x) :
 cs.length = P.cellsOf t ∧ ∃ n, ∀ (i : Nat) (f : Field), fs[i]? = some f → ∃ y, DataW.trod enc P w base spare held n f.type ((cs.drop f.offset).take (P.cellsOf f.type)) = some y := by
 obtain ⟨d, n, _, _, g, c, e⟩ := DataW.trod_struct ht h;refine ⟨g, n, fun i f hi => ?_⟩;have b : i < d.length := by rw [c]; exact (Lt.1 hi).1
 exact ⟨d[i], (e i f hi).trans (La b)⟩
theorem Aiw {t : TypeId} {fs : Array Field} {r : Reach} {b0 : Nat} {v : Value} {d : DataW H} {p : List MemPlace} (ht : P.underlying t = some (.struct fs)) (hv : Value.okWide P w r b0 t v) (h : DataW.Trod enc P w base spare held t v d p) :
 ∃ cs : List Value, v = .agg cs.toArray ∧ ∃ fuel x, DataW.trod enc P w base spare held fuel t cs = some x := by
 obtain ⟨cs, rfl, _⟩ := okWide_struct ht hv;obtain ⟨fuel, b⟩ := h;exact ⟨cs.toList, rfl, fuel, _, b⟩
end
end Go.Proofs.YtkoikjnlpifbjaaGreat
namespace Go.Proofs.YtkoikjnlpifbjaaGreat
open Go.RowKit Go.Deep
theorem QD {w : World} {base size n g : Nat} {e t : TypeId} {v : Value} {xs : List Value} {cs : Array Value} (h : w.ownsRow base e size v n xs) (hg : Row w g t cs) (hne : e ≠ t) : v.ownBlock ≠ some g := by
 rcases h.2 with ⟨rfl, _⟩ | ⟨d, b, c, rfl, _, j, _⟩
 · simp [Value.ownBlock]
 · intro i;have : d = g := by simpa [Value.ownBlock] using i
   subst this;rw [Row, j] at hg;injection hg with hg;injection hg with _ ht;exact hne ht
theorem Qy {w w' : World} {base size n : Nat} {e : TypeId} {v : Value} {xs : List Value} (h : w.ownsRow base e size v n xs) (b : Below w.heap.size w w') : w'.ownsRow base e size v n xs :=
 h.kept (row := none) ⟨b.os, b.tape, b.output, b.size, fun k hk _ => b.block k hk⟩ (by cases hv : v.ownBlock <;> simp)
instance St.own {base size n : Nat} {e : TypeId} {v : Value} {xs : List Value} : St (fun W => W.ownsRow base e size v n xs) := ⟨fun h b => Qy h b⟩
theorem Row.grown {w w' : World} {g : Nat} {t : TypeId} {cs : Array Value} {row : Option Nat} (h : Row w g t cs) (b : w.grownBy w' row) (hne : row ≠ some g) : Row w' g t cs := (b.block g h.lt (fun e => hne e.symm)).trans h
theorem QB {w w' : World} {base size n g : Nat} {e : TypeId} {v : Value} {xs : List Value} (h : w.ownsRow base e size v n xs) (o : Only g w w') (hne : v.ownBlock ≠ some g) : w'.ownsRow base e size v n xs :=
 h.kept (row := some g) ⟨o.os, o.tape, o.output, LM o.size.symm, fun k _ hk => o.block k (fun e => hk (by rw [e]))⟩ (.inr hne)
theorem Q6 (w : World) (g i : Nat) (u : Value) : Only g w (w.setCell ⟨g, i, none⟩ u) := ⟨rfl, rfl, rfl, by simp [World.setCell], fun k hk => Below.heap_setCell w ⟨g, i, none⟩ u k hk⟩
theorem Z9 {w : World} {base size n r : Nat} {e : TypeId} {v : Value} {xs : List Value} {o : Obj} (h : w.ownsRow base e size v n xs) (ho : w.heap[r]? = some o) (hc : o.isCells = false) : v.ownBlock ≠ some r := fun e2 => by
 rcases h.2 with ⟨rfl, _⟩ | ⟨d, b, c, rfl, _, g, _⟩
 · simp [Value.ownBlock] at e2
 · have : d = r := by simpa [Value.ownBlock] using e2
   subst this;rw [g] at ho; cases ho; cases hc
theorem Zy {w : World} {base size n : Nat} {e : TypeId} {v : Value} {xs : List Value} (h : w.ownsRow base e size v n xs) : ∃ A m c, v = .slice A m c := by
 rcases h.2 with ⟨rfl, _⟩ | ⟨g, b, d, rfl, _⟩ <;> exact ⟨_, _, _, rfl⟩
theorem KeepsFrom.of_own {B : Nat} {w w' : World} {base size n : Nat} {e : TypeId} {v : Value} {xs : List Value} (h : w.ownsRow base e size v n xs) (hg : w.grownBy w' v.ownBlock) : KeepsFrom B w w' :=
 ⟨hg.size, fun k o _ hk ho => (hg.block k (Lt.1 hk).1 (fun e => Z9 h hk ho e.symm)).trans hk⟩
theorem KeepsFrom.of_only {B g : Nat} {w w' : World} {t : TypeId} {cs : Array Value} (h : Row w g t cs) (o : Only g w w') : KeepsFrom B w w' :=
 ⟨LM o.size.symm, fun k ob _ hk ho => (o.block k (fun e => by subst e; rw [h] at hk; cases hk; cases ho)).trans hk⟩
section
variable {F : Fence} {n : Nat} {P : Program}
theorem JZ (w : World) (ad : Addr) (ty : TypeId) (cs : List Value) (d : TypeDesc) (hc : ∀ j v, cs[j]? = some v → w.cell? (ad.add j) = some v)
 (hu : P.underlying ty = some d) (hd : (match d with | .struct _ | .array _ _ => true | _ => false) = true) (hi : (P.info? ty).map (·.size) = some cs.length) :
 (loadVar ty ad).run P w = .ok (.agg cs.toArray) w := by
 have c : (loadCells ad cs.length).run P w = .ok cs.toArray w := run_loadCells_list (P := P) w ad cs hc;cases hq : P.info? ty with
 | none => simp [hq] at hi
 | some i =>
  have e : i.size = cs.length := by simpa [hq] using hi
  have b : (isAgg ty).run P w = .ok true w := by
   unfold isAgg;rw [Sem.run_bind, run_underlying hu w];cases d <;> simp_all
  simp [loadVar, Sem.run_bind, b, sizeOf, typeInfo, hq, e, c]
theorem Ja {ops : Array Oper} {rest : List Oper} {o : Oper} {a : Act} {w : World} {Q : Exit → Act → World → Prop} (hgd : o.guard = none) (ty : TypeId) (x : Operand) (ho : o.op = .load ty x)
 (ad : Addr) (hx : a.eval x = .pointer (some ad)) (cs : List Value) (d : TypeDesc) (hc : ∀ j v, cs[j]? = some v → w.cell? (ad.add j) = some v)
 (hu : P.underlying ty = some d) (hd : (match d with | .struct _ | .array _ _ => true | _ => false) = true) (hi : (P.info? ty).map (·.size) = some cs.length)
 (h : wpListIn F n P ops Q rest (a.put o.dst (.agg cs.toArray)) w) : wpListIn F n P ops Q (o :: rest) a w := by
 refine wpListIn_plain hgd fun K e => ?_
 unfold Oper.wpIn;refine ⟨?_, ?_⟩
 · simp [Oper.about, ho]
 · rw [Oper.semAt_plain F _ _ (by rw [ho]; intro c b; cases b)];simp only [execOp, ho, hx, Instr.loadAt, Instr.sureAddr, Sem.run_bind, Sem.run_pure, Result.andThen_ok, JZ w ad ty cs d hc hu hd hi];exact e _ _ h
theorem AbK {ops : Array Oper} {rest : List Oper} {o : Oper} {a : Act} {w : World} {Q : Exit → Act → World → Prop} (ty : TypeId) (p x : Operand) (_ : o.op = .store ty p x) (h : Stop (wpListIn F n P ops Q (o :: rest) a w) id) : wpListIn F n P ops Q (o :: rest) a w := h.out
theorem QF {ops : Array Oper} {rest : List Oper} {o : Oper} {a : Act} {w : World} {Q : Exit → Act → World → Prop} (hgd : o.guard = none) (ty : TypeId) (x : Operand) (ho : o.op = .load ty x)
 (ad : Addr) (hx : a.eval x = .pointer (some ad)) (cs : List Value) (d : TypeDesc) (hc : ∀ j v, cs[j]? = some v → w.cell? (ad.add j) = some v)
 (hu : P.underlying ty = some d) (hd : (match d with | .struct _ | .array _ _ => true | _ => false) = true) (hi : (P.info? ty).map (·.size) = some cs.length)
 (h : wpList P ops Q rest (a.put o.dst (.agg cs.toArray)) w) : wpList P ops Q (o :: rest) a w :=
 Yd hgd (.agg cs.toArray) (by simp only [execOp, ho, hx, Instr.loadAt, Instr.sureAddr, Sem.run_bind, Sem.run_pure, Result.andThen_ok, JZ w ad ty cs d hc hu hd hi]) h
end
theorem Ko {P : Program} {ops : Array Oper} {rest : List Oper} {o : Oper} {a : Act} {w : World} {Q : Exit → Act → World → Prop} (hw : Region.wanted o (yielded ops a.tmps) = true) (ty : TypeId) (x : Operand) (ho : o.op = .load ty x)
 (g : Nat) (hx : a.eval x = .pointer (some ⟨g, 0, none⟩)) (t : TypeId) (cs : Array Value) (fr : Nat × Nat) (d : TypeDesc) (hg : w.heap[g]? = some (.cells cs t fr))
 (hu : P.underlying ty = some d) (hd : (match d with | .struct _ | .array _ _ => true | _ => false) = true) (hi : (P.info? ty).map (·.size) = some cs.size)
 (h : wpList P ops Q rest (a.put o.dst (.agg cs)) w) : wpList P ops Q (o :: rest) a w :=
 BigFrame.wpList_want hw fun _ hK => wp_load_row ty x ho g hx t cs fr d hg hu hd hi (hK _ _ h)
end Go.Proofs.YtkoikjnlpifbjaaGreat
namespace Go.Proofs.YtkoikjnlpifbjaaGreat
open Go.RowKit
def ZQ (cur : Array Value) (off : Nat) (vs : List Value) : Array Value := (cur.toList.take off ++ vs ++ cur.toList.drop (off + vs.length)).toArray
section
variable {P : Program} {ops : Array Oper} {rest : List Oper} {o : Oper} {a : Act} {w : World} {K : Act → World → Prop} {Q : Exit → Act → World → Prop}
theorem UM (w : World) (g off : Nat) (t ty : TypeId) (cur : Array Value) (v : Value) (vs : List Value) (hv : v.cells = vs.toArray) (hg : Row w g t cur) (hi : (P.info? ty).map (·.size) = some vs.length)
 (hfit : off + vs.length ≤ cur.size) (h1 : ∀ u ∈ vs, u.oneCell' = true) : (storeVar ty ⟨g, off, none⟩ v).run P w = .ok () (w.setRow g (ZQ cur off vs)) := by
 have := run_storeCells_at P g off t vs 0 cur w hg (by simpa using hfit) h1;cases hq : P.info? ty with
 | none => simp [hq] at hi
 | some i =>
  have b : i.size = vs.length := by simpa [hq] using hi
  simp only [Nat.add_zero] at this;simp [storeVar, sizeOf, typeInfo, hq, b, hv, this, ZQ]
theorem ZV (ty : TypeId) (p x : Operand) (ho : o.op = .store ty p x) (g off : Nat) (hp : a.eval p = .pointer (some ⟨g, off, none⟩)) (v : Value) (hx : a.eval x = v) (vs : List Value) (hv : v.cells = vs.toArray)
 (t : TypeId) (cur cur' : Array Value) (hg : Row w g t cur) (hi : (P.info? ty).map (·.size) = some vs.length) (hfit : off + vs.length ≤ cur.size) (h1 : ∀ u ∈ vs, u.oneCell' = true) (hc : ZQ cur off vs = cur')
 (h : ∀ w', Row w' g t cur' → Only g w w' → K (a.put o.dst undef) w') : o.wp P a w K Q := by
 unfold Oper.wp execOp;simp only [ho, hp, hx, Instr.storeAt, Instr.sureAddr, Sem.run_bind, Sem.run_pure, Result.andThen_ok, UM w g off t ty cur v vs hv hg hi hfit h1];exact h _ (hc ▸ hg.setRow _) (Zv _ _ _)
theorem Qq (hgd : o.guard = none) (ty : TypeId) (p x : Operand) (ho : o.op = .store ty p x) (g off : Nat) (hp : a.eval p = .pointer (some ⟨g, off, none⟩)) (v : Value) (hx : a.eval x = v) (vs : List Value) (hv : v.cells = vs.toArray)
 (t : TypeId) (cur cur' : Array Value) (hg : Row w g t cur) (hi : (P.info? ty).map (·.size) = some vs.length) (hfit : off + vs.length ≤ cur.size) (h1 : ∀ u ∈ vs, u.oneCell' = true) (hc : ZQ cur off vs = cur')
 (h : ∀ w', Row w' g t cur' → Only g w w' → wpList P ops Q rest (a.put o.dst undef) w') : wpList P ops Q (o :: rest) a w :=
 wpList_plain hgd fun _ hK => ZV ty p x ho g off hp v hx vs hv t cur cur' hg hi hfit h1 hc fun w' h1 h2 => hK _ _ (h w' h1 h2)
end
section
variable {P : Program} {ops : Array Oper} {rest : List Oper} {o : Oper} {a : Act} {w : World} {Q : Exit → Act → World → Prop}
theorem Qm (ty : TypeId) (x : Operand) (_ : o.op = .box ty x) (h : Stop (wpList P ops Q (o :: rest) a w) id) : wpList P ops Q (o :: rest) a w := h.out
theorem Qe (hgd : o.guard = none) (ty : TypeId) (x : Operand) (ho : o.op = .box ty x) (cs : Array Value) (hx : (a.eval x).cells = cs)
 (h : ∀ g w', w.heap.size ≤ g → Row w' g ty cs → Below g w w' → wpList P ops Q rest (a.put o.dst (.pointer (some ⟨g, 0, none⟩))) w') : wpList P ops Q (o :: rest) a w :=
 wpList_plain hgd fun _ hK => by
  have e : (execOp a.eval o).run P w = .ok (.value (.pointer (some ⟨w.heap.size, 0, none⟩))) (w.alloc (.cells cs ty)) := by
   rw [← hx]; simp [execOp, ho, Instr.box, newVar, newRow]
  unfold Oper.wp
  rw [e]
  exact hK _ _ (h _ _ (Nat.le_refl _) (Row.new _ _ _) ((Below.refl _ _).alloc (Nat.le_refl _) _))
end
theorem QN {P : Program} {fn : Func} {p t' : Tmp} {ty : TypeId} (h : fn.results = #[.cell p ty, .tmp t']) (tmps : Array Value) (w : World) (g : Nat) (t : TypeId) (cs : Array Value) (fr : Nat × Nat) (d : TypeDesc)
 (hp : tmps.getD p undef = .pointer (some ⟨g, 0, none⟩)) (hg : w.heap[g]? = some (.cells cs t fr))
 (hu : P.underlying ty = some d) (hd : (match d with | .struct _ | .array _ _ => true | _ => false) = true) (hi : (P.info? ty).map (·.size) = some cs.size) :
 (results fn tmps).run P w = .ok (.tuple #[.agg cs, tmps.getD t' undef]) w := by
 have b : tmps[p]?.getD undef = .pointer (some ⟨g, 0, none⟩) := by simpa using hp
 simp [results, h, b, asAddr, run_loadVar_row w g t ty cs fr d hg hu hd hi]
end Go.Proofs.YtkoikjnlpifbjaaGreat
