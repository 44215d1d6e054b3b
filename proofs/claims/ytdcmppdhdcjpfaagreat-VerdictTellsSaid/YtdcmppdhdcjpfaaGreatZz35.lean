/- Lemmas for VerdictTellsP. -/
import Derived.Test.YtdcmppdhdcjpfaaGreatZz34
import Derived.Test.YtdcmppdhdcjpfaaGreatZz1
import Derived.Deep.Cut
import Derived.Deep.RegionHeld3
import Derived.Laws.EntriesVeiled
import Derived.Test.YtdcmppdhdcjpfaaGreatRows
import Derived.Deep.WholeRow
import Derived.Laws.CopyOwn
set_option linter.unusedVariables false
set_option linter.unusedSimpArgs false
set_option maxRecDepth 100000
set_option maxHeartbeats 16000000
namespace Go.Proofs.YtdcmppdhdcjpfaaGreat
open Go.RowKit Go.Deep
attribute [local go_sem] Oper.semAt_some
theorem Ada (r : RunV) (w : World) :
 Calls Tryz.prog 158 #[.agg r.cells] w fun e w' => e = .returned (.func (.func 235) #[] #[.pointer (some ⟨w.heap.size, 0, none⟩)]) ∧ w.alloc (.cells r.cells 40) = w' := by
 go_enter Tryz.func158, Tryz.ntmps158
 go_wp2
 go_ret
 exact ⟨rfl, rfl⟩
theorem Row.abid {W W' : World} {g B : Nat} {t : TypeId} {cs : Array Value} {row : Option Nat} (h : Row W g t cs) (hg : W.grownBy W' row) (hr : ∀ r, row = some r → False ∨ (B ≤ r ∧ ∃ o : Obj, W.heap[r]? = some o ∧ o.isCells = false)) : Row W' g t cs :=
 h.grown hg (fun e => by
  rcases hr g e with h' | ⟨_, o, ho, hc⟩
  · exact h'
  · rw [h] at ho; cases ho; cases hc)
theorem Wr.abid {W W' : World} {b g B : Nat} {l : List UInt8} {row : Option Nat} (h : Wr W b g l) (hg : W.grownBy W' row) (hr : ∀ r, row = some r → False ∨ (B ≤ r ∧ ∃ o : Obj, W.heap[r]? = some o ∧ o.isCells = false)) : Wr W' b g l := by
 obtain ⟨i, v, j, c⟩ := h;refine ⟨i, v, j.abid hg hr, c.kept hg ?_⟩;cases row with
 | none => cases v.ownBlock <;> simp
 | some r =>
  refine .inr (fun e => ?_);rcases hr r rfl with d | ⟨_, o, m, k⟩
  · exact d
  · exact Ja c m k e
def XL (l : List Int) : List UInt8 := l.flatMap zz
theorem Ady (r : RunV) : UR r.evs.length ++ XL r.nums = YU r.kind r.value r.evs := by
 have h : ∀ l : List EvV, XL (l.flatMap EvV.nums) = l.flatMap EvV.bytes := by
  intro l
  induction l with
  | nil => rfl
  | cons a l ih => simp only [XL, LC, L2] at ih ⊢; rw [ih]; simp [EvV.nums, EvV.bytes]
 have b : XL r.nums = XL (r.evs.flatMap EvV.nums) ++ (zz r.kind ++ zz r.value) := by simp [XL, RunV.nums]
 rw [b, h, YU]
theorem Aa4 : ∀ l : List Int, (XL l).length ≤ 10 * l.length
 | [] => by simp [XL]
 | a :: l => by
  have := Aa4 l; have := Y3 a
  simp only [XL, LC, Le, Lc] at *; omega
def WrC (b g : Nat) (A B : World) : Prop := A.heap.size ≤ B.heap.size ∧ ∀ k cs t fr, A.heap[k]? = some (.cells cs t fr) → k ≠ g → (t ≠ 5 ∨ k < b) → B.heap[k]? = some (.cells cs t fr)
theorem WrC.of {b g : Nat} {A B : World} (h : WrEff b g A B) : WrC b g A B := ⟨h.size, fun k cs t fr hk hg ht => (h.block k (Lj.1 hk).1 hg (fun cs' hB h' => by
 rcases ht with ht | ht
 · rw [Row, hk] at h'; injection h' with h'; injection h' with _ h''; exact ht h''
 · omega)).trans hk⟩
theorem WrC.trans {b g : Nat} {A B C : World} (h : WrC b g A B) (k : WrC b g B C) : WrC b g A C := ⟨Li h.1 k.1, fun i cs t fr hi hg ht => k.2 i cs t fr (h.2 i cs t fr hi hg ht) hg ht⟩
theorem WrC.put {b g l : Nat} {W : World} {o o' : Obj} (ho : W.heap[l]? = some o) (hc : o.isCells = false) : WrC b g W (W.putObj l o') := ⟨by simp, fun k cs t fr hk _ _ => by
 rw [World.putObj_heap_other (fun e => by subst e; rw [ho] at hk; cases hk; cases hc)]; exact hk⟩
theorem WrC.refl (b g : Nat) (W : World) : WrC b g W W := ⟨Nat.le_refl _, fun _ _ _ _ h _ _ => h⟩
theorem WrC.row {b g k : Nat} {A B : World} {t : TypeId} {cs : Array Value} (h : WrC b g A B) (hr : Row A k t cs) (hg : k ≠ g) (ht : t ≠ 5 ∨ k < b) : Row B k t cs := h.2 k cs t (0, 0) hr hg ht
theorem Ad1 {W : World} {p : Addr} {u : Value} (h : W.cell? p = some u) : ∃ cs t fr, W.heap[p.block]? = some (.cells cs t fr) := by
 unfold World.cell? at h;split at h
 · exact ⟨_, _, _, by assumption⟩
 · cases h
theorem Aiu {w W : World} {addr : Option Addr} {xs : List Value} (h : Rd w addr xs) (b : Below w.heap.size w W) : Rd W addr xs := h.go b
theorem WrC.rd {w A B : World} {b g : Nat} {addr : Option Addr} {xs : List Value} (h : WrC b g A B) (h0 : Rd w addr xs) (hb : w.heap.size ≤ b) (hg : b ≤ g) (hA : Rd A addr xs) : Rd B addr xs := fun j u hj => by
 obtain ⟨i, e, m⟩ := hA j u hj;obtain ⟨c, k, d⟩ := h0 j u hj;obtain rfl : i = c := by rw [e] at k; injection k
 have q := World.block_lt_of_cell? _ _ d;obtain ⟨n, t, o, l⟩ := Ad1 m;have p := h.2 _ n t o l (by omega) (.inr (by omega));exact ⟨i, e, (World.cell?_of_block (p.trans l.symm)).trans m⟩
theorem Adx (r : RunV) (w : World) (hok : r.ok w) (hl : r.evs.length ≤ 10000) :
 Calls Tryz.prog 79 #[r.val] w fun e w' => e = .returned (.string ⟨(YU r.kind r.value r.evs).toArray⟩) ∧ Below w.heap.size w w' := by
 have b := Lh hok;have Hl := Lh hl;clear hok hl;refine (callsIn_wide (n := 0)).1 ?_;refine callsIn_of_wp_marks Tryz.func79 rfl trivial ?_;simp only [Tryz.ntmps79, Lk, Lc, Lr, Nat.reduceAdd, Nat.reduceSub, Ll, Lm, Lu, L7, Lp, Ln];rw [show r.val = .agg r.cells from rfl];gi_wp2_with fail
 have r0 := Row.new w 40 r.cells;have b0 := (Below.refl w.heap.size w).alloc (Nat.le_refl _) (.cells r.cells 40);generalize w.alloc (.cells r.cells 40) = w1 at r0 b0 ⊢;obtain ⟨S, m⟩ : ∃ S, S = (fun W => Row W w.heap.size 40 r.cells ∧ Below w.heap.size w W) := ⟨_, rfl⟩;have aw : St S := by rw [m]; infer_instance
 have s0 : ∀ W, S W → Row W w.heap.size 40 r.cells := by rw [m]; exact fun W h => h.1
 have s1 : ∀ W, S W → Below w.heap.size w W := by rw [m]; exact fun W h => h.2
 have aj : ∀ W, Row W w.heap.size 40 r.cells → Below w.heap.size w W → S W := by rw [m]; exact fun W h h' => ⟨h, h'⟩
 have y : S w1.drew := St.drew (aj _ r0 b0);clear m r0 b0;refine wpIn_wide.2 ?_;refine wp_cut (fun a W => ∃ t g, w.heap.size < t ∧ S W ∧ Wr W t g (UR r.evs.length) ∧ a = { tmps := #[.agg r.cells, .pointer (some ⟨w.heap.size, 0, none⟩), .string ⟨#[]⟩, .pointer (some ⟨g, 0, none⟩), undef, undef, .pointer (some ⟨g, 0, none⟩), .pointer (some ⟨w.heap.size, 3, none⟩), .slice r.addr r.evs.length r.cap, .int .i64 r.evs.length, .int .u64 r.evs.length, .pointer (some ⟨g, 0, none⟩), undef, undef, undef, undef, undef, undef, undef, undef, undef, undef], defers := [] }) ?rest ?first
 case first =>
  intro J K' hJ an;have HJ := Lh hJ;have HK := Lh an;have a0 := Hl.out;clear hJ an;refine wp_region_noPanic ?_;refine wp_region_held (S := S) (by kernel_rfl) ?_;simp only [Lk, Lc, Lr, Nat.reduceAdd, Ll, Lm, Lu, Lp, Ln];show wpAnyH _ _ _ _ _ _ _ _ w1.drew;generalize w1.drew = w2 at y ⊢;(refine tkH 1 (.pointer (some ⟨w.heap.size, 3, none⟩)) rfl (Qd rfl (fun W hW => by (go_simp))) ?_; simp only [Act.put, Qa, Qb, Qc]);(refine tkH 2 (.slice r.addr r.evs.length r.cap) rfl (Qd rfl (fun W hW => by ((have h := (s0 W hW).cellv (i := 3) (v := .slice r.addr r.evs.length r.cap) rfl; go_simp)))) ?_; simp only [Act.put, Qa, Qb, Qc]);(refine tkH 3 (.int .i64 r.evs.length) rfl (Qd rfl (fun W hW => by (go_simp))) ?_; simp only [Act.put, Qa, Qb, Qc]);(refine tkH 4 (.int .u64 r.evs.length) rfl (Qd rfl (fun W hW => by (go_simp; rw [IntKind.wrap_u64]; omega))) ?_; simp only [Act.put, Qa, Qb, Qc]);(refine wpAnyH_all (rs := [0]) (by kernel_rfl) (by simp) (fun i hi => ?_); obtain rfl : i = 0 := by simpa using hi);refine Qg rfl rfl (fun K2 j => ?_);refine Qt 155 #[] (w1 := w2) (by go_simp) ((AdJ w2).mono ?_);rintro e w3 ⟨rfl, u, b3⟩;refine ⟨_, rfl, ?_⟩;refine j _ _ ?_;clear j K2;simp only [Act.put, Qa, Qb, Qc];have ag := aw.go y b3;have hB : w.heap.size < w2.heap.size := (s0 _ y).lt;clear y b3;refine ⟨ag, ?_⟩;(refine wpAnyH_all (rs := [5]) (by kernel_rfl) (by simp) (fun i hi => ?_); obtain rfl : i = 5 := by simpa using hi);refine Qg rfl rfl (fun K2 j => ?_);refine Qt 156 #[.pointer (some ⟨w2.heap.size, 0, none⟩), .int .u64 r.evs.length] (w1 := w3) (by go_simp) ((Aij _ _ [] r.evs.length (by simp) (by omega) w3 u).mono ?_);rintro e w4 ⟨rfl, h4, e4⟩;refine ⟨_, rfl, ?_⟩;refine j _ _ ?_;clear j K2;simp only [Act.put, Qa, Qb, Qc];have ao : S w4 := aj _ (e4.row (s0 _ ag) (by omega) (by decide)) ((s1 _ ag).trans ((e4.below (Nat.le_refl _) (by have := u.lt; omega)).mono (by omega)));refine ⟨ao, ?_⟩;(refine tkH 6 (.pointer (some ⟨w2.heap.size, 0, none⟩)) rfl (Qd rfl (fun W hW => by (rfl))) ?_; simp only [Act.put, Qa, Qb, Qc]);refine wpAnyH_done (by kernel_rfl) ?_ _;exact HK.out _ _ (Met.intro (HJ.out _ _ ⟨_, _, hB, ao, by simpa using h4, rfl⟩))
 case rest =>
  rintro a W ⟨t, g, hB, y, hw, rfl⟩;have gB : t ≤ g := hw.1;have aq := s0 _ y;have q : Row (W.alloc (.cells #[.func (.func 157) #[.pointer (some ⟨g, 0, none⟩)] #[]] 220)) W.heap.size 220 #[.func (.func 157) #[.pointer (some ⟨g, 0, none⟩)] #[]] := Row.new _ _ _;have ah := aq.alloc (.cells #[.func (.func 157) #[.pointer (some ⟨g, 0, none⟩)] #[]] 220);have s := St.alloc (S := fun W => Wr W t g (UR r.evs.length)) hw (.cells #[.func (.func 157) #[.pointer (some ⟨g, 0, none⟩)] #[]] 220);have aa := (s1 _ y).alloc (s1 _ y).size (.cells #[.func (.func 157) #[.pointer (some ⟨g, 0, none⟩)] #[]] 220);have lG : g < W.heap.size := hw.lt;clear aq;gi_wp2_with (refine Zb rfl 40 _ rfl w.heap.size rfl 40 r.cells (0, 0) _ ah Tryz.underlying40 rfl (by kernel_rfl) ?_);obtain ⟨BP, af⟩ : ∃ BP, BP = W.heap.size := ⟨_, rfl⟩;have az : g < BP := by omega
  have ay : w.heap.size ≤ BP := by rw [af]; exact (s1 _ y).size
  have ax : r.evs.length ≤ 10000 := Hl.out;rw [← af] at q ⊢;generalize W.alloc (.cells #[.func (.func 157) #[.pointer (some ⟨g, 0, none⟩)] #[]] 220) = w5 at q ah s aa ⊢;refine ⟨trivial, rfl, (callsIn_wide.2 (Ada r w5)).mono ?_⟩;rintro e w6 ⟨rfl, ar⟩;have ab := Row.new w5 40 r.cells;have ac := q.alloc (.cells r.cells 40);have ae := St.alloc (S := fun W => Wr W t g (UR r.evs.length)) s (.cells r.cells 40);have p := aa.alloc aa.size (.cells r.cells 40);rw [ar] at ab ac ae p;have av := q.lt;obtain ⟨Bs, am⟩ : ∃ Bs, Bs = w5.heap.size := ⟨_, rfl⟩;rw [← am] at ab av ⊢;have l6 := ab.lt;clear am ar s aa q ah y s0 s1 aj hw lG af;have ap : r.ok w6 := ⟨b.out.kind, b.out.value, b.out.steps, b.out.len, b.out.cap, b.out.nil, Aiu b.out.reads p, b.out.evs⟩;have al := Lh (Aav Bs r (WrC t g) w6 ap ab (by omega) (fun A B h hr => h.row hr (by omega) (.inl (by decide))) (fun A B h hr => h.rd b.out.reads (by omega) gB hr) (fun A B h => h.1) (fun A B k cs hk h hr => h.row hr (by omega) (.inl (by decide))));gi_wp2
  refine AbO (gf := 235) (lb := #[.pointer (some ⟨Bs, 0, none⟩)]) rfl (enters_of Tryz.func235 (by kernel_rfl) rfl) al.out (fun r h => h.elim)
   (fun h k => h.trans k) (fun W l o o' hl ho hc => WrC.put ho hc) (World.grownBy.refl _ _) (fun _ => rfl)
   (fun d W => Row W BP 220 #[.func (.func 157) #[.pointer (some ⟨g, 0, none⟩)] #[]] ∧ Wr W t g (UR r.evs.length ++ XL (d.map (·.1))) ∧ Below w.heap.size w W) (fun _ _ _ => False) ?hI ?hIx ⟨ac, by simpa [XL] using ae, p⟩
   (fun x a' W => a' = { tmps := #[.agg r.cells, .pointer (some ⟨w.heap.size, 0, none⟩), .string ⟨#[]⟩, .pointer (some ⟨g, 0, none⟩), .pointer (some ⟨BP, 0, none⟩), .int .i64 x.1, .pointer (some ⟨g, 0, none⟩), .pointer (some ⟨w.heap.size, 3, none⟩), .slice r.addr r.evs.length r.cap, .int .i64 r.evs.length, .int .u64 r.evs.length, .pointer (some ⟨g, 0, none⟩), .pointer (some ⟨g, 0, none⟩), .func (.func 157) #[.pointer (some ⟨g, 0, none⟩)] #[], .agg r.cells, .func (.func 235) #[] #[.pointer (some ⟨Bs, 0, none⟩)], .int .i64 x.1, undef, undef, undef, undef, undef], defers := [] }) ?hAx ?assign ?body ?done ?stop
  case hI =>
   rintro d A B row ⟨h1, z, u⟩ hg hr;refine ⟨h1.abid hg hr, z.abid hg hr, u.grown hg u.size (fun k e => ?_)⟩;rcases hr k e with h | ⟨h, _⟩
   · exact h.elim
   · have := p.size; omega
  case hIx => exact fun _ _ _ _ _ h _ _ => h
  case hAx => exact fun x a' _ _ _ _ h _ _ => h
  case assign =>
   rintro l d x W K hI hK;have HK := Lh hK;clear hK;gi_wp2;exact HK.out _ _ (KeepsFrom.refl _ _) (WrC.refl _ _ _) hI rfl
  case body =>
   rintro l d x a' W hl _ ⟨h1, z, u⟩ rfl a1;have hc := h1.cellv (i := 0) rfl
   have ad : (UR r.evs.length ++ XL (d.map (·.1))).length ≤ 1000000 := by
    have := Ue r.evs.length; have := Aa4 (d.map (·.1));rw [L3] at this;rw [Le]; omega
   have ak := Lh ad;clear ad;gi_wp2_with fail
   refine ⟨trivial, rfl, (CallsIn.inRound l (callsIn_wide.2 (Aia t g _ x.1 ak.out x.2 W z))).mono ?_⟩;rintro e W2 ⟨rfl, s, e2⟩;gi_wp2;have ai : ∃ v, Row W g 286 #[v] := by obtain ⟨_, v, h, _⟩ := z; exact ⟨v, h⟩
   obtain ⟨v, ai⟩ := ai;refine ⟨e2.keeps ai, WrC.of e2, e2.row h1 (by omega) (by decide), ?_, u.trans ((e2.below gB (by have := z.lt; omega)).mono (by omega))⟩;simpa [XL] using s
  case stop => exact fun D c d W _ _ h _ => h.elim
  case done =>
   rintro D ys W hD au ⟨h1, z, u⟩ hK;rw [au, Ady] at z;have HK := Lh hK;clear hK au h1;gi_wp2_with fail
   refine ⟨trivial, rfl, (callsIn_wide.2 (AdO t g _ W z)).mono ?_⟩;rintro e W2 ⟨rfl, rfl⟩;clear z;gi_wp2;refine ⟨by simp, .inl ⟨_, _, rfl, run_takeDeferred HK.out, ?_⟩⟩;exact ⟨_, results_tmp rfl _ _ _, rfl, u.grown (grownBy_putObj' _ _ _) u.size (fun k e => by cases e; have := p.size; omega)⟩
end Go.Proofs.YtdcmppdhdcjpfaaGreat
namespace Go.Proofs.YtdcmppdhdcjpfaaGreat
open Go.RowKit Go.Deep
attribute [local go_sem] Afw AeP AeO Ab8 Ab9 Aca VI Yt Afx Afy AdI
theorem Aiy {x y : BitVec 32} (h : x = y) : Ending.returned (.int .u32 (wd x)) = .returned (.int .u32 (wd y)) := by rw [h]
theorem Aji (x : BitVec 32) (n : Nat) (h0 : 0 < n) (h1 : n < 32) : x <<< (32 - n) ||| x >>> (32 - (32 - n)) = x.rotateRight n := by
 rw [BitVec.rotateRight_def, NE h1, show 32 - (32 - n) = n from by omega, BitVec.or_comm]
theorem Ajs : ∀ n : _root_.Fin 31, bits .and .u64 (IntKind.u64.wrap (-((n.val + 1 : Nat) : Int))) 31 = ((31 - n.val : Nat) : Int) := by decide +kernel
theorem Adq (x : BitVec 32) (n : Int) (h0 : 0 < n) (h1 : n < 32) (w : World) :
 Calls Tryz.prog 231 #[.int .u32 (wd x), .int .i64 n] w fun e w' => e = .returned (.int .u32 (wd (x.rotateRight n.toNat))) ∧ w = w' := by
 obtain ⟨n, rfl⟩ := Int.eq_ofNat_of_zero_le (Int.le_of_lt h0);rw [Lg];obtain ⟨m, b⟩ : ∃ m, m = 32 - n := ⟨_, rfl⟩;have j : 0 < m := by omega
 have g : m < 32 := by omega
 have i : bits .and .u64 (IntKind.u64.wrap (-(n : Int))) 31 = (m : Int) := by
  have h := Ajs ⟨n - 1, by omega⟩;simp only [show n - 1 + 1 = n from by omega, show 31 - (n - 1) = m from by omega] at h;exact h
 have c : x <<< m ||| x >>> (32 - m) = x.rotateRight n := by rw [b]; exact Aji x n (by omega) (by omega)
 have d := Lh c;clear c b;go_enter Tryz.func231, Tryz.ntmps231
 go_wp2
 go_ret
 exact ⟨Aiy d.out, rfl⟩
end Go.Proofs.YtdcmppdhdcjpfaaGreat
namespace Go.Proofs.YtdcmppdhdcjpfaaGreat
open Go.RowKit Go.Deep
def AcC (l : List UInt8) (W : List (BitVec 32)) (i : Nat) : List (BitVec 32) := W.set (i / 4) (W.getD (i / 4) 0 <<< 8 ||| BitVec.ofNat 32 (l.getD i 0).toNat)
def fill (l : List UInt8) : Nat → List (BitVec 32)
 | 0 => List.replicate 64 0
 | i + 1 => AcC l (fill l i) i
def AiX (W : List (BitVec 32)) (t : Nat) : BitVec 32 :=
 let x := W.getD (t - 15) 0
 let y := W.getD (t - 2) 0
 W.getD (t - 16) 0 + (x.rotateRight 7 ^^^ x.rotateRight 18 ^^^ x >>> 3) + W.getD (t - 7) 0 + (y.rotateRight 17 ^^^ y.rotateRight 19 ^^^ y >>> 10)
def XV (W : List (BitVec 32)) : Nat → List (BitVec 32)
 | 0 => W
 | i + 1 => (XV W i).set (16 + i) (AiX (XV W i) (16 + i))
def Yu (l : List UInt8) : List (BitVec 32) := XV (fill l 64) 48
theorem Kx (l : List UInt8) : ∀ i, (fill l i).length = 64
 | 0 => by simp [fill]
 | i + 1 => by simp [fill, AcC, Kx l i]
theorem JM (W : List (BitVec 32)) (h : W.length = 64) : ∀ i, (XV W i).length = 64
 | 0 => h
 | i + 1 => by simp [XV, JM W h i]
attribute [local go_sem] Afw AeP AeO Ab8 Ab9 Aca VI Yt Afx Afy AdI
theorem AgS (x : BitVec 32) (b : UInt8) : bits .or .u32 (wd (x <<< 8)) ((b.toNat : Int) % 4294967296) = wd (x <<< 8 ||| BitVec.ofNat 32 b.toNat) := by
 rw [show ((b.toNat : Int) % 4294967296) = wd (BitVec.ofNat 32 b.toNat) from by rw [← AiM]; have := b.toNat_lt; omega, Afw]
theorem AgR (l : List UInt8) (k : Nat) : (wds (fill l k)).toArray.setIfInBounds (k / 4) (.int .u32 (bits .or .u32 (wd ((fill l k)[k / 4]?.getD 0#32 <<< 8)) (((l[k]?.getD 0).toNat : Int) % 4294967296))) = (wds (fill l (k + 1))).toArray := by
 rw [AgS, UD]; rfl
theorem YT (x : BitVec 32) (n : Int) (h0 : 0 < n) (h1 : n < 32) (w : World) :
 Calls Tryz.prog 231 #[.int .u32 (wd x), .int .i64 n] w fun e w' => e = .returned (.int .u32 (wd (x.rotateRight n.toNat))) ∧ w' = w :=
 (Adq x n h0 h1 w).mono fun _ _ h => ⟨h.1, h.2.symm⟩
theorem Ah2 (W : List (BitVec 32)) (k : Nat) : (wds (XV W k)).toArray.setIfInBounds (k + 16) (.int .u32 (wd (AiX (XV W k) (k + 16)))) = (wds (XV W (k + 1))).toArray := by
 rw [UD, Nat.add_comm k 16]; rfl
theorem Agq (g : Nat) (T : TypeId) (l : List UInt8) (hl : l.length = 64) (w : World) (hg : g < w.heap.size) (hrow : Row w g T (u8s l).toArray) :
 Calls Tryz.prog 229 #[.pointer (some ⟨g, 0, none⟩)] w fun e w' => ∃ g', e = .returned (.pointer (some ⟨g', 0, none⟩)) ∧ w.heap.size ≤ g' ∧ Row w' g' 301 (wds (Yu l)).toArray ∧ Below w.heap.size w w' := by
 have n := Lh hl;clear hl;go_enter Tryz.func229, Tryz.ntmps229
 go_wp2
 go_loopw [10] (fun i wr => ∃ k : Nat, i = .int .i64 (k : Int) ∧ k ≤ 64 ∧ Row wr w.heap.size 301 (wds (fill l k)).toArray ∧ Below w.heap.size w wr) (fun i _ => (64 - intOf i).toNat)
 case atStart => exact ⟨0, by simp, by omega, Row.new _ _ _, (Below.refl _ _).alloc (Nat.le_refl _) _⟩
 case round =>
  obtain ⟨k, rfl, t, b, d⟩ := hrel;by_cases c : k < 64
  · have hc := (hrow.below d hg).cellv (Ajp l k (by rw [n.out]; exact c));have hd := b.cellv (Xj (fill l k) (k / 4) (by rw [Kx]; omega));have s := b.free (k / 4);go_wp2
    go_quiet (fail)
    go_wp2
    go_roundw
    case rel => exact ⟨k + 1, by go_num, by omega, by rw [← AgR]; exact (b.drewN _).set _ _, (Zn d _).setCell (p := ⟨w.heap.size, k / 4, none⟩) (Nat.le_refl _) _⟩
    case measure => simp [intOf]; omega
  · obtain rfl : k = 64 := by omega
    clear c;rw [show ((64 : Nat) : Int) = 64 from rfl];go_wp2
    go_loopw [6] (fun i wr => ∃ k : Nat, i = .int .i64 ((k : Int) + 16) ∧ k ≤ 48 ∧ Row wr w.heap.size 301 (wds (XV (fill l 64) k)).toArray ∧ Below w.heap.size w wr) (fun i _ => (64 - intOf i).toNat)
    case atStart => exact ⟨0, by simp, by omega, b, d⟩
    case round =>
     clear d b;obtain ⟨k, rfl, t, b, d⟩ := hrel;by_cases h : k < 48
     · have r := b.cellv (Xj _ k (by rw [JM _ (Kx _ _)]; omega));have q := b.cellv (Xj _ (k + 1) (by rw [JM _ (Kx _ _)]; omega));have h7 := b.cellv (Xj _ (k + 9) (by rw [JM _ (Kx _ _)]; omega));have h2 := b.cellv (Xj _ (k + 14) (by rw [JM _ (Kx _ _)]; omega));have h0 := b.cellv (Xj _ (k + 16) (by rw [JM _ (Kx _ _)]; omega));have s := b.free (k + 16);go_wp2
       go_quiet (fail)
       go_wp2
       refine QM 29 (by kernel_rfl) (by kernel_rfl) ?_;simp only [L0, LE, Ly, L8];have j : IntKind.i64.wrap (k : Int) = (k : Int) := by rw [IntKind.wrap_i64]; omega
       have o : IntKind.i64.wrap ((k : Int) + 16 - 7) = (k : Int) + 9 := by rw [IntKind.wrap_i64]; omega
       have z : ((k : Int) + 9).toNat = k + 9 := by omega
       have y : ((k : Int) + 16).toNat = k + 16 := by omega
       have v : (k : Int) + 9 < 64 := by omega
       have u : (k : Int) < 64 := by omega
       have x : 0 ≤ (k : Int) + 9 := by omega
       have m : 0 ≤ (k : Int) + 16 := by omega
       repeat (first | still_step | still_call (YT _ _ (by omega) (by omega) _))
       refine wpStill_nil ?_;clear j o z v u x m;go_wp2
       go_roundw
       case rel => exact ⟨k + 1, by go_num, by omega, by rw [← Ah2]; exact (b.drewN _).set _ _, (Zn d _).setCell (p := ⟨w.heap.size, k + 16, none⟩) (Nat.le_refl _) _⟩
       case measure => simp [intOf]; omega
     · obtain rfl : k = 48 := by omega
       clear h;go_wp2
       go_ret
       exact ⟨_, rfl, Nat.le_refl _, b, d⟩
end Go.Proofs.YtdcmppdhdcjpfaaGreat
namespace Go.Proofs.YtdcmppdhdcjpfaaGreat
open Go.RowKit Go.Deep
def cubeL : List (BitVec 32) := [
 0x428a2f98, 0x71374491, 0xb5c0fbcf, 0xe9b5dba5, 0x3956c25b, 0x59f111f1, 0x923f82a4, 0xab1c5ed5,
 0xd807aa98, 0x12835b01, 0x243185be, 0x550c7dc3, 0x72be5d74, 0x80deb1fe, 0x9bdc06a7, 0xc19bf174,
 0xe49b69c1, 0xefbe4786, 0x0fc19dc6, 0x240ca1cc, 0x2de92c6f, 0x4a7484aa, 0x5cb0a9dc, 0x76f988da,
 0x983e5152, 0xa831c66d, 0xb00327c8, 0xbf597fc7, 0xc6e00bf3, 0xd5a79147, 0x06ca6351, 0x14292967,
 0x27b70a85, 0x2e1b2138, 0x4d2c6dfc, 0x53380d13, 0x650a7354, 0x766a0abb, 0x81c2c92e, 0x92722c85,
 0xa2bfe8a1, 0xa81a664b, 0xc24b8b70, 0xc76c51a3, 0xd192e819, 0xd6990624, 0xf40e3585, 0x106aa070,
 0x19a4c116, 0x1e376c08, 0x2748774c, 0x34b0bcb5, 0x391c0cb3, 0x4ed8aa4a, 0x5b9cca4f, 0x682e6ff3,
 0x748f82ee, 0x78a5636f, 0x84c87814, 0x8cc70208, 0x90befffa, 0xa4506ceb, 0xbef9a3f7, 0xc67178f2]
theorem AfH (w : World) :
 Calls Tryz.prog 230 #[] w fun e w' => ∃ g', e = .returned (.pointer (some ⟨g', 0, none⟩)) ∧ w.heap.size ≤ g' ∧ Row w' g' 301 (wds cubeL).toArray ∧ Below w.heap.size w w' := by
 go_enter Tryz.func230, Tryz.ntmps230
 go_wp2_with (
  (refine wpList_build rfl 301 _ rfl (by kernel_rfl) ?_
   generalize c : (Program.built _ _ _).getD #[] = X
   have b : X = (wds cubeL).toArray := by rw [← c]; kernel_rfl
   clear c
   subst b))
 go_ret
 exact ⟨_, rfl, Nat.le_refl _, Row.new _ _ _, (Below.refl _ _).alloc (Nat.le_refl _) _⟩
def KH : List (BitVec 32) := [0x6a09e667, 0xbb67ae85, 0x3c6ef372, 0xa54ff53a, 0x510e527f, 0x9b05688c, 0x1f83d9ab, 0x5be0cd19]
theorem Agk (w : World) :
 Calls Tryz.prog 150 #[] w fun e w' => e = .returned (.agg (wds KH).toArray) ∧ Below w.heap.size w w' := by
 go_enter Tryz.func150, Tryz.ntmps150
 go_wp2
 exact bodyPost_ret (v := .agg (wds KH).toArray) (results_cell_row Tryz.results150 _ _ w.heap.size 207 _ (0, 0) _ rfl (heap_alloc_new w _) Tryz.underlying207 rfl (by kernel_rfl)) rfl ⟨rfl, (Below.refl _ _).alloc (Nat.le_refl _) _⟩
def Ajl (e f g h k x : BitVec 32) : BitVec 32 := h + (e.rotateRight 6 ^^^ e.rotateRight 11 ^^^ e.rotateRight 25) + (g ^^^ e &&& (f ^^^ g)) + k + x
def AjS (a b c : BitVec 32) : BitVec 32 := (a.rotateRight 2 ^^^ a.rotateRight 13 ^^^ a.rotateRight 22) + (a &&& b ^^^ a &&& c ^^^ b &&& c)
def AbU (W : List (BitVec 32)) (t : Nat) : List (BitVec 32) → List (BitVec 32)
 | [a, b, c, d, e, f, g, h] =>
  let t1 := Ajl e f g h (cubeL.getD t 0) (W.getD t 0)
  [t1 + AjS a b c, a, b, c, d + t1, e, f, g]
 | l => l
def XC (W H : List (BitVec 32)) : Nat → List (BitVec 32)
 | 0 => H
 | t + 1 => AbU W t (XC W H t)
theorem E4 (W H : List (BitVec 32)) (h : H.length = 8) : ∀ t, (XC W H t).length = 8
 | 0 => h
 | t + 1 => by
  have ih := E4 W H h t
  unfold XC
  match h' : XC W H t, ih with
  | [a, b, c, d, e, f, g, h], _ => simp [AbU]
theorem AjB {α : Type} {l : List α} (h : l.length = 8) : ∃ a b c d e f g i, l = [a, b, c, d, e, f, g, i] := by
 match l, h with
 | [a, b, c, d, e, f, g, i], _ => exact ⟨a, b, c, d, e, f, g, i, rfl⟩
def XF (H V : List (BitVec 32)) : Nat → List (BitVec 32)
 | 0 => H
 | j + 1 => (XF H V j).set j ((XF H V j).getD j 0 + V.getD j 0)
theorem XG (H V : List (BitVec 32)) (h : H.length = 8) : ∀ j, (XF H V j).length = 8
 | 0 => h
 | j + 1 => by simp [XF, XG H V h j]
def YK (H : List (BitVec 32)) (l : List UInt8) : List (BitVec 32) := XF H (XC (Yu l) H 64) 8
theorem AgH (a b c d e f g i : BitVec 32) : ∀ j v, (wds [a, b, c, d, e, f, g])[j]? = some v → (wds [a, b, c, d, e, f, g, i]).toArray[0 + j]? = some v := by
 intro j v h
 match j, h with
 | 0, h | 1, h | 2, h | 3, h | 4, h | 5, h | 6, h => exact h
theorem AeJ (W H : List (BitVec 32)) (k : Nat) (a b c d e f g i xk xw : BitVec 32) (h : XC W H k = [a, b, c, d, e, f, g, i]) (hk : xk = cubeL.getD k 0) (hw : xw = W.getD k 0) :
 ((wds [a, a, b, c, d, e, f, g]).toArray.setIfInBounds 0 (.int .u32 (wd (Ajl e f g i xk xw + AjS a b c)))).setIfInBounds 4 (.int .u32 (wd (d + Ajl e f g i xk xw))) = (wds (XC W H (k + 1))).toArray := by
 rw [UD, UD, XC, h, AbU, hk, hw]; rfl
theorem Agv (H V : List (BitVec 32)) (j : Nat) : (wds (XF H V j)).toArray.setIfInBounds j (.int .u32 (wd ((XF H V j).getD j 0 + V.getD j 0))) = (wds (XF H V (j + 1))).toArray := UD _ _ _
attribute [local go_sem] Afw AeP AeO Ab8 Ab9 Aca VI Yt
theorem AfB (H : List (BitVec 32)) (hH : H.length = 8) (l : List UInt8) (hl : l.length = 64) (w : World) :
 Calls Tryz.prog 153 #[.agg (wds H).toArray, .agg (u8s l).toArray] w fun e w' => e = .returned (.agg (wds (YK H l)).toArray) ∧ Below w.heap.size w w' := by
 have Hl := Lh hl;have HH := Lh hH;clear hl hH;go_enter Tryz.func153, Tryz.ntmps153
 go_wp2_with fail
 have n : Row (((w.alloc (.cells (wds H).toArray 207)).alloc (.cells (u8s l).toArray 213)).alloc (.cells (wds [0, 0, 0, 0, 0, 0, 0, 0]).toArray 207)) w.heap.size 207 (wds H).toArray := ((Row.new _ _ _).alloc _).alloc _
 have r1 : Row (((w.alloc (.cells (wds H).toArray 207)).alloc (.cells (u8s l).toArray 213)).alloc (.cells (wds [0, 0, 0, 0, 0, 0, 0, 0]).toArray 207)) (w.heap.size + 1) 213 (u8s l).toArray := by
  have h := (Row.new (w.alloc (.cells (wds H).toArray 207)) 213 (u8s l).toArray).alloc (.cells (wds [0, 0, 0, 0, 0, 0, 0, 0]).toArray 207);rwa [World.size_alloc] at h
 have q : Row (((w.alloc (.cells (wds H).toArray 207)).alloc (.cells (u8s l).toArray 213)).alloc (.cells (wds [0, 0, 0, 0, 0, 0, 0, 0]).toArray 207)) (w.heap.size + 1 + 1) 207 (wds [0, 0, 0, 0, 0, 0, 0, 0]).toArray := by
  have h := Row.new ((w.alloc (.cells (wds H).toArray 207)).alloc (.cells (u8s l).toArray 213)) 207 (wds [0, 0, 0, 0, 0, 0, 0, 0]).toArray;rwa [World.size_alloc, World.size_alloc] at h
 have r : Below w.heap.size w (((w.alloc (.cells (wds H).toArray 207)).alloc (.cells (u8s l).toArray 213)).alloc (.cells (wds [0, 0, 0, 0, 0, 0, 0, 0]).toArray 207)) :=
  (((Below.refl _ _).alloc (Nat.le_refl _) _).alloc (by simp) _).alloc (by simp; omega) _
 have s0 : (((w.alloc (.cells (wds H).toArray 207)).alloc (.cells (u8s l).toArray 213)).alloc (.cells (wds [0, 0, 0, 0, 0, 0, 0, 0]).toArray 207)).heap.size = w.heap.size + 3 := by simp
 rw [show #[Value.int IntKind.u32 0, Value.int IntKind.u32 0, Value.int IntKind.u32 0, Value.int IntKind.u32 0, Value.int IntKind.u32 0, Value.int IntKind.u32 0, Value.int IntKind.u32 0, Value.int IntKind.u32 0] = (wds [0, 0, 0, 0, 0, 0, 0, 0]).toArray from rfl];generalize (((w.alloc (.cells (wds H).toArray 207)).alloc (.cells (u8s l).toArray 213)).alloc (.cells (wds [0, 0, 0, 0, 0, 0, 0, 0]).toArray 207)) = w1 at n r1 q r s0 ⊢;refine (Agq (w.heap.size + 1) _ l Hl.out w1 (by omega) r1).mono ?_;rintro e w2 ⟨gw, rfl, au, u, s⟩;replace n := n.below s (by omega);replace q := q.below s (by omega);replace r := r.trans (s.mono (by omega));have s2 := s.size;go_wp2_with fail
 refine (AfH w2).mono ?_;rintro e m ⟨gk, rfl, ar, af, o⟩;have aw := u.lt;replace n := n.below o (by omega);replace q := q.below o (by omega);replace u := u.below o (by omega);replace r := r.trans (o.mono (by omega));have s3 := o.size;have av := af.lt
 go_wp2_with (first
  | (refine wpList_load_row rfl 205 _ rfl w.heap.size rfl 207 (wds H).toArray (0, 0) _ n Tryz.underlying205 rfl (by rw [JI _ HH.out]; kernel_rfl) ?_)
  | (refine wpList_store_row rfl 205 _ _ rfl m.heap.size (wds H).toArray rfl rfl 205 _ (heap_alloc_new m _) (by rw [JI _ HH.out]; kernel_rfl) (by rw [JI _ HH.out]; rfl) (UC H) ?_
     rw [World.setRow_alloc_new]))
 have ag := Row.new m 205 (wds H).toArray;have b4 := (Below.refl m.heap.size m).alloc (Nat.le_refl _) (.cells (wds H).toArray 205);generalize m.alloc (.cells (wds H).toArray 205) = w4 at ag b4 ⊢;have ah := Lh (E4 (Yu l) H HH.out);go_loopw [18] (fun i wr => ∃ k : Nat, i = .int .i64 (k : Int) ∧ k ≤ 64 ∧ Row wr m.heap.size 205 (wds (XC (Yu l) H k)).toArray ∧ Below m.heap.size m wr) (fun i _ => (64 - intOf i).toNat)
 case atStart => exact ⟨0, by simp, by omega, ag, b4⟩
 case round =>
  clear ag b4;obtain ⟨k, rfl, hk, j, z⟩ := hrel;by_cases aj : k < 64
  · obtain ⟨a, b, c, d, e, f, g, i, aa⟩ := AjB (ah.out k);rw [aa] at j;have am := Lh aa;clear aa;have c0 := j.cellv (i := 0) (v := .int .u32 (wd a)) rfl;have c1 := j.cellv (i := 1) (v := .int .u32 (wd b)) rfl;have c2 := j.cellv (i := 2) (v := .int .u32 (wd c)) rfl;have c4 := j.cellv (i := 4) (v := .int .u32 (wd e)) rfl;have c5 := j.cellv (i := 5) (v := .int .u32 (wd f)) rfl;have c6 := j.cellv (i := 6) (v := .int .u32 (wd g)) rfl;have c7 := j.cellv (i := 7) (v := .int .u32 (wd i)) rfl;have ck := (af.below z (by omega)).cellv (Xj cubeL k (by show k < 64; omega));have cw := (u.below z (by omega)).cellv (Xj (Yu l) k (by rw [Yu, JM _ (Kx _ _)]; omega));obtain ⟨xk, ad⟩ : ∃ x, x = cubeL.getD k 0 := ⟨_, rfl⟩;obtain ⟨xw, ae⟩ : ∃ x, x = (Yu l).getD k 0 := ⟨_, rfl⟩;rw [← ad] at ck;rw [← ae] at cw;have an := Lh ad;have ao := Lh ae;clear ad ae;go_wp2
    go_quiet (fail)
    go_wp2
    go_quiet ((go_at_call 231; exact ER (YT _ _ (by omega) (by omega) _)))
    go_wp2
    go_quiet ((go_at_call 231; exact ER (YT _ _ (by omega) (by omega) _)))
    go_wp2
    refine QM 2 (by kernel_rfl) (by kernel_rfl) ?_;simp only [L0, LE, Ly, L8]
    repeat still_step
    refine wpStill_nil ?_;refine wpList_copy_own rfl _ _ 284 284 rfl 92 Tryz.underlying284 (by kernel_rfl) m.heap.size 1 7 7 ⟨m.heap.size, 0, none⟩ 7 8 rfl rfl (wds [a, b, c, d, e, f, g, i]).toArray 205 j (wds [a, b, c, d, e, f, g]) rfl ?_ (by simp [wds]) ?_ ?_
    · exact Row.from_ (cur := (wds [a, b, c, d, e, f, g, i]).toArray) j 0 (AgH a b c d e f g i)
    · exact fun v hv => (N2.1 (UC _)) v (by simpa using hv)
    generalize ac : World.setRow _ _ _ = w9;have t : Row w9 m.heap.size 205 (wds [a, a, b, c, d, e, f, g]).toArray := by rw [← ac]; exact Row.setRow (cs := (wds [a, b, c, d, e, f, g, i]).toArray) j _
    have ap : Below m.heap.size m w9 := by rw [← ac]; exact Kn (Below.drew (Zn (Zn (Zn z _) _) _)) (Nat.le_refl _) _
    clear ac c0 c1 c2 c4 c5 c6 c7 ck cw j z;have c4 := t.cellv (i := 4) (v := .int .u32 (wd d)) rfl;have c0 := t.cellv (i := 0) (v := .int .u32 (wd a)) rfl;have f4 := t.free 4;have f0 := t.free 0;go_wp2
    go_roundw
    case rel => exact ⟨k + 1, by go_num, by omega, by rw [← AeJ _ _ _ _ _ _ _ _ _ _ _ _ _ am.out an.out ao.out]; exact (t.set _ _).set _ _, (ap.setCell (p := ⟨m.heap.size, 0, none⟩) (Nat.le_refl _) _).setCell (p := ⟨m.heap.size, 4, none⟩) (Nat.le_refl _) _⟩
    case measure => simp [intOf]; omega
  · obtain rfl : k = 64 := by omega
    clear aj;rw [show ((64 : Nat) : Int) = 64 from rfl];have n := n.below z (by omega);have q := q.below z (by omega);have r := r.trans (z.mono (by omega));have gv : w.heap.size + 2 < m.heap.size := by omega
    obtain ⟨V, hV⟩ : ∃ V, V = XC (Yu l) H 64 := ⟨_, rfl⟩;have ai : V.length = 8 := by rw [hV]; exact ah.out 64
    rw [← hV] at j;have HV := Lh hV;have al := Lh ai;clear hV ai z u af o s;obtain ⟨G, hG⟩ : ∃ G, G = m.heap.size := ⟨_, rfl⟩;rw [← hG] at j gv ⊢;clear hG;go_wp2
    go_loopw [96] (fun i wr => ∃ k : Nat, i = .int .i64 (k : Int) ∧ k ≤ 8 ∧ Row wr w.heap.size 207 (wds (XF H V k)).toArray ∧ Row wr G 205 (wds V).toArray ∧ Row wr (w.heap.size + 1 + 1) 207 (wds [0, 0, 0, 0, 0, 0, 0, 0]).toArray ∧ Below w.heap.size w wr) (fun i _ => (8 - intOf i).toNat)
    case atStart => exact ⟨0, by simp, by omega, n, j, q, r⟩
    case round =>
     clear j n q r;obtain ⟨k, rfl, hk, n, j, q, r⟩ := hrel;by_cases ab : k < 8
     · have c0 := n.cellv (Xj _ k (by rw [XG _ _ HH.out]; exact ab));have c1 := j.cellv (Xj _ k (by rw [al.out]; exact ab));have f0 := n.free k;have aq : (k : Int) < 8 := by omega
       go_wp2
       refine QM 10 (by kernel_rfl) (by kernel_rfl) ?_;simp only [L0, LE, Ly, L8]
       repeat still_step
       refine wpStill_nil ?_;go_wp2
       go_roundw
       case rel => exact ⟨k + 1, by go_num, by omega, by rw [← Agv]; exact n.drew.set _ _, (j.drew).far (by show G ≠ w.heap.size; omega) _, (q.drew).far (by show w.heap.size + 1 + 1 ≠ w.heap.size; omega) _, r.drew.setCell (p := ⟨w.heap.size, k, none⟩) (Nat.le_refl _) _⟩
       case measure => simp [intOf]; omega
     · obtain rfl : k = 8 := by omega
       clear ab;have ak : (wds (XF H V 8)).toArray.size = 8 := JI _ (XG _ _ HH.out 8);have y := Lh ak;clear ak
       go_wp2_with (first
        | (refine wpList_load_row rfl 207 _ rfl w.heap.size rfl 207 (wds (XF H V 8)).toArray (0, 0) _ n Tryz.underlying207 rfl (by rw [y.out]; kernel_rfl) ?_)
        | (refine wpList_store_row rfl 207 _ _ rfl (w.heap.size + 1 + 1) (wds (XF H V 8)).toArray rfl rfl 207 _ q (by rw [y.out]; kernel_rfl) (by rw [y.out]; rfl) (UC _) ?_))
       exact bodyPost_ret (v := .agg (wds (XF H V 8)).toArray) (results_cell_row Tryz.results153 _ _ (w.heap.size + 1 + 1) 207 _ (0, 0) _ rfl (q.setRow _) Tryz.underlying207 rfl (by rw [y.out]; kernel_rfl)) rfl ⟨by rw [YK, ← HV.out], Kn r (by omega) _⟩
end Go.Proofs.YtdcmppdhdcjpfaaGreat
namespace Go.Proofs.YtdcmppdhdcjpfaaGreat
open Go.RowKit Go.Deep
def Aao (x : BitVec 32) : List UInt8 := [UInt8.ofNat (x >>> 24).toNat, UInt8.ofNat (x >>> 16).toNat, UInt8.ofNat (x >>> 8).toNat, UInt8.ofNat x.toNat]
def Xz (H : List (BitVec 32)) : List UInt8 := H.flatMap Aao
theorem AdY (H : List (BitVec 32)) : (Xz H).length = 4 * H.length := by
 induction H with
 | nil => rfl
 | cons a l ih => simp only [Xz, LC, Le, Lc] at ih ⊢; rw [ih]; simp [Aao]; omega
theorem Acq (H : List (BitVec 32)) (k : Nat) (h : k < H.length) : Xz (H.take (k + 1)) = Xz (H.take k) ++ Aao (H.getD k 0) := by
 rw [No h, Xz, L2];simp [Xz, List.getD, La h]
theorem AhV (x : BitVec 32) : wd x % (256 : Int) = ((UInt8.ofNat x.toNat).toNat : Int) := by
 unfold wd; simp
theorem AfS (w : World) : (isAgg 92).run Tryz.prog w = .ok false w := by
 unfold isAgg; simp [run_underlying Tryz.underlying92]
theorem Ahj (H : List (BitVec 32)) (i : Nat) (hi : i < H.length) (w : World) : (part 92 (wds H).toArray i).run Tryz.prog w = .ok (.int .u32 (wd (H.getD i 0))) w := by
 unfold part;rw [Sem.run_bind, AfS];simp only [Result.andThen_ok, Bool.false_eq_true, if_false, Xj H i hi];rfl
theorem Afk (x : BitVec 32) : [Value.int .u8 (wd (x >>> 24) % (256 : Int)), .int .u8 (wd (x >>> 16) % (256 : Int)), .int .u8 (wd (x >>> 8) % (256 : Int)), .int .u8 (wd x % (256 : Int))] = u8s (Aao x) := by
 simp only [AhV, u8s, Aao, LF, Nc]
attribute [local go_sem] AhG AhF AiN
theorem AfD (H : List (BitVec 32)) (hH : H.length = 8) (w : World) :
 Calls Tryz.prog 154 #[.agg (wds H).toArray] w fun e w' => e = .returned (.string ⟨(Xz H).toArray⟩) ∧ Below w.heap.size w w' := by
 have h := Lh hH;clear hH;obtain ⟨i0, o, r, s, t⟩ := info_parts Vz;have z := Row.new w 207 (wds H).toArray;have u := (Below.refl w.heap.size w).alloc (Nat.le_refl _) (.cells (wds H).toArray 207);have s0 : w.heap.size + 1 ≤ (w.alloc (.cells (wds H).toArray 207)).heap.size := by simp
 go_enter Tryz.func154, Tryz.ntmps154
 go_wp2_with (first
  | (refine wpList_load_row rfl 205 _ rfl w.heap.size rfl 207 (wds H).toArray (0, 0) _ z Tryz.underlying205 rfl (by rw [JI _ h.out]; kernel_rfl) ?_))
 generalize w.alloc (.cells (wds H).toArray 207) = w1 at z u s0 ⊢;go_loopw [3, 8] (fun v i wr => ∃ k : Nat, i = .int .i64 (k : Int) ∧ k ≤ 8 ∧ wr.ownsRow (w.heap.size + 1) 5 1 v (4 * k) (u8s (Xz (H.take k))) ∧ Below w.heap.size w wr ∧ w.heap.size + 1 ≤ wr.heap.size) (fun _ i _ => (8 - intOf i).toNat)
 case atStart => exact ⟨0, by simp, by omega, World.ownsRow_nil _ _ _ _, u, s0⟩
 case round =>
  obtain ⟨k, rfl, hk, b, j, hs⟩ := hrel;by_cases d : k < 8
  · have g := Aaz (P := Tryz.prog) wr 205 92 8 (wds H).toArray .i64 k _ Tryz.underlying205 (Ahj H k (by rw [h.out]; exact d) wr) (by kernel_rfl) d;obtain ⟨x, q⟩ : ∃ x, x = H.getD k 0 := ⟨_, rfl⟩;rw [← q] at g;have Hx := Lh q;clear q;have y : (k : Int) < 8 := by omega
    go_wp2_with (
     (at_builtin
      refine wpList_append_own _ rfl (.tmp 11) (.tmp 23) 277 rfl (w.heap.size + 1) 5 i0 (.int .u8 0) 1 1 Tryz.underlying277 o r s t rfl (by decide) _ _ _ rfl (b.alloc _) ⟨wr.heap.size, 0, none⟩ 4 4 [.int .u8 (wd (x >>> 24) % (256 : Int)), .int .u8 (wd (x >>> 16) % (256 : Int)), .int .u8 (wd (x >>> 8) % (256 : Int)), .int .u8 (wd x % (256 : Int))] rfl rfl (Jj _ _ _) ?c2 (by unfold maxLen; omega) (by omega) (by simp; omega) ?_))
    case c2 => rw [Afk]; exact Vn _
    intro v' w2 c n _;have l := QO (j.alloc (by omega) _) (b.alloc _) n (by simp; omega) (by omega);have p := n.size;rw [World.size_alloc] at p;rw [Afk, Hx.out] at c;clear n g b j;go_wp2
    go_roundw
    case rel => exact ⟨k + 1, by go_num, by omega, by rw [Acq H k (by rw [h.out]; exact d), YY]; exact c, l, by omega⟩
    case measure => simp [intOf]; omega
  · obtain rfl : k = 8 := by omega
    clear d;rw [show ((8 : Nat) : Int) = 8 from rfl];rw [L1 (by rw [h.out]; omega)] at b;have m := J8 (P := Tryz.prog) 277 9 5 Tryz.underlying277 Tryz.underlying5 Tryz.underlying9 _ b;clear b;go_wp2
    go_ret
    exact ⟨rfl, j⟩
end Go.Proofs.YtdcmppdhdcjpfaaGreat
