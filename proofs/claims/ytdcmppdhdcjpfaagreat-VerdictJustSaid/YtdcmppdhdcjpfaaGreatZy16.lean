/- Lemmas for VerdictJustP. -/
import Derived.Test.YtdcmppdhdcjpfaaGreatZy1
import Derived.Test.YtdcmppdhdcjpfaaGreatZy15
import Derived.Test.YtdcmppdhdcjpfaaGreatZy10
import Derived.Test.YtdcmppdhdcjpfaaGreatZy12
import Derived.Test.YtdcmppdhdcjpfaaGreatZy7
import Derived.Test.YtdcmppdhdcjpfaaGreatZy4
import Derived.Defers
import Derived.Laws.Pointers
import Derived.Laws.LoneSync
import Derived.RegionTactic
import Derived.RegionCalls
set_option linter.unusedVariables false
set_option linter.unusedSimpArgs false
set_option maxRecDepth 100000
set_option maxHeartbeats 16000000
namespace Go.Proofs.YtdcmppdhdcjpfaaGreat
open Go.RowKit Go.Deep
attribute [local go_sem] Oper.semAt_some
theorem UL {F : Fence} {n : Nat} {P : Program} {ops : Array Oper} {rest : List Oper} {o : Oper} {a : Act} {w w1 : World} {Q : Exit → Act → World → Prop} (hgd : o.guard = none) (hd : ∀ c, o.op ≠ .defer c) (ha : o.about P w a.eval = none) (v : Value) (hv : (execOp a.eval o).run P w = .ok (.value v) w1) (h : wpListIn F n P ops Q rest (a.put o.dst v) w1) : wpListIn F n P ops Q (o :: rest) a w :=
 wpListIn_plain hgd fun K hK => by
  unfold Oper.wpIn
  refine ⟨fun f hf => (by rw [ha] at hf; cases hf), ?_⟩
  rw [Oper.semAt_plain _ _ _ hd, hv]
  exact hK _ _ h
theorem Acg {F : Fence} {n : Nat} {P : Program} {ops : Array Oper} {rest : List Oper} {o : Oper} {a : Act} {w : World} {Q : Exit → Act → World → Prop} (s x : Operand) (t u : TypeId) (_ : o.op = .call { callee := .builtin .append, args := #[s, x], argTypes := #[t, u] }) (h : Stop (wpListIn F n P ops Q (o :: rest) a w) id) : wpListIn F n P ops Q (o :: rest) a w := h.out
theorem K0 {F : Fence} {n : Nat} {P : Program} {ops : Array Oper} {rest : List Oper} {o : Oper} {a : Act} {w : World} {Q : Exit → Act → World → Prop} (ty : TypeId) (p x : Operand) (_ : o.op = .store ty p x) (h : Stop (wpListIn F n P ops Q (o :: rest) a w) id) : wpListIn F n P ops Q (o :: rest) a w := h.out
def Ob (bk : Nat) (W : World) (k : Nat) : Prop := ∃ a n c, W.cell? ⟨bk, 6, none⟩ = some (.slice (some a) n c) ∧ a.block = k
structure KpB (bk : Nat) (L : Nat → Prop) (A B : World) : Prop where
 block : ∀ k o, k ≠ bk → ¬ L k → ¬ Ob bk A k → A.heap[k]? = some o → B.heap[k]? = some o
 size : A.heap.size ≤ B.heap.size
 own : ∀ k, Ob bk B k → Ob bk A k ∨ A.heap.size ≤ k
 lt : (∀ k, Ob bk A k → k < A.heap.size) → ∀ k, Ob bk B k → k < B.heap.size
 cell : ∀ j, j ≠ 6 → B.cell? ⟨bk, j, none⟩ = A.cell? ⟨bk, j, none⟩
theorem KpB.trans {bk : Nat} {L : Nat → Prop} {A B C : World} (h : KpB bk L A B) (k : KpB bk L B C) : KpB bk L A C :=
 ⟨fun i o h1 h2 h3 h4 => k.block i o h1 h2 (fun ho => (h.own i ho).elim h3 fun hs => by have := (Ln.1 h4).1; omega) (h.block i o h1 h2 h3 h4), Le h.size k.size,
  fun i ho => (k.own i ho).elim (fun h1 => h.own i h1) fun hs => .inr (Le h.size hs), fun hl => k.lt (h.lt hl), fun j hj => (k.cell j hj).trans (h.cell j hj)⟩
theorem KpB.refl (bk : Nat) (L : Nat → Prop) (A : World) : KpB bk L A A := ⟨fun _ _ _ _ _ h => h, Nat.le_refl _, fun _ h => .inl h, fun h => h, fun _ _ => rfl⟩
theorem YH {bk : Nat} {A B : World} (h : B.cell? ⟨bk, 6, none⟩ = A.cell? ⟨bk, 6, none⟩) {k : Nat} (ho : Ob bk B k) : Ob bk A k := by
 obtain ⟨a, n, c, e, d⟩ := ho;exact ⟨a, n, c, by rw [← h]; exact e, d⟩
theorem KpB.of_below {bk : Nat} {L : Nat → Prop} {A B : World} (hb : bk < A.heap.size) (h : Below A.heap.size A B) : KpB bk L A B := by
 have d : ∀ j, B.cell? ⟨bk, j, none⟩ = A.cell? ⟨bk, j, none⟩ := fun j => World.cell?_of_block (h.block bk hb);exact ⟨fun k o _ _ _ c => by rw [h.block k (Ln.1 c).1]; exact c, h.size, fun k c => .inl (YH (d 6) c), fun e k c => Lc (e k (YH (d 6) c)) h.size, fun j _ => d j⟩
structure Safe (bk : Nat) (L : Nat → Prop) (W : World) (k : Nat) : Prop where
 nb : k ≠ bk
 nl : ¬ L k
 no : ¬ Ob bk W k
 lt : k < W.heap.size
theorem KpB.safe {bk : Nat} {L : Nat → Prop} {A B : World} (h : KpB bk L A B) {k : Nat} (s : Safe bk L A k) : Safe bk L B k :=
 ⟨s.nb, s.nl, fun ho => (h.own k ho).elim s.no fun hs => by have := s.lt; omega, Lc s.lt h.size⟩
theorem KpB.row {bk : Nat} {L : Nat → Prop} {A B : World} (h : KpB bk L A B) {g : Nat} {t : TypeId} {cs : Array Value} (hr : Row A g t cs) (s : Safe bk L A g) : Row B g t cs := h.block g _ s.nb s.nl s.no hr
theorem KpB.rd {bk : Nat} {L : Nat → Prop} {A B : World} (h : KpB bk L A B) {ad : Option Addr} {xs : List Value} (hr : Rd A ad xs) (hx : xs ≠ [] → ∀ a, ad = some a → Safe bk L A a.block) : Rd B ad xs := fun j u hj => by
 obtain ⟨a, e, k⟩ := hr j u hj;have g : xs ≠ [] := fun e => by rw [e] at hj; simp at hj
 have d := World.block_lt_of_cell? _ _ k;have c : (a.add j).block = a.block := JI a j;rw [c] at d;have s := hx g a e;have i : A.heap[a.block]? = some A.heap[a.block] := NE d;have l := h.block _ _ s.nb s.nl s.no i;exact ⟨a, e, (World.cell?_of_block (by rw [c]; exact l.trans i.symm)).trans k⟩
structure EachC (p : PgV) (bk bb : Nat) (L : Nat → Prop) (W : World) : Prop where
 rb : Row W bb 88 #[.pointer (some ⟨bk, 0, none⟩)]
 sb : Safe bk L W bb
 cb : W.cell? ⟨bk, 2, none⟩ = some (.slice p.ba p.body.length p.bcap)
 hr : Rd W p.ba (p.body.flatMap Nd.cells)
 sA : p.body.flatMap Nd.cells ≠ [] → ∀ ad, p.ba = some ad → Safe bk L W ad.block
 ltk : ∀ k, Ob bk W k → k < W.heap.size
 hL : ∀ k, L k → k < W.heap.size
 hbk : bk < W.heap.size
theorem EachC.kx {p : PgV} {bk bb : Nat} {L : Nat → Prop} {W W' : World} (h : EachC p bk bb L W) (k : KpB bk L W W') : EachC p bk bb L W' :=
 ⟨k.row h.rb h.sb, k.safe h.sb, (k.cell 2 (by omega)).trans h.cb, k.rd h.hr h.sA, fun hne ad e => k.safe (h.sA hne ad e), k.lt h.ltk, fun i hi => Lc (h.hL i hi) k.size, Lc h.hbk k.size⟩
theorem EachC.fresh {p : PgV} {bk bb : Nat} {L : Nat → Prop} {W W' : World} (h : EachC p bk bb L W) (b : Below W.heap.size W W') {k : Nat} (h1 : W.heap.size ≤ k) (h2 : k < W'.heap.size) : Safe bk L W' k :=
 ⟨by have := h.hbk; omega, fun hl => by have := h.hL k hl; omega, fun ho => by
  have := h.ltk k (YH (World.cell?_of_block (b.block bk h.hbk)) ho); omega, h2⟩
theorem EachC.add {p : PgV} {bk bb : Nat} {w W : World} {lb : Nat} (h : EachC p bk bb (fun _ => False) w) (b : Below w.heap.size w W) (h1 : w.heap.size ≤ lb) (h2 : lb < W.heap.size) : EachC p bk bb (fun i => i = lb) W := by
 have k := h.kx (KpB.of_below h.hbk b);have g : ∀ i, i < w.heap.size → Safe bk (fun _ => False) W i → Safe bk (fun i => i = lb) W i := fun i hi s => ⟨s.nb, by omega, s.no, s.lt⟩;exact ⟨k.rb, g _ h.sb.lt k.sb, k.cb, k.hr, fun c d e => g _ (h.sA c d e).lt (k.sA c d e), k.ltk, fun i hi => by omega, k.hbk⟩
structure DlT (W : World) (x : DlV) : Prop where
 ok : DlOk W x
 ib : IntB W x.A
 nil : x.A = none → x.d.path = []
def DlP (full : List Dl) (pre : List DlV) (x : DlV) (W : World) : Prop := DlT W x ∧ ∃ rest, pre.map DlV.d ++ x.d :: rest = full
def mkD (π : List Int) (c : Int × Int) : Dl := ⟨π, c.1, c.2⟩
def UF (l : List Nd) (t : Tr) (q : Nat) : List Dl := ((QY [] 0 t).take q).flatMap fun e => (ZK l e.1).map (mkD e.2)
theorem AdF (l : List Nd) (t : Tr) {q : Nat} (h : t.size ≤ q) : UF l t q = Ji l t := by
 unfold UF Ji;rw [LH (by rw [Jk]; exact h)];rfl
theorem Vb {l : List Nd} {t : Tr} {q : Nat} {π : List Int} (h : (QY [] 0 t)[q]? = some (q, π)) : UF l t (q + 1) = UF l t q ++ (ZK l q).map (mkD π) := by
 unfold UF;rw [LF, h];simp
theorem Aid {l : List Nd} {t : Tr} {q : Nat} {π : List Int} (h : (QY [] 0 t)[q]? = some (q, π)) : ∃ rest, UF l t q ++ (ZK l q).map (mkD π) ++ rest = Ji l t := by
 rw [← Vb h];refine ⟨((QY [] 0 t).drop (q + 1)).flatMap fun e => (ZK l e.1).map (mkD e.2), ?_⟩;unfold UF Ji;rw [← L6, LD];rfl
theorem Ue (l : List Nd) (q : Nat) {t : Tr} (hat : At l q t) (ha : ¬ Qx t.root < 0) : (ZK l q).length ≤ 100 := by
 rw [← VT hat ha]; exact AgX _ _
theorem Afw {l : List Nd} {t : Tr} {q : Nat} (hw : Whole l t) (hq : q < l.length) : ∃ π k, (QY [] 0 t)[q]? = some (q, π) ∧ At l q k := by
 obtain ⟨e, d⟩ : ∃ e, (QY [] 0 t)[q]? = some e := ⟨_, Lb (by rw [Jk, hw.size]; exact hq)⟩;have c := U2 t [] 0 q e d;rw [LJ] at c;obtain ⟨k, h⟩ := (KL t [] 0 e.1 e.2).1 (by simpa using Lg d);have g := Ei hw.hat h;obtain ⟨a, b⟩ := e;simp only at c g;subst c;exact ⟨b, k, d, g⟩
mutual
theorem Ur : ∀ (t : Tr) (own : List Int) (q : Nat) (e : Nat × List Int), e ∈ QY own q t → e.2.length + 1 ≤ own.length + t.size
 | .node x ks, own, q, e, h => by
  have hs : (Tr.node x ks).size = (QJ ks).length + 1 := by rw [Tr.size, Tr.flat, Ld]
  rw [QY] at h
  rcases Lt.1 h with h | h
  · rw [h, hs]; show own.length + 1 ≤ _; omega
  · have := Uq ks own (q + 1) 0 e h; omega
theorem Uq : ∀ (ts : List Tr) (own : List Int) (q : Nat) (i : Int) (e : Nat × List Int), e ∈ Zq own q i ts → e.2.length + 1 ≤ own.length + 1 + (QJ ts).length
 | [], own, q, i, e, h => by simp [Zq] at h
 | t :: ts, own, q, i, e, h => by
  have hl : (QJ (t :: ts)).length = t.size + (QJ ts).length := by rw [QJ, Lf]; rfl
  rw [Zq] at h
  rcases L3.1 h with h | h
  · have := Ur t _ _ e h; simp at this; omega
  · have := Uq ts own _ _ e h; omega
end
theorem Akl {W : World} {A : Option Addr} {l : List (Int × Int)} (hr : Rd W A (l.flatMap chC)) {k : Nat} {x : Int × Int} (hx : l[k]? = some x) : ∃ ad, A = some ad ∧ ∀ (j : Nat) (u : Value), (chC x)[j]? = some u → W.cell? ((ad.add (k * 3)).add j) = some u :=
 Afa (c := chC) (sz := 3) (fun _ => rfl) (by decide) hr hx
theorem Aej (p : PgV) (t : Tr) (hf : Fine p t) (hlc : p.body.length ≤ p.bcap) (hcm : p.bcap ≤ maxLen) (bk bb : Nat) (w : World) (hC : EachC p bk bb (fun _ => False) w) :
 VL Tryz.prog 242 #[.pointer (some ⟨bb, 0, none⟩)] (fun x : DlV => #[.agg x.cells]) (fun _ => False) (fun lb => KpB bk (fun i => i = lb)) (DlP (Ji p.body t)) (fun xs => xs.map DlV.d = Ji p.body t) (fun _ => True) (Ji p.body t).length True w := by
 intro lb J Jx W a5 ab _ hJ co hY h0;have bh : Below w.heap.size w W := ⟨ab.os, ab.tape, ab.output, ab.size, fun k hk => ab.block k hk (by simp)⟩;have af := hC.add bh a5.1 a5.2;clear hC a5 bh ab w;have a2 : ∀ g x W1, J g W1 → DlP (Ji p.body t) g x W1 → g.length < (Ji p.body t).length → YieldAt Fence.wide 0 Tryz.prog lb #[.agg x.cells] W1 fun e W' => (e = .returned (.bool true) ∧ J (g ++ [x]) W' ∧ KpB bk (fun i => i = lb) W1 W') ∨ (e = .returned (.bool false) ∧ Jx (g ++ [x]) W' ∧ KpB bk (fun i => i = lb) W1 W') := hY;clear hY;generalize (fun i => i = lb) = L at af a2;obtain ⟨N, hN⟩ : ∃ N, N = p.body.length := ⟨_, rfl⟩;have cp : (N : Int) ≤ 200 := by have := hf.len; omega
 have HN := Lh hN;have HC := Lh af;have HJ := Lh hJ;have HY := Lh a2;have Hf := Lh hf;have b8 := Lh hlc;have bz := Lh hcm;have c0 := af.rb.cellv (i := 0) (v := .pointer (some ⟨bk, 0, none⟩)) rfl;have c1 := af.cb;rw [← hN] at c1;clear hN af hJ a2 hf hlc hcm;refine callsIn_of_wp Tryz.func242 rfl trivial ?_ rfl;simp only [Tryz.ntmps242, Lj, Ld, Lp, Nat.reduceAdd, Nat.reduceSub, Ll, Lm, Lr, L2, Lo, Lk];gi_wp2_with fail
 gi_loopw [14] (fun i wr => ∃ (q : Nat) (g : List DlV), i = .int .i64 (q : Int) ∧ q ≤ N ∧ Hid (g.map DlV.d = UF p.body t q) ∧ Hid (EachC p bk bb L wr) ∧ J g wr) (fun i _ => N - (intOf i).toNat)
 case atStart => exact ⟨0, [], by simp, Nat.zero_le _, Lh (by simp [UF]), HC, h0⟩
 case round =>
  clear h0 c0 c1 HC;obtain ⟨q, g, rfl, cu, n, HC, hj⟩ := hrel;by_cases cl : q < N;rotate_left
  · obtain rfl : q = N := by omega
    gi_wp2_with fail
    go_end0
    refine ⟨⟨_, rfl⟩, .inl ⟨_, ?_, hj⟩⟩;rw [n.out];exact AdF _ _ (by have := Hf.out.good.size; have := HN.out; omega)
  obtain ⟨π, tq, a6, o⟩ := Afw Hf.out.good.whole (q := q) (by have := HN.out; omega);have z : ¬ Qx tq.root < 0 := Hf.out.ar _ (Lg o.root);have a0 := Lh (fun W h => AeI p.ba p.bcap p.body t q π W Hf.out.good.hat Hf.out.good.size a6 h (by have := Hf.out.len; omega));have aj := Lh (fun W h => Acv p.ba p.bcap p.body q tq W o h (by have := Hf.out.len; omega) b8.out bz.out (Aia z).1 (Aia z).2 (Ahv o z));rw [VT o z, ← HN.out] at aj;rw [← HN.out] at a0;have a1 := Lh a6;have bl := Ue p.body q o z;obtain ⟨y, a4⟩ : ∃ y, y = ZK p.body q := ⟨_, rfl⟩;rw [← a4] at aj bl;have bd := Lh a4;have ct : (q : Int) < (N : Int) := by omega
  have c0 := HC.out.rb.cellv (i := 0) (v := .pointer (some ⟨bk, 0, none⟩)) rfl;have c1 := HC.out.cb;rw [← HN.out] at c1;clear a6 o z a4 cl;gi_wp2_with fail
  refine ⟨trivial, rfl, (callsIn_wide.2 (a0.out wr HC.out.hr)).mono ?_⟩;rintro e w1 ⟨PA, pc, rfl, a7, br, b1, bq⟩;have s := Lh (HC.out.kx (KpB.of_below HC.out.hbk b1));replace hj := QD HJ.out hj b1;have bu : Qi π ≠ [] → ∀ r, PA = some r → Safe bk L w1 r.block := fun ag r e => HC.out.fresh b1 (bq r e) (XJ a7 ag e)
  have c0 := s.out.rb.cellv (i := 0) (v := .pointer (some ⟨bk, 0, none⟩)) rfl;have c1 := s.out.cb;rw [← HN.out] at c1;clear b1 bq a0 HC;gi_wp2_with fail
  refine ⟨trivial, rfl, (callsIn_wide.2 (aj.out w1 s.out.hr)).mono ?_⟩;rintro e w2 ⟨cv, rfl, j, b2⟩;obtain ⟨CA, cc, rfl⟩ := Zi j;have a3 : Rd w2 CA (y.flatMap chC) := YI j;have bi : ∀ r, CA = some r → w1.heap.size ≤ r.block := fun r e => QC j (by rw [e]; rfl)
  have bt : y.flatMap chC ≠ [] → ∀ r, CA = some r → Safe bk L w2 r.block := fun ag r e => s.out.fresh b2 (bi r e) (XJ a3 ag e)
  have ax : Qi π ≠ [] → ∀ r, PA = some r → Safe bk L w2 r.block := fun ag r e => (KpB.of_below s.out.hbk b2).safe (bu ag r e)
  have az := Lh (s.out.kx (KpB.of_below s.out.hbk b2));have b0 := Lh a3;have cf := Lh bt;have cg := Lh ax;have ce := Lh (a7.go b2);have cd := Lh br;have cq : (y.length : Int) ≤ 100 := by omega
  replace hj := QD HJ.out hj b2;clear j a3 bi bt ax bu a7 br b2 s c0 c1 aj;gi_wp2_with fail
  gi_loopw [35] (fun i wr => ∃ (k : Nat) (g : List DlV), i = .int .i64 (k : Int) ∧ k ≤ y.length ∧ Hid (g.map DlV.d = UF p.body t q ++ (y.take k).map (mkD π)) ∧ Hid (KpB bk L w2 wr) ∧ J g wr) (fun i _ => y.length - (intOf i).toNat)
  case atStart => exact ⟨0, g, by simp, Nat.zero_le _, Lh (by rw [n.out]; simp), Lh (KpB.refl _ _ _), hj⟩
  case round =>
   clear hj;obtain ⟨k, g, rfl, hk, n, ae, hj⟩ := hrel;by_cases ak : k < y.length;rotate_left
   · obtain rfl : k = y.length := by omega
     have b9 : Hid (g.map DlV.d = UF p.body t (q + 1)) := by
      show _ = _;rw [n.out, LS, Vb a1.out, bd.out]
     have bx := Lh (az.out.kx ae.out);clear n az;gi_wp2_with fail
     go_roundw
     case rel => exact ⟨q + 1, g, by go_num, by omega, b9, bx, hj⟩
     case measure => simp [intOf]; omega
   obtain ⟨c, hc⟩ : ∃ c, y[k]? = some c := ⟨_, Lb ak⟩;have bs := ae.out.rd b0.out cf.out;obtain ⟨ca, ci, bj⟩ := Akl bs hc;subst ci;have bc := Lh bj;have Hc := Lh hc;have cr : (k : Int) < (y.length : Int) := by omega
   clear bs bj hc ak;gi_wp2_with (first | (refine K0 _ _ _ rfl ?_) | (refine Z2 rfl 35 _ rfl (ca.add (k * 3)) rfl [.slice none 0 0, .int .i64 c.1, .int .i64 c.2] _ bc.out Tryz.underlying35 rfl (by kernel_rfl) ?_))
   refine Stop.to ?_;obtain ⟨D, hD⟩ : ∃ D, D = wr.heap.size := ⟨_, rfl⟩;obtain ⟨w3, al⟩ : ∃ w3, w3 = wr.alloc (.cells #[.slice none 0 0, .int .i64 0, .int .i64 0] 35) := ⟨_, rfl⟩;have a9 : Row w3 D 35 #[.slice none 0 0, .int .i64 0, .int .i64 0] := by rw [al, hD]; exact Row.new _ _ _
   have b3 : Below wr.heap.size wr w3 := by rw [al]; exact (Below.refl _ _).alloc (Nat.le_refl _) _
   rw [← al, ← hD];have bg : wr.heap.size ≤ D := LA hD.symm;clear al hD;refine QZ rfl 35 _ _ rfl D #[.slice none 0 0, .int .i64 c.1, .int .i64 c.2] rfl rfl 35 _ a9 (by kernel_rfl) rfl (by simp [Value.oneCell']) ?_;have ai := a9.setRow #[.slice none 0 0, .int .i64 c.1, .int .i64 c.2];have b4 : Below wr.heap.size wr (w3.setRow D #[.slice none 0 0, .int .i64 c.1, .int .i64 c.2]) := Qo b3 (Zu _ _ _) bg;generalize w3.setRow D #[.slice none 0 0, .int .i64 c.1, .int .i64 c.2] = w4 at ai b4 ⊢;clear a9 b3 bc;have au : Rd w4 PA (Qi π) := (ae.out.rd ce.out cg.out).go b4;have hπ : π.length ≤ 1000 := by have h9 : π.length + 1 ≤ 0 + t.size := Ur t [] 0 _ (Lg a1.out); have := Hf.out.good.size; have := Hf.out.len; omega
   obtain ⟨v5, w5, aw, j, aa, -⟩ := ZZ (P := Tryz.prog) 22 3 (.int .i64 0) 1 8 Tryz.underlying22 Z9 rfl (by decide) (by decide) (World.ownsRow_nil w4 w4.heap.size 3 1) (Nat.le_refl _) au (m := π.length) (cap := pc) (by rw [KJ, Nat.mul_one]) (Jj π) (fun e => by rw [cd.out e]; rfl) (by omega);have b5 : Below w4.heap.size w4 w5 := ⟨aa.os, aa.tape, aa.output, aa.size, fun k hk => aa.block k hk (by simp [Value.ownBlock])⟩;rw [LJ, Lo] at j;obtain ⟨u, ac, rfl, av, bp, aq, ah⟩ := X4 j;have ao : IntB w5 u := EF j rfl;have am := ai.below b5 ai.lt;have l4 := ai.lt;have bf := b4.trans (b5.mono b4.size);have an := Lh aw;clear j aa aw au b5 ai;obtain ⟨x, hx⟩ : ∃ x : DlV, x = ⟨u, ac, mkD π c⟩ := ⟨_, rfl⟩;have bv : Row (w5.setCell ⟨D, 0, none⟩ (.slice u π.length ac)) D 35 x.cells := by rw [hx]; exact am.set 0 _
   have o6 := Zh w5 D 0 (.slice u π.length ac);have c5 : w5.cell? ⟨D, 0, none⟩ = some (.slice none 0 0) := am.cellv (i := 0) rfl;have f5 := am.free 0;have b6 : Below wr.heap.size wr (w5.setCell ⟨D, 0, none⟩ (.slice u π.length ac)) := Qo bf o6 bg;have bo : Qi π ≠ [] → ∀ a, u = some a → a.block ≠ D := fun _ a e => by have := ah a e; omega
   have hT : DlT (w5.setCell ⟨D, 0, none⟩ (.slice u π.length ac)) x := by
    rw [hx];refine ⟨⟨av.only o6 bo, by show π.length ≤ 1000000; omega⟩, fun a e => ?_, fun e => ?_⟩
    · obtain ⟨ch, cm⟩ := ao a e;exact ⟨ch, cm.only o6 (by have := ah a e; omega)⟩
    · show π = [];have h0 := aq e;exact Lx (by omega)
   have hP : DlP (Ji p.body t) g x (w5.setCell ⟨D, 0, none⟩ (.slice u π.length ac)) := by
    refine ⟨hT, ?_⟩;obtain ⟨ay, a8⟩ := Aid (l := p.body) a1.out;refine ⟨(y.drop (k + 1)).map (mkD π) ++ ay, ?_⟩;obtain ⟨ak, cj⟩ := La.1 Hc.out;rw [← a8, ← bd.out, n.out, hx]
    conv => rhs; rw [← LD k y, LI ak, cj]
    simp
   have ap : g.length < (Ji p.body t).length := by
    obtain ⟨_, ay, hr⟩ := hP;rw [← hr]; simp
   have bm := QD HJ.out hj b6;obtain ⟨fn, cn, bw, body, hy, hR⟩ := HY.out _ x _ bm hP ap;have HR := Lh hR;have be := Lh (ae.out.trans (KpB.of_below (by have := az.out.hbk; have := ae.out.size; omega) b6))
   have Hn : Hid ((g ++ [x]).map DlV.d = UF p.body t q ++ (y.take (k + 1)).map (mkD π)) := by
    show _ = _;rw [LF, Hc.out, Nk, n.out, hx];simp
   clear hT hP ap bm hj hR b6 b4 bf o6 bo av bp aq ah ao am hx n Hc;gi_wp2_with (refine Acg _ _ _ _ rfl ?_);refine Stop.to ?_;refine UL rfl (fun c h => by cases h) rfl _ (Q1 rfl an.out) ?_;gi_wp2_with (refine Q4 rfl 35 _ rfl D rfl 35 x.cells (0, 0) _ bv Tryz.underlying35 rfl (by kernel_rfl) ?_);refine ⟨rfl, HR.out.mono ?_⟩;clear hy HR bv c5 f5 an;rintro e W' (⟨rfl, hj, bn⟩ | ⟨rfl, ck, -⟩);rotate_left
   · gi_wp2_with fail
     refine bodyPost_ret (results_none rfl _ _ _) rfl ?_;exact ⟨⟨_, rfl⟩, .inr ⟨_, trivial, ck⟩⟩
   have b7 := Lh (be.out.trans bn);clear be bn;gi_wp2_with fail
   go_roundw
   case rel => exact ⟨k + 1, _, by go_num, by omega, Hn, b7, hj⟩
   case measure => simp [intOf]; omega
end Go.Proofs.YtdcmppdhdcjpfaaGreat
namespace Go.Proofs.YtdcmppdhdcjpfaaGreat
open Go.RowKit Go.Deep
theorem Ut (w : World) : (callFunc 276 #[]).run Tryz.prog w = .ok (.value (.tuple #[])) w := run_call_mark0 Tryz.func276 (by kernel_rfl) (by kernel_rfl) (by kernel_rfl) .disable (by kernel_rfl) w
theorem Vs (w : World) : (callFunc 278 #[]).run Tryz.prog w = .ok (.value (.tuple #[])) w := run_call_mark0 Tryz.func278 (by kernel_rfl) (by kernel_rfl) (by kernel_rfl) .enable (by kernel_rfl) w
theorem AbL (a : Addr) (w : World) : (callFunc 279 #[.pointer (some a)]).run Tryz.prog w = .ok (.value (.tuple #[])) w := run_call_marked Tryz.func279 (by kernel_rfl) (by kernel_rfl) (by kernel_rfl) .acquire (by kernel_rfl) a w
theorem Uu (a : Addr) (w : World) : (callFunc 281 #[.pointer (some a)]).run Tryz.prog w = .ok (.value (.tuple #[])) w := run_call_marked Tryz.func281 (by kernel_rfl) (by kernel_rfl) (by kernel_rfl) .releaseMerge (by kernel_rfl) a w
theorem Aaa (a : Addr) (x : Value) (u : FrameMode) (w : World) (hc : w.cell? a = some x) (hz : w.frozen? a = false) :
 CallsD Tryz.prog 241 #[.pointer (some a), .bool true] u w fun e u' w' => u' = u ∧ (e = .returned (.tuple #[]) ∧ w' = w.drew.setCell a (.int .u32 1)) := by
 have c : w.drew.cell? a = some x := by go_simp
 have d : w.drew.frozen? a = false := by go_simp
 have g := run_call_store (P := Tryz.prog) Tryz.func264 (by kernel_rfl) (by kernel_rfl) (by kernel_rfl) (by kernel_rfl) (k := .u32) (y := 1) c d;go_enter_d Tryz.func241, Tryz.ntmps241
 go_wp2
 go_region_calls
 all_goals (go_end0; exact ⟨rfl, rfl⟩)
theorem Ab1 (a : Addr) (w : World) (hc : w.cell? a = some (.int .i32 1)) (hz : w.frozen? a = false) :
 Calls Tryz.prog 263 #[.pointer (some a)] w fun e w' => e = .returned (.tuple #[]) ∧ w' = w.setCell a (.int .i32 0) := by
 have g := Ut;have h := Vs;have i := Uu;have c := run_call_add (P := Tryz.prog) Tryz.func282 (by kernel_rfl) (by kernel_rfl) (by kernel_rfl) .i32 (by kernel_rfl) (y := -1) (s := 0) hc hz (by simp [go_sem]; rfl);have d := run_convert_to_unsafe (P := Tryz.prog) (src := 322) (dst := 326) Tryz.underlying322 Tryz.underlying326 (by kernel_rfl) hc;go_enter Tryz.func263, Tryz.ntmps263
 go_wp2
 first | go_end0 | go_ret
 exact ⟨rfl, rfl⟩
theorem Aev (a : Addr) (w : World) (hc : w.cell? a = some (.int .i32 0)) (hz : w.frozen? a = false) :
 Calls Tryz.prog 262 #[.pointer (some a)] w fun e w' => e = .returned (.tuple #[]) ∧ w' = w.setCell a (.int .i32 1) := by
 have i := Ut;have j := Vs;have h := AbL;have d := run_call_cas_hit (P := Tryz.prog) Tryz.func277 (by kernel_rfl) (by kernel_rfl) (by kernel_rfl) .i32 (by kernel_rfl) (y := 1) hc hz;have c : (w.setCell a (.int .i32 1)).cell? a = some (.int .i32 1) := World.cell?_setCell_same w a _ hc;have g := run_convert_to_unsafe (P := Tryz.prog) (src := 322) (dst := 326) Tryz.underlying322 Tryz.underlying326 (by kernel_rfl) c;go_enter Tryz.func262, Tryz.ntmps262
 go_wp2
 first | go_end0 | (simp only [Exit.inBlock, Exit.then]; refine bodyPost_ret (results_none rfl _ _ _) rfl ?_) | refine bodyPost_ret (results_none rfl _ _ _) rfl ?_
 exact ⟨rfl, rfl⟩
theorem Agc (a : Addr) (w : World) (hc : w.cell? a = some (.int .i32 0)) (hz : w.frozen? a = false) :
 Calls Tryz.prog 239 #[.pointer (some a)] w fun e w' => e = .returned (.tuple #[]) ∧ w' = w.setCell a (.int .i32 1) := by
 have c := Lh (Aev a w hc hz);clear hc hz;go_enter Tryz.func239, Tryz.ntmps239
 go_wp2_with fail
 refine c.out.mono ?_;rintro e d ⟨rfl, rfl⟩;go_wp2
 first | go_end0 | go_ret
 exact ⟨rfl, rfl⟩
theorem Vz (a : Addr) (u : FrameMode) (w : World) (hc : w.cell? a = some (.int .i32 1)) (hz : w.frozen? a = false) :
 CallsD Tryz.prog 240 #[.pointer (some a)] u w fun e u' w' => u' = u ∧ (e = .returned (.tuple #[]) ∧ w' = w.setCell a (.int .i32 0)) := by
 have c := Lh (Ab1 a w hc hz);clear hc hz;go_enter_d Tryz.func240, Tryz.ntmps240
 go_wp2_with fail
 refine c.out.mono ?_;rintro e d ⟨rfl, rfl⟩;go_wp2
 first | go_end0 | go_ret
 exact ⟨rfl, rfl⟩
def ZW (p : PgV) (dn st : Int) (v : Value) : Array Value := #[.int .i64 p.params, .slice p.va p.V.length p.vcap, .slice p.ba p.body.length p.bcap, .int .u32 dn, .int .i32 st, .int .u32 0, v]
theorem AaD (a : Addr) (x : Int) (w : World) (hc : w.cell? a = some (.int .u32 x)) :
 Calls Tryz.prog 178 #[.pointer (some a)] w fun e w' => e = .returned (.bool (x != 0)) ∧ w' = w := by
 have c := run_call_load (P := Tryz.prog) Tryz.func238 (by kernel_rfl) (by kernel_rfl) (by kernel_rfl) .u32 (by kernel_rfl) hc;go_enter Tryz.func178, Tryz.ntmps178
 go_wp2
 go_ret
 exact ⟨rfl, rfl⟩
theorem Aei (bk : Nat) (p : PgV) (v0 : Value) (R : Value → World → Prop) (w : World) (hr : Row w bk 102 (ZW p 0 0 v0))
 (hF : Calls Tryz.prog 108 #[.pointer (some ⟨bk, 0, none⟩)] (w.setCell ⟨bk, 4, none⟩ (.int .i32 1)) fun e w1 => e = .returned (.tuple #[]) ∧ ∃ v, Row w1 bk 102 (ZW p 0 1 v) ∧ R v w1) :
 Calls Tryz.prog 179 #[.pointer (some ⟨bk, 3, none⟩), .func (.func 108) #[.pointer (some ⟨bk, 0, none⟩)] #[]] w fun e w' =>
  e = .returned (.tuple #[]) ∧ ∃ v w1, Row w1 bk 102 (ZW p 0 1 v) ∧ R v w1 ∧ w' = (w1.drew.setCell ⟨bk, 3, none⟩ (.int .u32 1)).setCell ⟨bk, 4, none⟩ (.int .i32 0) := by
 have c := Lh (Agc ⟨bk, 4, none⟩ w (hr.cellv (i := 4) rfl) (hr.free 4));have l : Row (w.setCell ⟨bk, 4, none⟩ (.int .i32 1)) bk 102 (ZW p 0 1 v0) := hr.set 4 _;generalize w.setCell ⟨bk, 4, none⟩ (.int .i32 1) = w1 at c l hF;have j := Lh hF;have d := Lh (AaD ⟨bk, 3, none⟩ 0 w1 (l.cellv (i := 3) rfl));have k : ∀ (x : Bool) (w : World), (Op.unary .not (.bool x)).run Tryz.prog w = .ok (.bool (!x)) w := fun _ _ => rfl
 clear hr hF;go_enter_defers Tryz.func179, Tryz.ntmps179
 go_wp2_with fail
 refine c.out.mono ?_;rintro e w' ⟨rfl, rfl⟩;clear c;go_wp2_with fail
 refine d.out.mono ?_;rintro e w' ⟨rfl, rfl⟩;clear d;go_wp2_with fail
 refine j.out.mono ?_;rintro e h ⟨rfl, v, g, n⟩;clear j;go_wp2_with fail
 refine leaves_cons (f := 241) (args := #[.pointer (some ⟨bk, 3, none⟩), .bool true]) (by simp) (by simp [go_sem]) ?_;refine (Aaa ⟨bk, 3, none⟩ (.int .u32 0) .returning _ (g.cellv (i := 3) rfl) (g.free 3)).mono ?_;rintro e o q ⟨rfl, rfl, rfl⟩;have m : Row (h.drew.setCell ⟨bk, 3, none⟩ (.int .u32 1)) bk 102 (ZW p 1 1 v) := Row.set (w := h.drew) (cs := ZW p 0 1 v) g 3 (.int .u32 1);refine leaves_cons (f := 240) (args := #[.pointer (some ⟨bk, 4, none⟩)]) (by simp [settle]) (by simp [go_sem]) ?_;refine (Vz ⟨bk, 4, none⟩ _ _ (m.cellv (i := 4) rfl) (m.free 4)).mono ?_;rintro e o r ⟨rfl, rfl, rfl⟩;simp only [Leaves, settle];refine ⟨_, results_none rfl _ _ _, rfl, v, h, g, n, rfl⟩
theorem Aeh (bk : Nat) (p : PgV) (v0 : Value) (R : Value → World → Prop) (w : World) (hr : Row w bk 102 (ZW p 0 0 v0))
 (hF : Calls Tryz.prog 108 #[.pointer (some ⟨bk, 0, none⟩)] (w.setCell ⟨bk, 4, none⟩ (.int .i32 1)) fun e w1 => e = .returned (.tuple #[]) ∧ ∃ v, Row w1 bk 102 (ZW p 0 1 v) ∧ R v w1) :
 Calls Tryz.prog 107 #[.pointer (some ⟨bk, 3, none⟩), .func (.func 108) #[.pointer (some ⟨bk, 0, none⟩)] #[]] w fun e w' =>
  e = .returned (.tuple #[]) ∧ ∃ v w1, Row w1 bk 102 (ZW p 0 1 v) ∧ R v w1 ∧ w' = (w1.drew.setCell ⟨bk, 3, none⟩ (.int .u32 1)).setCell ⟨bk, 4, none⟩ (.int .i32 0) := by
 have c := Lh (AaD ⟨bk, 3, none⟩ 0 w (hr.cellv (i := 3) rfl));have d := Lh (Aei bk p v0 R w hr hF);have g : ∀ (x : Bool) (w : World), (Op.unary .not (.bool x)).run Tryz.prog w = .ok (.bool (!x)) w := fun _ _ => rfl
 clear hr hF;go_enter Tryz.func107, Tryz.ntmps107
 go_wp2_with fail
 refine c.out.mono ?_;rintro e w' ⟨rfl, rfl⟩;clear c;go_wp2_with fail
 refine d.out.mono ?_;rintro e j ⟨rfl, h⟩;clear d;go_wp2_with fail
 go_end0
 exact ⟨rfl, h⟩
end Go.Proofs.YtdcmppdhdcjpfaaGreat
