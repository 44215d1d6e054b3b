/- Lemmas for RunnerJustP. -/
import Derived.Test.YtkoikjnlpifbjaaGreatZb1
import Derived.Test.YtkoikjnlpifbjaaGreatZb16
import Derived.Test.YtkoikjnlpifbjaaGreatZb11
import Derived.Test.YtkoikjnlpifbjaaGreatZb13
set_option linter.unusedVariables false
set_option linter.unusedSimpArgs false
set_option maxRecDepth 100000
set_option maxHeartbeats 16000000
namespace Go.Proofs.YtkoikjnlpifbjaaGreat
open Go.RowKit Go.Deep
attribute [local go_sem] Oper.semAt_some
theorem UV {F : Fence} {n : Nat} {P : Program} {ops : Array Oper} {rest : List Oper} {o : Oper} {a : Act} {w w1 : World} {Q : Exit → Act → World → Prop} (hgd : o.guard = none) (hd : ∀ c, o.op ≠ .defer c) (ha : o.about P w a.eval = none) (v : Value) (hv : (execOp a.eval o).run P w = .ok (.value v) w1) (h : wpListIn F n P ops Q rest (a.put o.dst v) w1) : wpListIn F n P ops Q (o :: rest) a w :=
 wpListIn_plain hgd fun K hK => by
  unfold Oper.wpIn
  refine ⟨fun f hf => (by rw [ha] at hf; cases hf), ?_⟩
  rw [Oper.semAt_plain _ _ _ hd, hv]
  exact hK _ _ h
theorem Acx {F : Fence} {n : Nat} {P : Program} {ops : Array Oper} {rest : List Oper} {o : Oper} {a : Act} {w : World} {Q : Exit → Act → World → Prop} (s x : Operand) (t u : TypeId) (_ : o.op = .call { callee := .builtin .append, args := #[s, x], argTypes := #[t, u] }) (h : Stop (wpListIn F n P ops Q (o :: rest) a w) id) : wpListIn F n P ops Q (o :: rest) a w := h.out
theorem KZ {F : Fence} {n : Nat} {P : Program} {ops : Array Oper} {rest : List Oper} {o : Oper} {a : Act} {w : World} {Q : Exit → Act → World → Prop} (ty : TypeId) (p x : Operand) (_ : o.op = .store ty p x) (h : Stop (wpListIn F n P ops Q (o :: rest) a w) id) : wpListIn F n P ops Q (o :: rest) a w := h.out
def Ob (bk : Nat) (W : World) (k : Nat) : Prop := ∃ a n c, W.cell? ⟨bk, 6, none⟩ = some (.slice (some a) n c) ∧ a.block = k
structure KpB (bk : Nat) (L : Nat → Prop) (A B : World) : Prop where
 block : ∀ k o, k ≠ bk → ¬ L k → ¬ Ob bk A k → A.heap[k]? = some o → B.heap[k]? = some o
 size : A.heap.size ≤ B.heap.size
 own : ∀ k, Ob bk B k → Ob bk A k ∨ A.heap.size ≤ k
 lt : (∀ k, Ob bk A k → k < A.heap.size) → ∀ k, Ob bk B k → k < B.heap.size
 cell : ∀ j, j ≠ 6 → B.cell? ⟨bk, j, none⟩ = A.cell? ⟨bk, j, none⟩
theorem KpB.trans {bk : Nat} {L : Nat → Prop} {A B C : World} (h : KpB bk L A B) (k : KpB bk L B C) : KpB bk L A C :=
 ⟨fun i o h1 h2 h3 h4 => k.block i o h1 h2 (fun ho => (h.own i ho).elim h3 fun hs => by have := (Lt.1 h4).1; omega) (h.block i o h1 h2 h3 h4), Li h.size k.size,
  fun i ho => (k.own i ho).elim (fun h1 => h.own i h1) fun hs => .inr (Li h.size hs), fun hl => k.lt (h.lt hl), fun j hj => (k.cell j hj).trans (h.cell j hj)⟩
theorem KpB.refl (bk : Nat) (L : Nat → Prop) (A : World) : KpB bk L A A := ⟨fun _ _ _ _ _ h => h, Nat.le_refl _, fun _ h => .inl h, fun h => h, fun _ _ => rfl⟩
theorem YQ {bk : Nat} {A B : World} (h : B.cell? ⟨bk, 6, none⟩ = A.cell? ⟨bk, 6, none⟩) {k : Nat} (ho : Ob bk B k) : Ob bk A k := by
 obtain ⟨a, n, c, e, b⟩ := ho;exact ⟨a, n, c, by rw [← h]; exact e, b⟩
theorem KpB.of_below {bk : Nat} {L : Nat → Prop} {A B : World} (hb : bk < A.heap.size) (h : Below A.heap.size A B) : KpB bk L A B := by
 have c : ∀ j, B.cell? ⟨bk, j, none⟩ = A.cell? ⟨bk, j, none⟩ := fun j => World.cell?_of_block (h.block bk hb);exact ⟨fun k o _ _ _ b => by rw [h.block k (Lt.1 b).1]; exact b, h.size, fun k b => .inl (YQ (c 6) b), fun d k b => Lg (d k (YQ (c 6) b)) h.size, fun j _ => c j⟩
structure Safe (bk : Nat) (L : Nat → Prop) (W : World) (k : Nat) : Prop where
 nb : k ≠ bk
 nl : ¬ L k
 no : ¬ Ob bk W k
 lt : k < W.heap.size
theorem KpB.safe {bk : Nat} {L : Nat → Prop} {A B : World} (h : KpB bk L A B) {k : Nat} (s : Safe bk L A k) : Safe bk L B k :=
 ⟨s.nb, s.nl, fun ho => (h.own k ho).elim s.no fun hs => by have := s.lt; omega, Lg s.lt h.size⟩
theorem KpB.row {bk : Nat} {L : Nat → Prop} {A B : World} (h : KpB bk L A B) {g : Nat} {t : TypeId} {cs : Array Value} (hr : Row A g t cs) (s : Safe bk L A g) : Row B g t cs := h.block g _ s.nb s.nl s.no hr
theorem KpB.rd {bk : Nat} {L : Nat → Prop} {A B : World} (h : KpB bk L A B) {ad : Option Addr} {xs : List Value} (hr : Rd A ad xs) (hx : xs ≠ [] → ∀ a, ad = some a → Safe bk L A a.block) : Rd B ad xs := fun j u hj => by
 obtain ⟨a, e, i⟩ := hr j u hj;have d : xs ≠ [] := fun e => by rw [e] at hj; simp at hj
 have c := World.block_lt_of_cell? _ _ i;have b : (a.add j).block = a.block := JI a j;rw [b] at c;have s := hx d a e;have g : A.heap[a.block]? = some A.heap[a.block] := NP c;have k := h.block _ _ s.nb s.nl s.no g;exact ⟨a, e, (World.cell?_of_block (by rw [b]; exact k.trans g.symm)).trans i⟩
structure EachC (p : PgV) (bk bb : Nat) (L : Nat → Prop) (W : World) : Prop where
 rb : Row W bb 96 #[.pointer (some ⟨bk, 0, none⟩)]
 sb : Safe bk L W bb
 cb : W.cell? ⟨bk, 2, none⟩ = some (.slice p.ba p.body.length p.bcap)
 hr : Rd W p.ba (p.body.flatMap Nd.cells)
 sA : p.body.flatMap Nd.cells ≠ [] → ∀ ad, p.ba = some ad → Safe bk L W ad.block
 ltk : ∀ k, Ob bk W k → k < W.heap.size
 hL : ∀ k, L k → k < W.heap.size
 hbk : bk < W.heap.size
theorem EachC.kx {p : PgV} {bk bb : Nat} {L : Nat → Prop} {W W' : World} (h : EachC p bk bb L W) (k : KpB bk L W W') : EachC p bk bb L W' :=
 ⟨k.row h.rb h.sb, k.safe h.sb, (k.cell 2 (by omega)).trans h.cb, k.rd h.hr h.sA, fun hne ad e => k.safe (h.sA hne ad e), k.lt h.ltk, fun i hi => Lg (h.hL i hi) k.size, Lg h.hbk k.size⟩
theorem EachC.fresh {p : PgV} {bk bb : Nat} {L : Nat → Prop} {W W' : World} (h : EachC p bk bb L W) (b : Below W.heap.size W W') {k : Nat} (h1 : W.heap.size ≤ k) (h2 : k < W'.heap.size) : Safe bk L W' k :=
 ⟨by have := h.hbk; omega, fun hl => by have := h.hL k hl; omega, fun ho => by
  have := h.ltk k (YQ (World.cell?_of_block (b.block bk h.hbk)) ho); omega, h2⟩
theorem EachC.add {p : PgV} {bk bb : Nat} {w W : World} {lb : Nat} (h : EachC p bk bb (fun _ => False) w) (b : Below w.heap.size w W) (h1 : w.heap.size ≤ lb) (h2 : lb < W.heap.size) : EachC p bk bb (fun i => i = lb) W := by
 have k := h.kx (KpB.of_below h.hbk b);have g : ∀ i, i < w.heap.size → Safe bk (fun _ => False) W i → Safe bk (fun i => i = lb) W i := fun i hi s => ⟨s.nb, by omega, s.no, s.lt⟩;exact ⟨k.rb, g _ h.sb.lt k.sb, k.cb, k.hr, fun c d e => g _ (h.sA c d e).lt (k.sA c d e), k.ltk, fun i hi => by omega, k.hbk⟩
structure DlT (W : World) (x : DlV) : Prop where
 ok : DlOk W x
 ib : IntB W x.A
 nil : x.A = none → x.d.path = []
def DlP (full : List Dl) (pre : List DlV) (x : DlV) (W : World) : Prop := DlT W x ∧ ∃ rest, pre.map DlV.d ++ x.d :: rest = full
def mkD (π : List Int) (c : Int × Int) : Dl := ⟨π, c.1, c.2⟩
def UP (l : List Nd) (t : Tr) (q : Nat) : List Dl := ((Q4 [] 0 t).take q).flatMap fun e => (Z7 l e.1).map (mkD e.2)
theorem Ad1 (l : List Nd) (t : Tr) {q : Nat} (h : t.size ≤ q) : UP l t q = Q8 l t := by
 unfold UP Q8;rw [LA (by rw [Jf]; exact h)];rfl
theorem Vi {l : List Nd} {t : Tr} {q : Nat} {π : List Int} (h : (Q4 [] 0 t)[q]? = some (q, π)) : UP l t (q + 1) = UP l t q ++ (Z7 l q).map (mkD π) := by
 unfold UP;rw [LG, h];simp
theorem Aiy {l : List Nd} {t : Tr} {q : Nat} {π : List Int} (h : (Q4 [] 0 t)[q]? = some (q, π)) : ∃ rest, UP l t q ++ (Z7 l q).map (mkD π) ++ rest = Q8 l t := by
 rw [← Vi h];refine ⟨((Q4 [] 0 t).drop (q + 1)).flatMap fun e => (Z7 l e.1).map (mkD e.2), ?_⟩;unfold UP Q8;rw [← LD, LK];rfl
theorem X0 (l : List Nd) (q : Nat) {t : Tr} (hat : At l q t) (ha : ¬ Qu t.root < 0) : (Z7 l q).length ≤ 100 := by
 rw [← Ef hat ha]; exact Ahb _ _
theorem AfN {l : List Nd} {t : Tr} {q : Nat} (hw : Whole l t) (hq : q < l.length) : ∃ π k, (Q4 [] 0 t)[q]? = some (q, π) ∧ At l q k := by
 obtain ⟨e, d⟩ : ∃ e, (Q4 [] 0 t)[q]? = some e := ⟨_, La (by rw [Jf, hw.size]; exact hq)⟩;have c := U9 t [] 0 q e d;rw [LN] at c;obtain ⟨k, h⟩ := (JO t [] 0 e.1 e.2).1 (by simpa using Lj d);have g := Un hw.hat h;obtain ⟨a, b⟩ := e;simp only at c g;subst c;exact ⟨b, k, d, g⟩
mutual
theorem UB : ∀ (t : Tr) (own : List Int) (q : Nat) (e : Nat × List Int), e ∈ Q4 own q t → e.2.length + 1 ≤ own.length + t.size
 | .node x ks, own, q, e, h => by
  have hs : (Tr.node x ks).size = (QL ks).length + 1 := by rw [Tr.size, Tr.flat, Le]
  rw [Q4] at h
  rcases L2.1 h with h | h
  · rw [h, hs]; show own.length + 1 ≤ _; omega
  · have := UA ks own (q + 1) 0 e h; omega
theorem UA : ∀ (ts : List Tr) (own : List Int) (q : Nat) (i : Int) (e : Nat × List Int), e ∈ Zz own q i ts → e.2.length + 1 ≤ own.length + 1 + (QL ts).length
 | [], own, q, i, e, h => by simp [Zz] at h
 | t :: ts, own, q, i, e, h => by
  have hl : (QL (t :: ts)).length = t.size + (QL ts).length := by rw [QL, Lf]; rfl
  rw [Zz] at h
  rcases L5.1 h with h | h
  · have := UB t _ _ e h; simp at this; omega
  · have := UA ts own _ _ e h; omega
end
theorem AkG {W : World} {A : Option Addr} {l : List (Int × Int)} (hr : Rd W A (l.flatMap chC)) {k : Nat} {x : Int × Int} (hx : l[k]? = some x) : ∃ ad, A = some ad ∧ ∀ (j : Nat) (u : Value), (chC x)[j]? = some u → W.cell? ((ad.add (k * 3)).add j) = some u :=
 YW (c := chC) (sz := 3) (fun _ => rfl) (by decide) hr hx
theorem Aez (p : PgV) (t : Tr) (hf : Fine p t) (hlc : p.body.length ≤ p.bcap) (hcm : p.bcap ≤ maxLen) (bk bb : Nat) (w : World) (hC : EachC p bk bb (fun _ => False) w) :
 VX Tryz.prog 151 #[.pointer (some ⟨bb, 0, none⟩)] (fun x : DlV => #[.agg x.cells]) (fun _ => False) (fun lb => KpB bk (fun i => i = lb)) (DlP (Q8 p.body t)) (fun xs => xs.map DlV.d = Q8 p.body t) (fun _ => True) (Q8 p.body t).length True w := by
 intro lb J Jx W a5 ab _ hJ co hY h0;have bh : Below w.heap.size w W := ⟨ab.os, ab.tape, ab.output, ab.size, fun k hk => ab.block k hk (by simp)⟩;have af := hC.add bh a5.1 a5.2;clear hC a5 bh ab w;have a2 : ∀ b x W1, J b W1 → DlP (Q8 p.body t) b x W1 → b.length < (Q8 p.body t).length → YieldAt Fence.wide 0 Tryz.prog lb #[.agg x.cells] W1 fun e W' => (e = .returned (.bool true) ∧ J (b ++ [x]) W' ∧ KpB bk (fun i => i = lb) W1 W') ∨ (e = .returned (.bool false) ∧ Jx (b ++ [x]) W' ∧ KpB bk (fun i => i = lb) W1 W') := hY;clear hY;generalize (fun i => i = lb) = L at af a2;obtain ⟨N, hN⟩ : ∃ N, N = p.body.length := ⟨_, rfl⟩;have cp : (N : Int) ≤ 200 := by have := hf.len; omega
 have HN := Lv hN;have HC := Lv af;have HJ := Lv hJ;have HY := Lv a2;have Hf := Lv hf;have b8 := Lv hlc;have bz := Lv hcm;have c0 := af.rb.cellv (i := 0) (v := .pointer (some ⟨bk, 0, none⟩)) rfl;have c1 := af.cb;rw [← hN] at c1;clear hN af hJ a2 hf hlc hcm;refine callsIn_of_wp Tryz.func151 rfl trivial ?_ rfl;simp only [Tryz.ntmps151, Lm, Le, Lu, Nat.reduceAdd, Nat.reduceSub, Lk, Ll, Ly, LH, Lp, Ln];gi_wp2_with fail
 gi_loopw [14] (fun i wr => ∃ (q : Nat) (b : List DlV), i = .int .i64 (q : Int) ∧ q ≤ N ∧ Hid (b.map DlV.d = UP p.body t q) ∧ Hid (EachC p bk bb L wr) ∧ J b wr) (fun i _ => N - (intOf i).toNat)
 case atStart => exact ⟨0, [], by simp, Nat.zero_le _, Lv (by simp [UP]), HC, h0⟩
 case round =>
  clear h0 c0 c1 HC;obtain ⟨q, b, rfl, cu, j, HC, hj⟩ := hrel;by_cases cl : q < N;rotate_left
  · obtain rfl : q = N := by omega
    gi_wp2_with fail
    go_end0
    refine ⟨⟨_, rfl⟩, .inl ⟨_, ?_, hj⟩⟩;rw [j.out];exact Ad1 _ _ (by have := Hf.out.good.size; have := HN.out; omega)
  obtain ⟨π, tq, a6, n⟩ := AfN Hf.out.good.whole (q := q) (by have := HN.out; omega);have z : ¬ Qu tq.root < 0 := Hf.out.ar _ (Lj n.root);have a0 := Lv (fun W h => Ae1 p.ba p.bcap p.body t q π W Hf.out.good.hat Hf.out.good.size a6 h (by have := Hf.out.len; omega));have aj := Lv (fun W h => AcM p.ba p.bcap p.body q tq W n h (by have := Hf.out.len; omega) b8.out bz.out (Aiv z).1 (Aiv z).2 (AhI n z));rw [Ef n z, ← HN.out] at aj;rw [← HN.out] at a0;have a1 := Lv a6;have bl := X0 p.body q n z;obtain ⟨y, a4⟩ : ∃ y, y = Z7 p.body q := ⟨_, rfl⟩;rw [← a4] at aj bl;have bd := Lv a4;have ct : (q : Int) < (N : Int) := by omega
  have c0 := HC.out.rb.cellv (i := 0) (v := .pointer (some ⟨bk, 0, none⟩)) rfl;have c1 := HC.out.cb;rw [← HN.out] at c1;clear a6 n z a4 cl;gi_wp2_with fail
  refine ⟨trivial, rfl, (callsIn_wide.2 (a0.out wr HC.out.hr)).mono ?_⟩;rintro e w1 ⟨PA, pc, rfl, a7, br, b1, bq⟩;have s := Lv (HC.out.kx (KpB.of_below HC.out.hbk b1));replace hj := QH HJ.out hj b1;have bu : Qj π ≠ [] → ∀ o, PA = some o → Safe bk L w1 o.block := fun ag o e => HC.out.fresh b1 (bq o e) (Xe a7 ag e)
  have c0 := s.out.rb.cellv (i := 0) (v := .pointer (some ⟨bk, 0, none⟩)) rfl;have c1 := s.out.cb;rw [← HN.out] at c1;clear b1 bq a0 HC;gi_wp2_with fail
  refine ⟨trivial, rfl, (callsIn_wide.2 (aj.out w1 s.out.hr)).mono ?_⟩;rintro e w2 ⟨cv, rfl, g, b2⟩;obtain ⟨CA, cc, rfl⟩ := Zj g;have a3 : Rd w2 CA (y.flatMap chC) := Kv g;have bi : ∀ o, CA = some o → w1.heap.size ≤ o.block := fun o e => Q3 g (by rw [e]; rfl)
  have bt : y.flatMap chC ≠ [] → ∀ o, CA = some o → Safe bk L w2 o.block := fun ag o e => s.out.fresh b2 (bi o e) (Xe a3 ag e)
  have ax : Qj π ≠ [] → ∀ o, PA = some o → Safe bk L w2 o.block := fun ag o e => (KpB.of_below s.out.hbk b2).safe (bu ag o e)
  have az := Lv (s.out.kx (KpB.of_below s.out.hbk b2));have b0 := Lv a3;have cf := Lv bt;have cg := Lv ax;have ce := Lv (a7.go b2);have cd := Lv br;have cq : (y.length : Int) ≤ 100 := by omega
  replace hj := QH HJ.out hj b2;clear g a3 bi bt ax bu a7 br b2 s c0 c1 aj;gi_wp2_with fail
  gi_loopw [35] (fun i wr => ∃ (k : Nat) (b : List DlV), i = .int .i64 (k : Int) ∧ k ≤ y.length ∧ Hid (b.map DlV.d = UP p.body t q ++ (y.take k).map (mkD π)) ∧ Hid (KpB bk L w2 wr) ∧ J b wr) (fun i _ => y.length - (intOf i).toNat)
  case atStart => exact ⟨0, b, by simp, Nat.zero_le _, Lv (by rw [j.out]; simp), Lv (KpB.refl _ _ _), hj⟩
  case round =>
   clear hj;obtain ⟨k, b, rfl, hk, j, ae, hj⟩ := hrel;by_cases ak : k < y.length;rotate_left
   · obtain rfl : k = y.length := by omega
     have b9 : Hid (b.map DlV.d = UP p.body t (q + 1)) := by
      show _ = _;rw [j.out, LW, Vi a1.out, bd.out]
     have bx := Lv (az.out.kx ae.out);clear j az;gi_wp2_with fail
     go_roundw
     case rel => exact ⟨q + 1, b, by go_num, by omega, b9, bx, hj⟩
     case measure => simp [intOf]; omega
   obtain ⟨c, hc⟩ : ∃ c, y[k]? = some c := ⟨_, La ak⟩;have bs := ae.out.rd b0.out cf.out;obtain ⟨ca, ci, bj⟩ := AkG bs hc;subst ci;have bc := Lv bj;have Hc := Lv hc;have cr : (k : Int) < (y.length : Int) := by omega
   clear bs bj hc ak;gi_wp2_with (first | (refine KZ _ _ _ rfl ?_) | (refine Ja rfl 50 _ rfl (ca.add (k * 3)) rfl [.slice none 0 0, .int .i64 c.1, .int .i64 c.2] _ bc.out Tryz.underlying50 rfl (by kernel_rfl) ?_))
   refine Stop.to ?_;obtain ⟨D, hD⟩ : ∃ D, D = wr.heap.size := ⟨_, rfl⟩;obtain ⟨w3, al⟩ : ∃ w3, w3 = wr.alloc (.cells #[.slice none 0 0, .int .i64 0, .int .i64 0] 50) := ⟨_, rfl⟩;have a9 : Row w3 D 50 #[.slice none 0 0, .int .i64 0, .int .i64 0] := by rw [al, hD]; exact Row.new _ _ _
   have b3 : Below wr.heap.size wr w3 := by rw [al]; exact (Below.refl _ _).alloc (Nat.le_refl _) _
   rw [← al, ← hD];have bg : wr.heap.size ≤ D := LM hD.symm;clear al hD;refine Q5 rfl 50 _ _ rfl D #[.slice none 0 0, .int .i64 c.1, .int .i64 c.2] rfl rfl 50 _ a9 (by kernel_rfl) rfl (by simp [Value.oneCell']) ?_;have ai := a9.setRow #[.slice none 0 0, .int .i64 c.1, .int .i64 c.2];have b4 : Below wr.heap.size wr (w3.setRow D #[.slice none 0 0, .int .i64 c.1, .int .i64 c.2]) := Ql b3 (Zv _ _ _) bg;generalize w3.setRow D #[.slice none 0 0, .int .i64 c.1, .int .i64 c.2] = w4 at ai b4 ⊢;clear a9 b3 bc;have au : Rd w4 PA (Qj π) := (ae.out.rd ce.out cg.out).go b4;have hπ : π.length ≤ 1000 := by have h9 : π.length + 1 ≤ 0 + t.size := UB t [] 0 _ (Lj a1.out); have := Hf.out.good.size; have := Hf.out.len; omega
   obtain ⟨v5, w5, aw, g, aa, -⟩ := Zp (P := Tryz.prog) 22 3 (.int .i64 0) 1 8 Tryz.underlying22 Jk rfl (by decide) (by decide) (World.ownsRow_nil w4 w4.heap.size 3 1) (Nat.le_refl _) au (m := π.length) (cap := pc) (by rw [Ju, Nat.mul_one]) (Jl π) (fun e => by rw [cd.out e]; rfl) (by omega);have b5 : Below w4.heap.size w4 w5 := ⟨aa.os, aa.tape, aa.output, aa.size, fun k hk => aa.block k hk (by simp [Value.ownBlock])⟩;rw [LN, Lp] at g;obtain ⟨u, ac, rfl, av, bp, aq, ah⟩ := X9 g;have ao : IntB w5 u := Uy g rfl;have am := ai.below b5 ai.lt;have l4 := ai.lt;have bf := b4.trans (b5.mono b4.size);have an := Lv aw;clear g aa aw au b5 ai;obtain ⟨x, hx⟩ : ∃ x : DlV, x = ⟨u, ac, mkD π c⟩ := ⟨_, rfl⟩;have bv : Row (w5.setCell ⟨D, 0, none⟩ (.slice u π.length ac)) D 50 x.cells := by rw [hx]; exact am.set 0 _
   have o6 := Q6 w5 D 0 (.slice u π.length ac);have c5 : w5.cell? ⟨D, 0, none⟩ = some (.slice none 0 0) := am.cellv (i := 0) rfl;have f5 := am.free 0;have b6 : Below wr.heap.size wr (w5.setCell ⟨D, 0, none⟩ (.slice u π.length ac)) := Ql bf o6 bg;have bo : Qj π ≠ [] → ∀ a, u = some a → a.block ≠ D := fun _ a e => by have := ah a e; omega
   have hT : DlT (w5.setCell ⟨D, 0, none⟩ (.slice u π.length ac)) x := by
    rw [hx];refine ⟨⟨av.only o6 bo, by show π.length ≤ 1000000; omega⟩, fun a e => ?_, fun e => ?_⟩
    · obtain ⟨ch, cm⟩ := ao a e;exact ⟨ch, cm.only o6 (by have := ah a e; omega)⟩
    · show π = [];have h0 := aq e;exact L0 (by omega)
   have hP : DlP (Q8 p.body t) b x (w5.setCell ⟨D, 0, none⟩ (.slice u π.length ac)) := by
    refine ⟨hT, ?_⟩;obtain ⟨ay, a8⟩ := Aiy (l := p.body) a1.out;refine ⟨(y.drop (k + 1)).map (mkD π) ++ ay, ?_⟩;obtain ⟨ak, cj⟩ := Ld.1 Hc.out;rw [← a8, ← bd.out, j.out, hx]
    conv => rhs; rw [← LK k y, LO ak, cj]
    simp
   have ap : b.length < (Q8 p.body t).length := by
    obtain ⟨_, ay, hr⟩ := hP;rw [← hr]; simp
   have bm := QH HJ.out hj b6;obtain ⟨fn, cn, bw, body, hy, hR⟩ := HY.out _ x _ bm hP ap;have HR := Lv hR;have be := Lv (ae.out.trans (KpB.of_below (by have := az.out.hbk; have := ae.out.size; omega) b6))
   have Hn : Hid ((b ++ [x]).map DlV.d = UP p.body t q ++ (y.take (k + 1)).map (mkD π)) := by
    show _ = _;rw [LG, Hc.out, LT, j.out, hx];simp
   clear hT hP ap bm hj hR b6 b4 bf o6 bo av bp aq ah ao am hx j Hc;gi_wp2_with (refine Acx _ _ _ _ rfl ?_);refine Stop.to ?_;refine UV rfl (fun c h => by cases h) rfl _ (QA rfl an.out) ?_;gi_wp2_with (refine Q7 rfl 50 _ rfl D rfl 50 x.cells (0, 0) _ bv Tryz.underlying50 rfl (by kernel_rfl) ?_);refine ⟨rfl, HR.out.mono ?_⟩;clear hy HR bv c5 f5 an;rintro e W' (⟨rfl, hj, bn⟩ | ⟨rfl, ck, -⟩);rotate_left
   · gi_wp2_with fail
     refine bodyPost_ret (results_none rfl _ _ _) rfl ?_;exact ⟨⟨_, rfl⟩, .inr ⟨_, trivial, ck⟩⟩
   have b7 := Lv (be.out.trans bn);clear be bn;gi_wp2_with fail
   go_roundw
   case rel => exact ⟨k + 1, _, by go_num, by omega, Hn, b7, hj⟩
   case measure => simp [intOf]; omega
end Go.Proofs.YtkoikjnlpifbjaaGreat
