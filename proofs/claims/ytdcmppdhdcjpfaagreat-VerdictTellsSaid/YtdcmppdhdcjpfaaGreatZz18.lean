/- Lemmas for VerdictTellsP. -/
import Derived.Test.YtdcmppdhdcjpfaaGreatZz1
import Derived.Test.YtdcmppdhdcjpfaaGreatZz17
import Derived.Test.YtdcmppdhdcjpfaaGreatZz12
import Derived.Test.YtdcmppdhdcjpfaaGreatZz14
import Derived.Test.YtdcmppdhdcjpfaaGreatZz9
import Derived.Test.YtdcmppdhdcjpfaaGreatZz5
import Derived.Defers
import Derived.Laws.Pointers
import Derived.Laws.LoneSync
import Derived.RegionTactic
import Derived.RegionCalls
set_option linter.unusedVariables false
set_option linter.unusedSimpArgs false
set_option maxRecDepth 100000
set_option maxHeartbeats 16000000
namespace Go.Proofs.YtdcmppdhdcjpfaaGreat
open Go.RowKit Go.Deep
attribute [local go_sem] Oper.semAt_some
theorem UF {F : Fence} {n : Nat} {P : Program} {ops : Array Oper} {rest : List Oper} {o : Oper} {a : Act} {w w1 : World} {Q : Exit → Act → World → Prop} (hgd : o.guard = none) (hd : ∀ c, o.op ≠ .defer c) (ha : o.about P w a.eval = none) (v : Value) (hv : (execOp a.eval o).run P w = .ok (.value v) w1) (h : wpListIn F n P ops Q rest (a.put o.dst v) w1) : wpListIn F n P ops Q (o :: rest) a w :=
 wpListIn_plain hgd fun K hK => by
  unfold Oper.wpIn
  refine ⟨fun f hf => (by rw [ha] at hf; cases hf), ?_⟩
  rw [Oper.semAt_plain _ _ _ hd, hv]
  exact hK _ _ h
theorem Acn {F : Fence} {n : Nat} {P : Program} {ops : Array Oper} {rest : List Oper} {o : Oper} {a : Act} {w : World} {Q : Exit → Act → World → Prop} (s x : Operand) (t u : TypeId) (_ : o.op = .call { callee := .builtin .append, args := #[s, x], argTypes := #[t, u] }) (h : Stop (wpListIn F n P ops Q (o :: rest) a w) id) : wpListIn F n P ops Q (o :: rest) a w := h.out
theorem K0 {F : Fence} {n : Nat} {P : Program} {ops : Array Oper} {rest : List Oper} {o : Oper} {a : Act} {w : World} {Q : Exit → Act → World → Prop} (ty : TypeId) (p x : Operand) (_ : o.op = .store ty p x) (h : Stop (wpListIn F n P ops Q (o :: rest) a w) id) : wpListIn F n P ops Q (o :: rest) a w := h.out
def Ob (bk : Nat) (W : World) (k : Nat) : Prop := ∃ a n c, W.cell? ⟨bk, 6, none⟩ = some (.slice (some a) n c) ∧ a.block = k
structure KpB (bk : Nat) (L : Nat → Prop) (A B : World) : Prop where
 block : ∀ k o, k ≠ bk → ¬ L k → ¬ Ob bk A k → A.heap[k]? = some o → B.heap[k]? = some o
 size : A.heap.size ≤ B.heap.size
 own : ∀ k, Ob bk B k → Ob bk A k ∨ A.heap.size ≤ k
 lt : (∀ k, Ob bk A k → k < A.heap.size) → ∀ k, Ob bk B k → k < B.heap.size
 cell : ∀ j, j ≠ 6 → B.cell? ⟨bk, j, none⟩ = A.cell? ⟨bk, j, none⟩
theorem KpB.trans {bk : Nat} {L : Nat → Prop} {A B C : World} (h : KpB bk L A B) (k : KpB bk L B C) : KpB bk L A C :=
 ⟨fun i o h1 h2 h3 h4 => k.block i o h1 h2 (fun ho => (h.own i ho).elim h3 fun hs => by have := (Lj.1 h4).1; omega) (h.block i o h1 h2 h3 h4), Li h.size k.size,
  fun i ho => (k.own i ho).elim (fun h1 => h.own i h1) fun hs => .inr (Li h.size hs), fun hl => k.lt (h.lt hl), fun j hj => (k.cell j hj).trans (h.cell j hj)⟩
theorem KpB.refl (bk : Nat) (L : Nat → Prop) (A : World) : KpB bk L A A := ⟨fun _ _ _ _ _ h => h, Nat.le_refl _, fun _ h => .inl h, fun h => h, fun _ _ => rfl⟩
theorem YB {bk : Nat} {A B : World} (h : B.cell? ⟨bk, 6, none⟩ = A.cell? ⟨bk, 6, none⟩) {k : Nat} (ho : Ob bk B k) : Ob bk A k := by
 obtain ⟨a, n, c, e, b⟩ := ho;exact ⟨a, n, c, by rw [← h]; exact e, b⟩
theorem KpB.of_below {bk : Nat} {L : Nat → Prop} {A B : World} (hb : bk < A.heap.size) (h : Below A.heap.size A B) : KpB bk L A B := by
 have c : ∀ j, B.cell? ⟨bk, j, none⟩ = A.cell? ⟨bk, j, none⟩ := fun j => World.cell?_of_block (h.block bk hb);exact ⟨fun k o _ _ _ b => by rw [h.block k (Lj.1 b).1]; exact b, h.size, fun k b => .inl (YB (c 6) b), fun d k b => Ld (d k (YB (c 6) b)) h.size, fun j _ => c j⟩
structure Safe (bk : Nat) (L : Nat → Prop) (W : World) (k : Nat) : Prop where
 nb : k ≠ bk
 nl : ¬ L k
 no : ¬ Ob bk W k
 lt : k < W.heap.size
theorem KpB.safe {bk : Nat} {L : Nat → Prop} {A B : World} (h : KpB bk L A B) {k : Nat} (s : Safe bk L A k) : Safe bk L B k :=
 ⟨s.nb, s.nl, fun ho => (h.own k ho).elim s.no fun hs => by have := s.lt; omega, Ld s.lt h.size⟩
theorem KpB.row {bk : Nat} {L : Nat → Prop} {A B : World} (h : KpB bk L A B) {g : Nat} {t : TypeId} {cs : Array Value} (hr : Row A g t cs) (s : Safe bk L A g) : Row B g t cs := h.block g _ s.nb s.nl s.no hr
theorem KpB.rd {bk : Nat} {L : Nat → Prop} {A B : World} (h : KpB bk L A B) {ad : Option Addr} {xs : List Value} (hr : Rd A ad xs) (hx : xs ≠ [] → ∀ a, ad = some a → Safe bk L A a.block) : Rd B ad xs := fun j u hj => by
 obtain ⟨a, e, i⟩ := hr j u hj;have d : xs ≠ [] := fun e => by rw [e] at hj; simp at hj
 have c := World.block_lt_of_cell? _ _ i;have b : (a.add j).block = a.block := JO a j;rw [b] at c;have s := hx d a e;have g : A.heap[a.block]? = some A.heap[a.block] := NG c;have k := h.block _ _ s.nb s.nl s.no g;exact ⟨a, e, (World.cell?_of_block (by rw [b]; exact k.trans g.symm)).trans i⟩
structure EachC (p : PgV) (bk bb : Nat) (L : Nat → Prop) (W : World) : Prop where
 rb : Row W bb 88 #[.pointer (some ⟨bk, 0, none⟩)]
 sb : Safe bk L W bb
 cb : W.cell? ⟨bk, 2, none⟩ = some (.slice p.ba p.body.length p.bcap)
 hr : Rd W p.ba (p.body.flatMap Nd.cells)
 sA : p.body.flatMap Nd.cells ≠ [] → ∀ ad, p.ba = some ad → Safe bk L W ad.block
 ltk : ∀ k, Ob bk W k → k < W.heap.size
 hL : ∀ k, L k → k < W.heap.size
 hbk : bk < W.heap.size
theorem EachC.kx {p : PgV} {bk bb : Nat} {L : Nat → Prop} {W W' : World} (h : EachC p bk bb L W) (k : KpB bk L W W') : EachC p bk bb L W' :=
 ⟨k.row h.rb h.sb, k.safe h.sb, (k.cell 2 (by omega)).trans h.cb, k.rd h.hr h.sA, fun hne ad e => k.safe (h.sA hne ad e), k.lt h.ltk, fun i hi => Ld (h.hL i hi) k.size, Ld h.hbk k.size⟩
theorem EachC.fresh {p : PgV} {bk bb : Nat} {L : Nat → Prop} {W W' : World} (h : EachC p bk bb L W) (b : Below W.heap.size W W') {k : Nat} (h1 : W.heap.size ≤ k) (h2 : k < W'.heap.size) : Safe bk L W' k :=
 ⟨by have := h.hbk; omega, fun hl => by have := h.hL k hl; omega, fun ho => by
  have := h.ltk k (YB (World.cell?_of_block (b.block bk h.hbk)) ho); omega, h2⟩
theorem EachC.add {p : PgV} {bk bb : Nat} {w W : World} {lb : Nat} (h : EachC p bk bb (fun _ => False) w) (b : Below w.heap.size w W) (h1 : w.heap.size ≤ lb) (h2 : lb < W.heap.size) : EachC p bk bb (fun i => i = lb) W := by
 have k := h.kx (KpB.of_below h.hbk b);have g : ∀ i, i < w.heap.size → Safe bk (fun _ => False) W i → Safe bk (fun i => i = lb) W i := fun i hi s => ⟨s.nb, by omega, s.no, s.lt⟩;exact ⟨k.rb, g _ h.sb.lt k.sb, k.cb, k.hr, fun c d e => g _ (h.sA c d e).lt (k.sA c d e), k.ltk, fun i hi => by omega, k.hbk⟩
structure DlT (W : World) (x : DlV) : Prop where
 ok : DlOk W x
 ib : IntB W x.A
 nil : x.A = none → x.d.path = []
def DlP (full : List Dl) (pre : List DlV) (x : DlV) (W : World) : Prop := DlT W x ∧ ∃ rest, pre.map DlV.d ++ x.d :: rest = full
def mkD (π : List Int) (c : Int × Int) : Dl := ⟨π, c.1, c.2⟩
def Uy (l : List Nd) (t : Tr) (q : Nat) : List Dl := ((Q0 [] 0 t).take q).flatMap fun e => (ZO l e.1).map (mkD e.2)
theorem AdD (l : List Nd) (t : Tr) {q : Nat} (h : t.size ≤ q) : Uy l t q = Jo l t := by
 unfold Uy Jo;rw [L1 (by rw [Ju]; exact h)];rfl
theorem U7 {l : List Nd} {t : Tr} {q : Nat} {π : List Int} (h : (Q0 [] 0 t)[q]? = some (q, π)) : Uy l t (q + 1) = Uy l t q ++ (ZO l q).map (mkD π) := by
 unfold Uy;rw [L6, h];simp
theorem AhC {l : List Nd} {t : Tr} {q : Nat} {π : List Int} (h : (Q0 [] 0 t)[q]? = some (q, π)) : ∃ rest, Uy l t q ++ (ZO l q).map (mkD π) ++ rest = Jo l t := by
 rw [← U7 h];refine ⟨((Q0 [] 0 t).drop (q + 1)).flatMap fun e => (ZO l e.1).map (mkD e.2), ?_⟩;unfold Uy Jo;rw [← L2, LD];rfl
theorem Y7 (l : List Nd) (q : Nat) {t : Tr} (hat : At l q t) (ha : ¬ Qq t.root < 0) : (ZO l q).length ≤ 100 := by
 rw [← VZ hat ha]; exact AgC _ _
theorem Afn {l : List Nd} {t : Tr} {q : Nat} (hw : Whole l t) (hq : q < l.length) : ∃ π k, (Q0 [] 0 t)[q]? = some (q, π) ∧ At l q k := by
 obtain ⟨e, d⟩ : ∃ e, (Q0 [] 0 t)[q]? = some e := ⟨_, La (by rw [Ju, hw.size]; exact hq)⟩;have c := UV t [] 0 q e d;rw [LI] at c;obtain ⟨k, h⟩ := (KB t [] 0 e.1 e.2).1 (by simpa using Lf d);have g := Em hw.hat h;obtain ⟨a, b⟩ := e;simp only at c g;subst c;exact ⟨b, k, d, g⟩
mutual
theorem Uk : ∀ (t : Tr) (own : List Int) (q : Nat) (e : Nat × List Int), e ∈ Q0 own q t → e.2.length + 1 ≤ own.length + t.size
 | .node x ks, own, q, e, h => by
  have hs : (Tr.node x ks).size = (QI ks).length + 1 := by rw [Tr.size, Tr.flat, Lc]
  rw [Q0] at h
  rcases Lv.1 h with h | h
  · rw [h, hs]; show own.length + 1 ≤ _; omega
  · have := Uj ks own (q + 1) 0 e h; omega
theorem Uj : ∀ (ts : List Tr) (own : List Int) (q : Nat) (i : Int) (e : Nat × List Int), e ∈ Zs own q i ts → e.2.length + 1 ≤ own.length + 1 + (QI ts).length
 | [], own, q, i, e, h => by simp [Zs] at h
 | t :: ts, own, q, i, e, h => by
  have hl : (QI (t :: ts)).length = t.size + (QI ts).length := by rw [QI, Le]; rfl
  rw [Zs] at h
  rcases Lz.1 h with h | h
  · have := Uk t _ _ e h; simp at this; omega
  · have := Uj ts own _ _ e h; omega
end
theorem Ajt {W : World} {A : Option Addr} {l : List (Int × Int)} (hr : Rd W A (l.flatMap chC)) {k : Nat} {x : Int × Int} (hx : l[k]? = some x) : ∃ ad, A = some ad ∧ ∀ (j : Nat) (u : Value), (chC x)[j]? = some u → W.cell? ((ad.add (k * 3)).add j) = some u :=
 Vb (c := chC) (sz := 3) (fun _ => rfl) (by decide) hr hx
theorem Aeh (p : PgV) (t : Tr) (hf : Fine p t) (hlc : p.body.length ≤ p.bcap) (hcm : p.bcap ≤ maxLen) (bk bb : Nat) (w : World) (hC : EachC p bk bb (fun _ => False) w) :
 VK Tryz.prog 242 #[.pointer (some ⟨bb, 0, none⟩)] (fun x : DlV => #[.agg x.cells]) (fun _ => False) (fun lb => KpB bk (fun i => i = lb)) (DlP (Jo p.body t)) (fun xs => xs.map DlV.d = Jo p.body t) (fun _ => True) (Jo p.body t).length True w := by
 intro lb J Jx W a4 aa _ hJ cn hY h0;have bg : Below w.heap.size w W := ⟨aa.os, aa.tape, aa.output, aa.size, fun k hk => aa.block k hk (by simp)⟩;have ae := hC.add bg a4.1 a4.2;clear hC a4 bg aa w;have a1 : ∀ b x W1, J b W1 → DlP (Jo p.body t) b x W1 → b.length < (Jo p.body t).length → YieldAt Fence.wide 0 Tryz.prog lb #[.agg x.cells] W1 fun e W' => (e = .returned (.bool true) ∧ J (b ++ [x]) W' ∧ KpB bk (fun i => i = lb) W1 W') ∨ (e = .returned (.bool false) ∧ Jx (b ++ [x]) W' ∧ KpB bk (fun i => i = lb) W1 W') := hY;clear hY;generalize (fun i => i = lb) = L at ae a1;obtain ⟨N, hN⟩ : ∃ N, N = p.body.length := ⟨_, rfl⟩;have co : (N : Int) ≤ 200 := by have := hf.len; omega
 have HN := Lh hN;have HC := Lh ae;have HJ := Lh hJ;have HY := Lh a1;have Hf := Lh hf;have b7 := Lh hlc;have bx := Lh hcm;have c0 := ae.rb.cellv (i := 0) (v := .pointer (some ⟨bk, 0, none⟩)) rfl;have c1 := ae.cb;rw [← hN] at c1;clear hN ae hJ a1 hf hlc hcm;refine callsIn_of_wp Tryz.func242 rfl trivial ?_ rfl;simp only [Tryz.ntmps242, Lk, Lc, Lr, Nat.reduceAdd, Nat.reduceSub, Ll, Lm, Lu, L7, Lp, Ln];gi_wp2_with fail
 gi_loopw [14] (fun i wr => ∃ (q : Nat) (b : List DlV), i = .int .i64 (q : Int) ∧ q ≤ N ∧ Hid (b.map DlV.d = Uy p.body t q) ∧ Hid (EachC p bk bb L wr) ∧ J b wr) (fun i _ => N - (intOf i).toNat)
 case atStart => exact ⟨0, [], by simp, Nat.zero_le _, Lh (by simp [Uy]), HC, h0⟩
 case round =>
  clear h0 c0 c1 HC;obtain ⟨q, b, rfl, ct, j, HC, hj⟩ := hrel;by_cases ck : q < N;rotate_left
  · obtain rfl : q = N := by omega
    gi_wp2_with fail
    go_end0
    refine ⟨⟨_, rfl⟩, .inl ⟨_, ?_, hj⟩⟩;rw [j.out];exact AdD _ _ (by have := Hf.out.good.size; have := HN.out; omega)
  obtain ⟨π, tq, a5, n⟩ := Afn Hf.out.good.whole (q := q) (by have := HN.out; omega);have y : ¬ Qq tq.root < 0 := Hf.out.ar _ (Lf n.root);have az := Lh (fun W h => AeD p.ba p.bcap p.body t q π W Hf.out.good.hat Hf.out.good.size a5 h (by have := Hf.out.len; omega));have ai := Lh (fun W h => Acs p.ba p.bcap p.body q tq W n h (by have := Hf.out.len; omega) b7.out bx.out (Ahz y).1 (Ahz y).2 (AgZ n y));rw [VZ n y, ← HN.out] at ai;rw [← HN.out] at az;have a0 := Lh a5;have bj := Y7 p.body q n y;obtain ⟨u, a3⟩ : ∃ u, u = ZO p.body q := ⟨_, rfl⟩;rw [← a3] at ai bj;have bc := Lh a3;have cr : (q : Int) < (N : Int) := by omega
  have c0 := HC.out.rb.cellv (i := 0) (v := .pointer (some ⟨bk, 0, none⟩)) rfl;have c1 := HC.out.cb;rw [← HN.out] at c1;clear a5 n y a3 ck;gi_wp2_with fail
  refine ⟨trivial, rfl, (callsIn_wide.2 (az.out wr HC.out.hr)).mono ?_⟩;rintro e w1 ⟨PA, pc, rfl, a6, bq, b1, bp⟩;have r := Lh (HC.out.kx (KpB.of_below HC.out.hbk b1));replace hj := QF HJ.out hj b1;have bt : Qi π ≠ [] → ∀ o, PA = some o → Safe bk L w1 o.block := fun af o e => HC.out.fresh b1 (bp o e) (XO a6 af e)
  have c0 := r.out.rb.cellv (i := 0) (v := .pointer (some ⟨bk, 0, none⟩)) rfl;have c1 := r.out.cb;rw [← HN.out] at c1;clear b1 bp az HC;gi_wp2_with fail
  refine ⟨trivial, rfl, (callsIn_wide.2 (ai.out w1 r.out.hr)).mono ?_⟩;rintro e w2 ⟨cv, rfl, g, b2⟩;obtain ⟨CA, cc, rfl⟩ := Zl g;have a2 : Rd w2 CA (u.flatMap chC) := Xq g;have bh : ∀ o, CA = some o → w1.heap.size ≤ o.block := fun o e => QH g (by rw [e]; rfl)
  have bs : u.flatMap chC ≠ [] → ∀ o, CA = some o → Safe bk L w2 o.block := fun af o e => r.out.fresh b2 (bh o e) (XO a2 af e)
  have aw : Qi π ≠ [] → ∀ o, PA = some o → Safe bk L w2 o.block := fun af o e => (KpB.of_below r.out.hbk b2).safe (bt af o e)
  have ay := Lh (r.out.kx (KpB.of_below r.out.hbk b2));have bz := Lh a2;have ce := Lh bs;have cf := Lh aw;have cd := Lh (a6.go b2);have b9 := Lh bq;have cp : (u.length : Int) ≤ 100 := by omega
  replace hj := QF HJ.out hj b2;clear g a2 bh bs aw bt a6 bq b2 r c0 c1 ai;gi_wp2_with fail
  gi_loopw [35] (fun i wr => ∃ (k : Nat) (b : List DlV), i = .int .i64 (k : Int) ∧ k ≤ u.length ∧ Hid (b.map DlV.d = Uy p.body t q ++ (u.take k).map (mkD π)) ∧ Hid (KpB bk L w2 wr) ∧ J b wr) (fun i _ => u.length - (intOf i).toNat)
  case atStart => exact ⟨0, b, by simp, Nat.zero_le _, Lh (by rw [j.out]; simp), Lh (KpB.refl _ _ _), hj⟩
  case round =>
   clear hj;obtain ⟨k, b, rfl, hk, j, ac, hj⟩ := hrel;by_cases aj : k < u.length;rotate_left
   · obtain rfl : k = u.length := by omega
     have b8 : Hid (b.map DlV.d = Uy p.body t (q + 1)) := by
      show _ = _;rw [j.out, LO, U7 a0.out, bc.out]
     have bw := Lh (ay.out.kx ac.out);clear j ay;gi_wp2_with fail
     go_roundw
     case rel => exact ⟨q + 1, b, by go_num, by omega, b8, bw, hj⟩
     case measure => simp [intOf]; omega
   obtain ⟨c, hc⟩ : ∃ c, u[k]? = some c := ⟨_, La aj⟩;have br := ac.out.rd bz.out ce.out;obtain ⟨ca, ch, bi⟩ := Ajt br hc;subst ch;have a9 := Lh bi;have Hc := Lh hc;have cq : (k : Int) < (u.length : Int) := by omega
   clear br bi hc aj;gi_wp2_with (first | (refine K0 _ _ _ rfl ?_) | (refine Jd rfl 35 _ rfl (ca.add (k * 3)) rfl [.slice none 0 0, .int .i64 c.1, .int .i64 c.2] _ a9.out Tryz.underlying35 rfl (by kernel_rfl) ?_))
   refine Stop.to ?_;obtain ⟨D, hD⟩ : ∃ D, D = wr.heap.size := ⟨_, rfl⟩;obtain ⟨w3, ak⟩ : ∃ w3, w3 = wr.alloc (.cells #[.slice none 0 0, .int .i64 0, .int .i64 0] 35) := ⟨_, rfl⟩;have a8 : Row w3 D 35 #[.slice none 0 0, .int .i64 0, .int .i64 0] := by rw [ak, hD]; exact Row.new _ _ _
   have b3 : Below wr.heap.size wr w3 := by rw [ak]; exact (Below.refl _ _).alloc (Nat.le_refl _) _
   rw [← ak, ← hD];have bf : wr.heap.size ≤ D := LG hD.symm;clear ak hD;refine Q3 rfl 35 _ _ rfl D #[.slice none 0 0, .int .i64 c.1, .int .i64 c.2] rfl rfl 35 _ a8 (by kernel_rfl) rfl (by simp [Value.oneCell']) ?_;have ah := a8.setRow #[.slice none 0 0, .int .i64 c.1, .int .i64 c.2];have b4 : Below wr.heap.size wr (w3.setRow D #[.slice none 0 0, .int .i64 c.1, .int .i64 c.2]) := Qp b3 (Zu _ _ _) bf;generalize w3.setRow D #[.slice none 0 0, .int .i64 c.1, .int .i64 c.2] = w4 at ah b4 ⊢;clear a8 b3 a9;have aq : Rd w4 PA (Qi π) := (ac.out.rd cd.out cf.out).go b4;have hπ : π.length ≤ 1000 := by have h9 : π.length + 1 ≤ 0 + t.size := Uk t [] 0 _ (Lf a0.out); have := Hf.out.good.size; have := Hf.out.len; omega
   obtain ⟨v5, w5, av, g, z, -⟩ := ZW (P := Tryz.prog) 22 3 (.int .i64 0) 1 8 Tryz.underlying22 Z7 rfl (by decide) (by decide) (World.ownsRow_nil w4 w4.heap.size 3 1) (Nat.le_refl _) aq (m := π.length) (cap := pc) (by rw [Kz, Nat.mul_one]) (Jt π) (fun e => by rw [b9.out e]; rfl) (by omega);have b5 : Below w4.heap.size w4 w5 := ⟨z.os, z.tape, z.output, z.size, fun k hk => z.block k hk (by simp [Value.ownBlock])⟩;rw [LI, Lp] at g;obtain ⟨s, ab, rfl, au, bo, ap, ag⟩ := Xp g;have an : IntB w5 s := EL g rfl;have al := ah.below b5 ah.lt;have l4 := ah.lt;have be := b4.trans (b5.mono b4.size);have am := Lh av;clear g z av aq b5 ah;obtain ⟨x, hx⟩ : ∃ x : DlV, x = ⟨s, ab, mkD π c⟩ := ⟨_, rfl⟩;have bu : Row (w5.setCell ⟨D, 0, none⟩ (.slice s π.length ab)) D 35 x.cells := by rw [hx]; exact al.set 0 _
   have o6 := Zk w5 D 0 (.slice s π.length ab);have c5 : w5.cell? ⟨D, 0, none⟩ = some (.slice none 0 0) := al.cellv (i := 0) rfl;have f5 := al.free 0;have b6 : Below wr.heap.size wr (w5.setCell ⟨D, 0, none⟩ (.slice s π.length ab)) := Qp be o6 bf;have bn : Qi π ≠ [] → ∀ a, s = some a → a.block ≠ D := fun _ a e => by have := ag a e; omega
   have hT : DlT (w5.setCell ⟨D, 0, none⟩ (.slice s π.length ab)) x := by
    rw [hx];refine ⟨⟨au.only o6 bn, by show π.length ≤ 1000000; omega⟩, fun a e => ?_, fun e => ?_⟩
    · obtain ⟨cg, cl⟩ := an a e;exact ⟨cg, cl.only o6 (by have := ag a e; omega)⟩
    · show π = [];have h0 := ap e;exact Lt (by omega)
   have hP : DlP (Jo p.body t) b x (w5.setCell ⟨D, 0, none⟩ (.slice s π.length ab)) := by
    refine ⟨hT, ?_⟩;obtain ⟨ax, a7⟩ := AhC (l := p.body) a0.out;refine ⟨(u.drop (k + 1)).map (mkD π) ++ ax, ?_⟩;obtain ⟨aj, ci⟩ := Lb.1 Hc.out;rw [← a7, ← bc.out, j.out, hx]
    conv => rhs; rw [← LD k u, LH aj, ci]
    simp
   have ao : b.length < (Jo p.body t).length := by
    obtain ⟨_, ax, hr⟩ := hP;rw [← hr]; simp
   have bl := QF HJ.out hj b6;obtain ⟨fn, cm, bv, body, hy, hR⟩ := HY.out _ x _ bl hP ao;have HR := Lh hR;have bd := Lh (ac.out.trans (KpB.of_below (by have := ay.out.hbk; have := ac.out.size; omega) b6))
   have Hn : Hid ((b ++ [x]).map DlV.d = Uy p.body t q ++ (u.take (k + 1)).map (mkD π)) := by
    show _ = _;rw [L6, Hc.out, Na, j.out, hx];simp
   clear hT hP ao bl hj hR b6 b4 be o6 bn au bo ap ag an al hx j Hc;gi_wp2_with (refine Acn _ _ _ _ rfl ?_);refine Stop.to ?_;refine UF rfl (fun c h => by cases h) rfl _ (QV rfl am.out) ?_;gi_wp2_with (refine Zb rfl 35 _ rfl D rfl 35 x.cells (0, 0) _ bu Tryz.underlying35 rfl (by kernel_rfl) ?_);refine ⟨rfl, HR.out.mono ?_⟩;clear hy HR bu c5 f5 am;rintro e W' (⟨rfl, hj, bm⟩ | ⟨rfl, cj, -⟩);rotate_left
   · gi_wp2_with fail
     refine bodyPost_ret (results_none rfl _ _ _) rfl ?_;exact ⟨⟨_, rfl⟩, .inr ⟨_, trivial, cj⟩⟩
   have b0 := Lh (bd.out.trans bm);clear bd bm;gi_wp2_with fail
   go_roundw
   case rel => exact ⟨k + 1, _, by go_num, by omega, Hn, b0, hj⟩
   case measure => simp [intOf]; omega
end Go.Proofs.YtdcmppdhdcjpfaaGreat
namespace Go.Proofs.YtdcmppdhdcjpfaaGreat
open Go.RowKit Go.Deep
theorem Um (w : World) : (callFunc 276 #[]).run Tryz.prog w = .ok (.value (.tuple #[])) w := run_call_mark0 Tryz.func276 (by kernel_rfl) (by kernel_rfl) (by kernel_rfl) .disable (by kernel_rfl) w
theorem Vl (w : World) : (callFunc 278 #[]).run Tryz.prog w = .ok (.value (.tuple #[])) w := run_call_mark0 Tryz.func278 (by kernel_rfl) (by kernel_rfl) (by kernel_rfl) .enable (by kernel_rfl) w
theorem AbN (a : Addr) (w : World) : (callFunc 279 #[.pointer (some a)]).run Tryz.prog w = .ok (.value (.tuple #[])) w := run_call_marked Tryz.func279 (by kernel_rfl) (by kernel_rfl) (by kernel_rfl) .acquire (by kernel_rfl) a w
theorem Un (a : Addr) (w : World) : (callFunc 281 #[.pointer (some a)]).run Tryz.prog w = .ok (.value (.tuple #[])) w := run_call_marked Tryz.func281 (by kernel_rfl) (by kernel_rfl) (by kernel_rfl) .releaseMerge (by kernel_rfl) a w
theorem Aaj (a : Addr) (x : Value) (u : FrameMode) (w : World) (hc : w.cell? a = some x) (hz : w.frozen? a = false) :
 CallsD Tryz.prog 241 #[.pointer (some a), .bool true] u w fun e u' w' => u' = u ∧ (e = .returned (.tuple #[]) ∧ w' = w.drew.setCell a (.int .u32 1)) := by
 have b : w.drew.cell? a = some x := by go_simp
 have c : w.drew.frozen? a = false := by go_simp
 have d := run_call_store (P := Tryz.prog) Tryz.func264 (by kernel_rfl) (by kernel_rfl) (by kernel_rfl) (by kernel_rfl) (k := .u32) (y := 1) b c;go_enter_d Tryz.func241, Tryz.ntmps241
 go_wp2
 go_region_calls
 all_goals (go_end0; exact ⟨rfl, rfl⟩)
theorem Ab6 (a : Addr) (w : World) (hc : w.cell? a = some (.int .i32 1)) (hz : w.frozen? a = false) :
 Calls Tryz.prog 263 #[.pointer (some a)] w fun e w' => e = .returned (.tuple #[]) ∧ w' = w.setCell a (.int .i32 0) := by
 have d := Um;have g := Vl;have h := Un;have b := run_call_add (P := Tryz.prog) Tryz.func282 (by kernel_rfl) (by kernel_rfl) (by kernel_rfl) .i32 (by kernel_rfl) (y := -1) (s := 0) hc hz (by simp [go_sem]; rfl);have c := run_convert_to_unsafe (P := Tryz.prog) (src := 322) (dst := 326) Tryz.underlying322 Tryz.underlying326 (by kernel_rfl) hc;go_enter Tryz.func263, Tryz.ntmps263
 go_wp2
 first | go_end0 | go_ret
 exact ⟨rfl, rfl⟩
theorem Aes (a : Addr) (w : World) (hc : w.cell? a = some (.int .i32 0)) (hz : w.frozen? a = false) :
 Calls Tryz.prog 262 #[.pointer (some a)] w fun e w' => e = .returned (.tuple #[]) ∧ w' = w.setCell a (.int .i32 1) := by
 have h := Um;have i := Vl;have g := AbN;have c := run_call_cas_hit (P := Tryz.prog) Tryz.func277 (by kernel_rfl) (by kernel_rfl) (by kernel_rfl) .i32 (by kernel_rfl) (y := 1) hc hz;have b : (w.setCell a (.int .i32 1)).cell? a = some (.int .i32 1) := World.cell?_setCell_same w a _ hc;have d := run_convert_to_unsafe (P := Tryz.prog) (src := 322) (dst := 326) Tryz.underlying322 Tryz.underlying326 (by kernel_rfl) b;go_enter Tryz.func262, Tryz.ntmps262
 go_wp2
 first | go_end0 | (simp only [Exit.inBlock, Exit.then]; refine bodyPost_ret (results_none rfl _ _ _) rfl ?_) | refine bodyPost_ret (results_none rfl _ _ _) rfl ?_
 exact ⟨rfl, rfl⟩
theorem AfY (a : Addr) (w : World) (hc : w.cell? a = some (.int .i32 0)) (hz : w.frozen? a = false) :
 Calls Tryz.prog 239 #[.pointer (some a)] w fun e w' => e = .returned (.tuple #[]) ∧ w' = w.setCell a (.int .i32 1) := by
 have b := Lh (Aes a w hc hz);clear hc hz;go_enter Tryz.func239, Tryz.ntmps239
 go_wp2_with fail
 refine b.out.mono ?_;rintro e c ⟨rfl, rfl⟩;go_wp2
 first | go_end0 | go_ret
 exact ⟨rfl, rfl⟩
theorem Vt (a : Addr) (u : FrameMode) (w : World) (hc : w.cell? a = some (.int .i32 1)) (hz : w.frozen? a = false) :
 CallsD Tryz.prog 240 #[.pointer (some a)] u w fun e u' w' => u' = u ∧ (e = .returned (.tuple #[]) ∧ w' = w.setCell a (.int .i32 0)) := by
 have b := Lh (Ab6 a w hc hz);clear hc hz;go_enter_d Tryz.func240, Tryz.ntmps240
 go_wp2_with fail
 refine b.out.mono ?_;rintro e c ⟨rfl, rfl⟩;go_wp2
 first | go_end0 | go_ret
 exact ⟨rfl, rfl⟩
def Z1 (p : PgV) (dn st : Int) (v : Value) : Array Value := #[.int .i64 p.params, .slice p.va p.V.length p.vcap, .slice p.ba p.body.length p.bcap, .int .u32 dn, .int .i32 st, .int .u32 0, v]
theorem AaK (a : Addr) (x : Int) (w : World) (hc : w.cell? a = some (.int .u32 x)) :
 Calls Tryz.prog 178 #[.pointer (some a)] w fun e w' => e = .returned (.bool (x != 0)) ∧ w' = w := by
 have b := run_call_load (P := Tryz.prog) Tryz.func238 (by kernel_rfl) (by kernel_rfl) (by kernel_rfl) .u32 (by kernel_rfl) hc;go_enter Tryz.func178, Tryz.ntmps178
 go_wp2
 go_ret
 exact ⟨rfl, rfl⟩
theorem Aeg (bk : Nat) (p : PgV) (v0 : Value) (R : Value → World → Prop) (w : World) (hr : Row w bk 102 (Z1 p 0 0 v0))
 (hF : Calls Tryz.prog 108 #[.pointer (some ⟨bk, 0, none⟩)] (w.setCell ⟨bk, 4, none⟩ (.int .i32 1)) fun e w1 => e = .returned (.tuple #[]) ∧ ∃ v, Row w1 bk 102 (Z1 p 0 1 v) ∧ R v w1) :
 Calls Tryz.prog 179 #[.pointer (some ⟨bk, 3, none⟩), .func (.func 108) #[.pointer (some ⟨bk, 0, none⟩)] #[]] w fun e w' =>
  e = .returned (.tuple #[]) ∧ ∃ v w1, Row w1 bk 102 (Z1 p 0 1 v) ∧ R v w1 ∧ w' = (w1.drew.setCell ⟨bk, 3, none⟩ (.int .u32 1)).setCell ⟨bk, 4, none⟩ (.int .i32 0) := by
 have b := Lh (AfY ⟨bk, 4, none⟩ w (hr.cellv (i := 4) rfl) (hr.free 4));have k : Row (w.setCell ⟨bk, 4, none⟩ (.int .i32 1)) bk 102 (Z1 p 0 1 v0) := hr.set 4 _;generalize w.setCell ⟨bk, 4, none⟩ (.int .i32 1) = w1 at b k hF;have h := Lh hF;have c := Lh (AaK ⟨bk, 3, none⟩ 0 w1 (k.cellv (i := 3) rfl));have j : ∀ (x : Bool) (w : World), (Op.unary .not (.bool x)).run Tryz.prog w = .ok (.bool (!x)) w := fun _ _ => rfl
 clear hr hF;go_enter_defers Tryz.func179, Tryz.ntmps179
 go_wp2_with fail
 refine b.out.mono ?_;rintro e w' ⟨rfl, rfl⟩;clear b;go_wp2_with fail
 refine c.out.mono ?_;rintro e w' ⟨rfl, rfl⟩;clear c;go_wp2_with fail
 refine h.out.mono ?_;rintro e g ⟨rfl, v, d, m⟩;clear h;go_wp2_with fail
 refine leaves_cons (f := 241) (args := #[.pointer (some ⟨bk, 3, none⟩), .bool true]) (by simp) (by simp [go_sem]) ?_;refine (Aaj ⟨bk, 3, none⟩ (.int .u32 0) .returning _ (d.cellv (i := 3) rfl) (d.free 3)).mono ?_;rintro e n o ⟨rfl, rfl, rfl⟩;have l : Row (g.drew.setCell ⟨bk, 3, none⟩ (.int .u32 1)) bk 102 (Z1 p 1 1 v) := Row.set (w := g.drew) (cs := Z1 p 0 1 v) d 3 (.int .u32 1);refine leaves_cons (f := 240) (args := #[.pointer (some ⟨bk, 4, none⟩)]) (by simp [settle]) (by simp [go_sem]) ?_;refine (Vt ⟨bk, 4, none⟩ _ _ (l.cellv (i := 4) rfl) (l.free 4)).mono ?_;rintro e n q ⟨rfl, rfl, rfl⟩;simp only [Leaves, settle];refine ⟨_, results_none rfl _ _ _, rfl, v, g, d, m, rfl⟩
theorem Aef (bk : Nat) (p : PgV) (v0 : Value) (R : Value → World → Prop) (w : World) (hr : Row w bk 102 (Z1 p 0 0 v0))
 (hF : Calls Tryz.prog 108 #[.pointer (some ⟨bk, 0, none⟩)] (w.setCell ⟨bk, 4, none⟩ (.int .i32 1)) fun e w1 => e = .returned (.tuple #[]) ∧ ∃ v, Row w1 bk 102 (Z1 p 0 1 v) ∧ R v w1) :
 Calls Tryz.prog 107 #[.pointer (some ⟨bk, 3, none⟩), .func (.func 108) #[.pointer (some ⟨bk, 0, none⟩)] #[]] w fun e w' =>
  e = .returned (.tuple #[]) ∧ ∃ v w1, Row w1 bk 102 (Z1 p 0 1 v) ∧ R v w1 ∧ w' = (w1.drew.setCell ⟨bk, 3, none⟩ (.int .u32 1)).setCell ⟨bk, 4, none⟩ (.int .i32 0) := by
 have b := Lh (AaK ⟨bk, 3, none⟩ 0 w (hr.cellv (i := 3) rfl));have c := Lh (Aeg bk p v0 R w hr hF);have d : ∀ (x : Bool) (w : World), (Op.unary .not (.bool x)).run Tryz.prog w = .ok (.bool (!x)) w := fun _ _ => rfl
 clear hr hF;go_enter Tryz.func107, Tryz.ntmps107
 go_wp2_with fail
 refine b.out.mono ?_;rintro e w' ⟨rfl, rfl⟩;clear b;go_wp2_with fail
 refine c.out.mono ?_;rintro e g ⟨rfl, h⟩;clear c;go_wp2_with fail
 go_end0
 exact ⟨rfl, h⟩
end Go.Proofs.YtdcmppdhdcjpfaaGreat
