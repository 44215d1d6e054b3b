/- Lemmas for VerdictMoreP. -/
import Derived.Test.YtdcmppdhdcjpfaaGreatZr1
import Derived.Test.YtdcmppdhdcjpfaaGreatZr15
import Derived.Test.YtdcmppdhdcjpfaaGreatZr10
import Derived.Test.YtdcmppdhdcjpfaaGreatZr12
import Derived.Test.YtdcmppdhdcjpfaaGreatZr7
import Derived.Test.YtdcmppdhdcjpfaaGreatZr4
import Derived.Defers
import Derived.Laws.Pointers
import Derived.Laws.LoneSync
import Derived.RegionTactic
import Derived.RegionCalls
set_option linter.unusedVariables false
set_option linter.unusedSimpArgs false
set_option maxRecDepth 100000
set_option maxHeartbeats 16000000
namespace Go.Proofs.YtdcmppdhdcjpfaaGreat
open Go.RowKit Go.Deep
attribute [local go_sem] Oper.semAt_some
theorem Y6 {F : Fence} {n : Nat} {P : Program} {ops : Array Oper} {rest : List Oper} {o : Oper} {a : Act} {w w1 : World} {Q : Exit → Act → World → Prop} (hgd : o.guard = none) (hd : ∀ c, o.op ≠ .defer c) (ha : o.about P w a.eval = none) (v : Value) (hv : (execOp a.eval o).run P w = .ok (.value v) w1) (h : wpListIn F n P ops Q rest (a.put o.dst v) w1) : wpListIn F n P ops Q (o :: rest) a w :=
 wpListIn_plain hgd fun K hK => by
  unfold Oper.wpIn
  refine ⟨fun f hf => (by rw [ha] at hf; cases hf), ?_⟩
  rw [Oper.semAt_plain _ _ _ hd, hv]
  exact hK _ _ h
theorem Abv {F : Fence} {n : Nat} {P : Program} {ops : Array Oper} {rest : List Oper} {o : Oper} {a : Act} {w : World} {Q : Exit → Act → World → Prop} (s x : Operand) (t u : TypeId) (_ : o.op = .call { callee := .builtin .append, args := #[s, x], argTypes := #[t, u] }) (h : Stop (wpListIn F n P ops Q (o :: rest) a w) id) : wpListIn F n P ops Q (o :: rest) a w := h.out
theorem KD {F : Fence} {n : Nat} {P : Program} {ops : Array Oper} {rest : List Oper} {o : Oper} {a : Act} {w : World} {Q : Exit → Act → World → Prop} (ty : TypeId) (p x : Operand) (_ : o.op = .store ty p x) (h : Stop (wpListIn F n P ops Q (o :: rest) a w) id) : wpListIn F n P ops Q (o :: rest) a w := h.out
def Ob (bk : Nat) (W : World) (k : Nat) : Prop := ∃ a n c, W.cell? ⟨bk, 6, none⟩ = some (.slice (some a) n c) ∧ a.block = k
structure KpB (bk : Nat) (L : Nat → Prop) (A B : World) : Prop where
 block : ∀ k o, k ≠ bk → ¬ L k → ¬ Ob bk A k → A.heap[k]? = some o → B.heap[k]? = some o
 size : A.heap.size ≤ B.heap.size
 own : ∀ k, Ob bk B k → Ob bk A k ∨ A.heap.size ≤ k
 lt : (∀ k, Ob bk A k → k < A.heap.size) → ∀ k, Ob bk B k → k < B.heap.size
 cell : ∀ j, j ≠ 6 → B.cell? ⟨bk, j, none⟩ = A.cell? ⟨bk, j, none⟩
theorem KpB.trans {bk : Nat} {L : Nat → Prop} {A B C : World} (h : KpB bk L A B) (k : KpB bk L B C) : KpB bk L A C :=
 ⟨fun i o h1 h2 h3 h4 => k.block i o h1 h2 (fun ho => (h.own i ho).elim h3 fun hs => by have := (Array.getElem?_eq_some_iff.1 h4).1; omega) (h.block i o h1 h2 h3 h4), Nat.le_trans h.size k.size,
  fun i ho => (k.own i ho).elim (fun h1 => h.own i h1) fun hs => .inr (Nat.le_trans h.size hs), fun hl => k.lt (h.lt hl), fun j hj => (k.cell j hj).trans (h.cell j hj)⟩
theorem KpB.refl (bk : Nat) (L : Nat → Prop) (A : World) : KpB bk L A A := ⟨fun _ _ _ _ _ h => h, Nat.le_refl _, fun _ h => .inl h, fun h => h, fun _ _ => rfl⟩
theorem X8 {bk : Nat} {A B : World} (h : B.cell? ⟨bk, 6, none⟩ = A.cell? ⟨bk, 6, none⟩) {k : Nat} (ho : Ob bk B k) : Ob bk A k := by
 obtain ⟨a, n, c, e, hb⟩ := ho
 exact ⟨a, n, c, by rw [← h]; exact e, hb⟩
theorem KpB.of_below {bk : Nat} {L : Nat → Prop} {A B : World} (hb : bk < A.heap.size) (h : Below A.heap.size A B) : KpB bk L A B := by
 have hc : ∀ j, B.cell? ⟨bk, j, none⟩ = A.cell? ⟨bk, j, none⟩ := fun j => World.cell?_of_block (h.block bk hb)
 exact ⟨fun k o _ _ _ ho => by rw [h.block k (Array.getElem?_eq_some_iff.1 ho).1]; exact ho, h.size, fun k ho => .inl (X8 (hc 6) ho), fun hl k ho => Nat.lt_of_lt_of_le (hl k (X8 (hc 6) ho)) h.size, fun j _ => hc j⟩
structure Safe (bk : Nat) (L : Nat → Prop) (W : World) (k : Nat) : Prop where
 nb : k ≠ bk
 nl : ¬ L k
 no : ¬ Ob bk W k
 lt : k < W.heap.size
theorem KpB.safe {bk : Nat} {L : Nat → Prop} {A B : World} (h : KpB bk L A B) {k : Nat} (s : Safe bk L A k) : Safe bk L B k :=
 ⟨s.nb, s.nl, fun ho => (h.own k ho).elim s.no fun hs => by have := s.lt; omega, Nat.lt_of_lt_of_le s.lt h.size⟩
theorem KpB.row {bk : Nat} {L : Nat → Prop} {A B : World} (h : KpB bk L A B) {g : Nat} {t : TypeId} {cs : Array Value} (hr : Row A g t cs) (s : Safe bk L A g) : Row B g t cs := h.block g _ s.nb s.nl s.no hr
theorem KpB.rd {bk : Nat} {L : Nat → Prop} {A B : World} (h : KpB bk L A B) {ad : Option Addr} {xs : List Value} (hr : Rd A ad xs) (hx : xs ≠ [] → ∀ a, ad = some a → Safe bk L A a.block) : Rd B ad xs := fun j u hj => by
 obtain ⟨a, e, hc⟩ := hr j u hj
 have hne : xs ≠ [] := fun e => by rw [e] at hj; simp at hj
 have hlt := World.block_lt_of_cell? _ _ hc
 have hbl : (a.add j).block = a.block := JV a j
 rw [hbl] at hlt
 have s := hx hne a e
 have h1 : A.heap[a.block]? = some A.heap[a.block] := Array.getElem?_eq_getElem hlt
 have h2 := h.block _ _ s.nb s.nl s.no h1
 exact ⟨a, e, (World.cell?_of_block (by rw [hbl]; exact h2.trans h1.symm)).trans hc⟩
structure EachC (p : PgV) (bk bb : Nat) (L : Nat → Prop) (W : World) : Prop where
 rb : Row W bb 88 #[.pointer (some ⟨bk, 0, none⟩)]
 sb : Safe bk L W bb
 cb : W.cell? ⟨bk, 2, none⟩ = some (.slice p.ba p.body.length p.bcap)
 hr : Rd W p.ba (p.body.flatMap Nd.cells)
 sA : p.body.flatMap Nd.cells ≠ [] → ∀ ad, p.ba = some ad → Safe bk L W ad.block
 ltk : ∀ k, Ob bk W k → k < W.heap.size
 hL : ∀ k, L k → k < W.heap.size
 hbk : bk < W.heap.size
theorem EachC.kx {p : PgV} {bk bb : Nat} {L : Nat → Prop} {W W' : World} (h : EachC p bk bb L W) (k : KpB bk L W W') : EachC p bk bb L W' :=
 ⟨k.row h.rb h.sb, k.safe h.sb, (k.cell 2 (by omega)).trans h.cb, k.rd h.hr h.sA, fun hne ad e => k.safe (h.sA hne ad e), k.lt h.ltk, fun i hi => Nat.lt_of_lt_of_le (h.hL i hi) k.size, Nat.lt_of_lt_of_le h.hbk k.size⟩
theorem EachC.fresh {p : PgV} {bk bb : Nat} {L : Nat → Prop} {W W' : World} (h : EachC p bk bb L W) (b : Below W.heap.size W W') {k : Nat} (h1 : W.heap.size ≤ k) (h2 : k < W'.heap.size) : Safe bk L W' k :=
 ⟨by have := h.hbk; omega, fun hl => by have := h.hL k hl; omega, fun ho => by
  have := h.ltk k (X8 (World.cell?_of_block (b.block bk h.hbk)) ho); omega, h2⟩
theorem EachC.add {p : PgV} {bk bb : Nat} {w W : World} {lb : Nat} (h : EachC p bk bb (fun _ => False) w) (b : Below w.heap.size w W) (h1 : w.heap.size ≤ lb) (h2 : lb < W.heap.size) : EachC p bk bb (fun i => i = lb) W := by
 have k := h.kx (KpB.of_below h.hbk b)
 have sf : ∀ i, i < w.heap.size → Safe bk (fun _ => False) W i → Safe bk (fun i => i = lb) W i := fun i hi s => ⟨s.nb, by omega, s.no, s.lt⟩
 exact ⟨k.rb, sf _ h.sb.lt k.sb, k.cb, k.hr, fun hne ad e => sf _ (h.sA hne ad e).lt (k.sA hne ad e), k.ltk, fun i hi => by omega, k.hbk⟩
structure DlT (W : World) (x : DlV) : Prop where
 ok : DlOk W x
 ib : IntB W x.A
 nil : x.A = none → x.d.path = []
def DlP (full : List Dl) (pre : List DlV) (x : DlV) (W : World) : Prop := DlT W x ∧ ∃ rest, pre.map DlV.d ++ x.d :: rest = full
def mkD (π : List Int) (c : Int × Int) : Dl := ⟨π, c.1, c.2⟩
def Y0 (l : List Nd) (t : Tr) (q : Nat) : List Dl := ((QX [] 0 t).take q).flatMap fun e => (ZC l e.1).map (mkD e.2)
theorem AcO (l : List Nd) (t : Tr) {q : Nat} (h : t.size ≤ q) : Y0 l t q = Z5 l t := by
 unfold Y0 Z5
 rw [List.take_of_length_le (by rw [Z8]; exact h)]
 rfl
theorem Ut {l : List Nd} {t : Tr} {q : Nat} {π : List Int} (h : (QX [] 0 t)[q]? = some (q, π)) : Y0 l t (q + 1) = Y0 l t q ++ (ZC l q).map (mkD π) := by
 unfold Y0
 rw [List.take_add_one, h]
 simp
theorem AgN {l : List Nd} {t : Tr} {q : Nat} {π : List Int} (h : (QX [] 0 t)[q]? = some (q, π)) : ∃ rest, Y0 l t q ++ (ZC l q).map (mkD π) ++ rest = Z5 l t := by
 rw [← Ut h]
 refine ⟨((QX [] 0 t).drop (q + 1)).flatMap fun e => (ZC l e.1).map (mkD e.2), ?_⟩
 unfold Y0 Z5
 rw [← List.flatMap_append, List.take_append_drop]
 rfl
theorem Yz (l : List Nd) (q : Nat) {t : Tr} (hat : At l q t) (ha : ¬ Qv t.root < 0) : (ZC l q).length ≤ 100 := by
 rw [← U8 hat ha]; exact AfM _ _
theorem Aex {l : List Nd} {t : Tr} {q : Nat} (hw : Whole l t) (hq : q < l.length) : ∃ π k, (QX [] 0 t)[q]? = some (q, π) ∧ At l q k := by
 obtain ⟨e, he⟩ : ∃ e, (QX [] 0 t)[q]? = some e := ⟨_, List.getElem?_eq_getElem (by rw [Z8, hw.size]; exact hq)⟩
 have h1 := Uj t [] 0 q e he
 rw [Nat.zero_add] at h1
 obtain ⟨k, hk⟩ := (Kl t [] 0 e.1 e.2).1 (by simpa using List.mem_of_getElem? he)
 have h2 := Vm hw.hat hk
 obtain ⟨a, b⟩ := e
 simp only at h1 h2
 subst h1
 exact ⟨b, k, he, h2⟩
mutual
theorem YN : ∀ (t : Tr) (own : List Int) (q : Nat) (e : Nat × List Int), e ∈ QX own q t → e.2.length + 1 ≤ own.length + t.size
 | .node x ks, own, q, e, h => by
  have hs : (Tr.node x ks).size = (QF ks).length + 1 := by rw [Tr.size, Tr.flat, List.length_cons]
  rw [QX] at h
  rcases List.mem_cons.1 h with h | h
  · rw [h, hs]; show own.length + 1 ≤ _; omega
  · have := YM ks own (q + 1) 0 e h; omega
theorem YM : ∀ (ts : List Tr) (own : List Int) (q : Nat) (i : Int) (e : Nat × List Int), e ∈ Zl own q i ts → e.2.length + 1 ≤ own.length + 1 + (QF ts).length
 | [], own, q, i, e, h => by simp [Zl] at h
 | t :: ts, own, q, i, e, h => by
  have hl : (QF (t :: ts)).length = t.size + (QF ts).length := by rw [QF, List.length_append]; rfl
  rw [Zl] at h
  rcases List.mem_append.1 h with h | h
  · have := YN t _ _ e h; simp at this; omega
  · have := YM ts own _ _ e h; omega
end
theorem AiJ {W : World} {A : Option Addr} {l : List (Int × Int)} (hr : Rd W A (l.flatMap chC)) {k : Nat} {x : Int × Int} (hx : l[k]? = some x) : ∃ ad, A = some ad ∧ ∀ (j : Nat) (u : Value), (chC x)[j]? = some u → W.cell? ((ad.add (k * 3)).add j) = some u :=
 Aeg (c := chC) (sz := 3) (fun _ => rfl) (by decide) hr hx
theorem Adn (p : PgV) (t : Tr) (hf : Fine p t) (hlc : p.body.length ≤ p.bcap) (hcm : p.bcap ≤ maxLen) (bk bb : Nat) (w : World) (hC : EachC p bk bb (fun _ => False) w) :
 UZ Tryz.prog 242 #[.pointer (some ⟨bb, 0, none⟩)] (fun x : DlV => #[.agg x.cells]) (fun _ => False) (fun lb => KpB bk (fun i => i = lb)) (DlP (Z5 p.body t)) (fun xs => xs.map DlV.d = Z5 p.body t) (fun _ => True) (Z5 p.body t).length True w := by
 intro lb J Jx W hlb hwW _ hJ hJx hY h0
 have hbw : Below w.heap.size w W := ⟨hwW.os, hwW.tape, hwW.output, hwW.size, fun k hk => hwW.block k hk (by simp)⟩
 have hC1 := hC.add hbw hlb.1 hlb.2
 clear hC hlb hbw hwW w
 have hY' : ∀ pre x W1, J pre W1 → DlP (Z5 p.body t) pre x W1 → pre.length < (Z5 p.body t).length → YieldAt Fence.wide 0 Tryz.prog lb #[.agg x.cells] W1 fun e W' => (e = .returned (.bool true) ∧ J (pre ++ [x]) W' ∧ KpB bk (fun i => i = lb) W1 W') ∨ (e = .returned (.bool false) ∧ Jx (pre ++ [x]) W' ∧ KpB bk (fun i => i = lb) W1 W') := hY
 clear hY
 generalize (fun i => i = lb) = L at hC1 hY'
 obtain ⟨N, hN⟩ : ∃ N, N = p.body.length := ⟨_, rfl⟩
 have hNI : (N : Int) ≤ 200 := by have := hf.len; omega
 have HN := Lh hN
 have HC := Lh hC1
 have HJ := Lh hJ
 have HY := Lh hY'
 have Hf := Lh hf
 have Hlc := Lh hlc
 have Hcm := Lh hcm
 have c0 := hC1.rb.cellv (i := 0) (v := .pointer (some ⟨bk, 0, none⟩)) rfl
 have c1 := hC1.cb
 rw [← hN] at c1
 clear hN hC1 hJ hY' hf hlc hcm
 refine callsIn_of_wp Tryz.func242 rfl trivial ?_ rfl
 simp only [Tryz.ntmps242, List.size_toArray, List.length_cons, List.length_nil, Nat.reduceAdd, Nat.reduceSub, Array.replicate_succ, Array.replicate_zero, List.push_toArray, List.append_toArray, List.nil_append, List.cons_append]
 gi_wp2_with fail
 gi_loopw [14] (fun i wr => ∃ (q : Nat) (pre : List DlV), i = .int .i64 (q : Int) ∧ q ≤ N ∧ Hid (pre.map DlV.d = Y0 p.body t q) ∧ Hid (EachC p bk bb L wr) ∧ J pre wr) (fun i _ => N - (intOf i).toNat)
 case atStart => exact ⟨0, [], by simp, Nat.zero_le _, Lh (by simp [Y0]), HC, h0⟩
 case round =>
  clear h0 c0 c1 HC
  obtain ⟨q, pre, rfl, hqN, Hpre, HC, hj⟩ := hrel
  by_cases hlt : q < N
  rotate_left
  · obtain rfl : q = N := by omega
    gi_wp2_with fail
    go_end0
    refine ⟨⟨_, rfl⟩, .inl ⟨_, ?_, hj⟩⟩
    rw [Hpre.out]
    exact AcO _ _ (by have := Hf.out.good.size; have := HN.out; omega)
  obtain ⟨π, tq, hpq, hatq⟩ := Aex Hf.out.good.whole (q := q) (by have := HN.out; omega)
  have har : ¬ Qv tq.root < 0 := Hf.out.ar _ (List.mem_of_getElem? hatq.root)
  have Hpo := Lh (fun W h => AdN p.ba p.bcap p.body t q π W Hf.out.good.hat Hf.out.good.size hpq h (by have := Hf.out.len; omega))
  have Hch := Lh (fun W h => AbI p.ba p.bcap p.body q tq W hatq h (by have := Hf.out.len; omega) Hlc.out Hcm.out (AgK har).1 (AgK har).2 (Af8 hatq har))
  rw [U8 hatq har, ← HN.out] at Hch
  rw [← HN.out] at Hpo
  have Hpq := Lh hpq
  have hcsl := Yz p.body q hatq har
  obtain ⟨cs, hcs⟩ : ∃ cs, cs = ZC p.body q := ⟨_, rfl⟩
  rw [← hcs] at Hch hcsl
  have Hcs := Lh hcs
  have hqI : (q : Int) < (N : Int) := by omega
  have c0 := HC.out.rb.cellv (i := 0) (v := .pointer (some ⟨bk, 0, none⟩)) rfl
  have c1 := HC.out.cb
  rw [← HN.out] at c1
  clear hpq hatq har hcs hlt
  gi_wp2_with fail
  refine ⟨trivial, rfl, (callsIn_wide.2 (Hpo.out wr HC.out.hr)).mono ?_⟩
  rintro e w1 ⟨PA, pc, rfl, hpr, hpn, b1, hpf⟩
  have HC1 := Lh (HC.out.kx (KpB.of_below HC.out.hbk b1))
  replace hj := QB HJ.out hj b1
  have hsP : Qi π ≠ [] → ∀ ad, PA = some ad → Safe bk L w1 ad.block := fun hne ad e => HC.out.fresh b1 (hpf ad e) (Xj hpr hne e)
  have c0 := HC1.out.rb.cellv (i := 0) (v := .pointer (some ⟨bk, 0, none⟩)) rfl
  have c1 := HC1.out.cb
  rw [← HN.out] at c1
  clear b1 hpf Hpo HC
  gi_wp2_with fail
  refine ⟨trivial, rfl, (callsIn_wide.2 (Hch.out w1 HC1.out.hr)).mono ?_⟩
  rintro e w2 ⟨cv, rfl, hown, b2⟩
  obtain ⟨CA, cc, rfl⟩ := Zd hown
  have hcr : Rd w2 CA (cs.flatMap chC) := KT hown
  have hcb : ∀ ad, CA = some ad → w1.heap.size ≤ ad.block := fun ad e => QN hown (by rw [e]; rfl)
  have hsC : cs.flatMap chC ≠ [] → ∀ ad, CA = some ad → Safe bk L w2 ad.block := fun hne ad e => HC1.out.fresh b2 (hcb ad e) (Xj hcr hne e)
  have hsP2 : Qi π ≠ [] → ∀ ad, PA = some ad → Safe bk L w2 ad.block := fun hne ad e => (KpB.of_below HC1.out.hbk b2).safe (hsP hne ad e)
  have HC2 := Lh (HC1.out.kx (KpB.of_below HC1.out.hbk b2))
  have Hcr := Lh hcr
  have HsC := Lh hsC
  have HsP := Lh hsP2
  have Hpr := Lh (hpr.go b2)
  have Hpn := Lh hpn
  have hcn : (cs.length : Int) ≤ 100 := by omega
  replace hj := QB HJ.out hj b2
  clear hown hcr hcb hsC hsP2 hsP hpr hpn b2 HC1 c0 c1 Hch
  gi_wp2_with fail
  gi_loopw [35] (fun i wr => ∃ (k : Nat) (pre : List DlV), i = .int .i64 (k : Int) ∧ k ≤ cs.length ∧ Hid (pre.map DlV.d = Y0 p.body t q ++ (cs.take k).map (mkD π)) ∧ Hid (KpB bk L w2 wr) ∧ J pre wr) (fun i _ => cs.length - (intOf i).toNat)
  case atStart => exact ⟨0, pre, by simp, Nat.zero_le _, Lh (by rw [Hpre.out]; simp), Lh (KpB.refl _ _ _), hj⟩
  case round =>
   clear hj
   obtain ⟨k, pre, rfl, hk, Hpre, Hkp, hj⟩ := hrel
   by_cases hlk : k < cs.length
   rotate_left
   · obtain rfl : k = cs.length := by omega
     have Hp2 : Hid (pre.map DlV.d = Y0 p.body t (q + 1)) := by
      show _ = _
      rw [Hpre.out, List.take_length, Ut Hpq.out, Hcs.out]
     have HC3 := Lh (HC2.out.kx Hkp.out)
     clear Hpre HC2
     gi_wp2_with fail
     go_roundw
     case rel => exact ⟨q + 1, pre, by go_num, by omega, Hp2, HC3, hj⟩
     case measure => simp [intOf]; omega
   obtain ⟨c, hc⟩ : ∃ c, cs[k]? = some c := ⟨_, List.getElem?_eq_getElem hlk⟩
   have hrc := Hkp.out.rd Hcr.out HsC.out
   obtain ⟨ca, hca, hcc⟩ := AiJ hrc hc
   subst hca
   have Hcc := Lh hcc
   have Hc := Lh hc
   have hkI : (k : Int) < (cs.length : Int) := by omega
   clear hrc hcc hc hlk
   gi_wp2_with (first | (refine KD _ _ _ rfl ?_) | (refine ZT rfl 35 _ rfl (ca.add (k * 3)) rfl [.slice none 0 0, .int .i64 c.1, .int .i64 c.2] _ Hcc.out Tryz.underlying35 rfl (by kernel_rfl) ?_))
   refine Stop.to ?_
   obtain ⟨D, hD⟩ : ∃ D, D = wr.heap.size := ⟨_, rfl⟩
   obtain ⟨w3, hw3⟩ : ∃ w3, w3 = wr.alloc (.cells #[.slice none 0 0, .int .i64 0, .int .i64 0] 35) := ⟨_, rfl⟩
   have rD3 : Row w3 D 35 #[.slice none 0 0, .int .i64 0, .int .i64 0] := by rw [hw3, hD]; exact Row.new _ _ _
   have b3 : Below wr.heap.size wr w3 := by rw [hw3]; exact (Below.refl _ _).alloc (Nat.le_refl _) _
   rw [← hw3, ← hD]
   have hDw : wr.heap.size ≤ D := Nat.le_of_eq hD.symm
   clear hw3 hD
   refine QZ rfl 35 _ _ rfl D #[.slice none 0 0, .int .i64 c.1, .int .i64 c.2] rfl rfl 35 _ rD3 (by kernel_rfl) rfl (by simp [Value.oneCell']) ?_
   have rD4 := rD3.setRow #[.slice none 0 0, .int .i64 c.1, .int .i64 c.2]
   have b4 : Below wr.heap.size wr (w3.setRow D #[.slice none 0 0, .int .i64 c.1, .int .i64 c.2]) := Qo b3 (Zo _ _ _) hDw
   generalize w3.setRow D #[.slice none 0 0, .int .i64 c.1, .int .i64 c.2] = w4 at rD4 b4 ⊢
   clear rD3 b3 Hcc
   have hpr4 : Rd w4 PA (Qi π) := (Hkp.out.rd Hpr.out HsP.out).go b4
   have hπ : π.length ≤ 1000 := by have h9 : π.length + 1 ≤ 0 + t.size := YN t [] 0 _ (List.mem_of_getElem? Hpq.out); have := Hf.out.good.size; have := Hf.out.len; omega
   obtain ⟨v5, w5, hrun, hown, hgr, -⟩ := ZB (P := Tryz.prog) 22 3 (.int .i64 0) 1 8 Tryz.underlying22 Jn rfl (by decide) (by decide) (World.ownsRow_nil w4 w4.heap.size 3 1) (Nat.le_refl _) hpr4 (m := π.length) (cap := pc) (by rw [Kk, Nat.mul_one]) (Jo π) (fun e => by rw [Hpn.out e]; rfl) (by omega)
   have b5 : Below w4.heap.size w4 w5 := ⟨hgr.os, hgr.tape, hgr.output, hgr.size, fun k hk => hgr.block k hk (by simp [Value.ownBlock])⟩
   rw [Nat.zero_add, List.nil_append] at hown
   obtain ⟨PA', pc', rfl, hpr5, hpc5, hpn5, hpb5⟩ := Xy hown
   have hib5 : IntB w5 PA' := VG hown rfl
   have rD5 := rD4.below b5 rD4.lt
   have l4 := rD4.lt
   have b56 := b4.trans (b5.mono b4.size)
   have Hrun := Lh hrun
   clear hown hgr hrun hpr4 b5 rD4
   obtain ⟨x, hx⟩ : ∃ x : DlV, x = ⟨PA', pc', mkD π c⟩ := ⟨_, rfl⟩
   have rD6 : Row (w5.setCell ⟨D, 0, none⟩ (.slice PA' π.length pc')) D 35 x.cells := by rw [hx]; exact rD5.set 0 _
   have o6 := Zc w5 D 0 (.slice PA' π.length pc')
   have c5 : w5.cell? ⟨D, 0, none⟩ = some (.slice none 0 0) := rD5.cellv (i := 0) rfl
   have f5 := rD5.free 0
   have b6 : Below wr.heap.size wr (w5.setCell ⟨D, 0, none⟩ (.slice PA' π.length pc')) := Qo b56 o6 hDw
   have hnD : Qi π ≠ [] → ∀ a, PA' = some a → a.block ≠ D := fun _ a e => by have := hpb5 a e; omega
   have hT : DlT (w5.setCell ⟨D, 0, none⟩ (.slice PA' π.length pc')) x := by
    rw [hx]
    refine ⟨⟨hpr5.only o6 hnD, by show π.length ≤ 1000000; omega⟩, fun a e => ?_, fun e => ?_⟩
    · obtain ⟨cs', hr'⟩ := hib5 a e
      exact ⟨cs', hr'.only o6 (by have := hpb5 a e; omega)⟩
    · show π = []
      have h0 := hpn5 e
      exact List.eq_nil_of_length_eq_zero (by omega)
   have hP : DlP (Z5 p.body t) pre x (w5.setCell ⟨D, 0, none⟩ (.slice PA' π.length pc')) := by
    refine ⟨hT, ?_⟩
    obtain ⟨rest, hrest⟩ := AgN (l := p.body) Hpq.out
    refine ⟨(cs.drop (k + 1)).map (mkD π) ++ rest, ?_⟩
    obtain ⟨hlk, hck⟩ := List.getElem?_eq_some_iff.1 Hc.out
    rw [← hrest, ← Hcs.out, Hpre.out, hx]
    conv => rhs; rw [← List.take_append_drop k cs, List.drop_eq_getElem_cons hlk, hck]
    simp
   have hlen : pre.length < (Z5 p.body t).length := by
    obtain ⟨_, rest, hr⟩ := hP
    rw [← hr]; simp
   have hj6 := QB HJ.out hj b6
   obtain ⟨fn, tmps, assign, body, hy, hR⟩ := HY.out _ x _ hj6 hP hlen
   have HR := Lh hR
   have Hk6 := Lh (Hkp.out.trans (KpB.of_below (by have := HC2.out.hbk; have := Hkp.out.size; omega) b6))
   have Hn : Hid ((pre ++ [x]).map DlV.d = Y0 p.body t q ++ (cs.take (k + 1)).map (mkD π)) := by
    show _ = _
    rw [List.take_add_one, Hc.out, List.map_append, Hpre.out, hx]
    simp
   clear hT hP hlen hj6 hj hR b6 b4 b56 o6 hnD hpr5 hpc5 hpn5 hpb5 hib5 rD5 hx Hpre Hc
   gi_wp2_with (refine Abv _ _ _ _ rfl ?_)
   refine Stop.to ?_
   refine Y6 rfl (fun c h => by cases h) rfl _ (Qq rfl Hrun.out) ?_
   gi_wp2_with (refine Q1 rfl 35 _ rfl D rfl 35 x.cells (0, 0) _ rD6 Tryz.underlying35 rfl (by kernel_rfl) ?_)
   refine ⟨rfl, HR.out.mono ?_⟩
   clear hy HR rD6 c5 f5 Hrun
   rintro e W' (⟨rfl, hj, hk7⟩ | ⟨rfl, hjx, -⟩)
   rotate_left
   · gi_wp2_with fail
     refine bodyPost_ret (results_none rfl _ _ _) rfl ?_
     exact ⟨⟨_, rfl⟩, .inr ⟨_, trivial, hjx⟩⟩
   have Hk7 := Lh (Hk6.out.trans hk7)
   clear Hk6 hk7
   gi_wp2_with fail
   go_roundw
   case rel => exact ⟨k + 1, _, by go_num, by omega, Hn, Hk7, hj⟩
   case measure => simp [intOf]; omega
end Go.Proofs.YtdcmppdhdcjpfaaGreat
namespace Go.Proofs.YtdcmppdhdcjpfaaGreat
open Go.RowKit Go.Deep
theorem YP (w : World) : (callFunc 276 #[]).run Tryz.prog w = .ok (.value (.tuple #[])) w := run_call_mark0 Tryz.func276 (by kernel_rfl) (by kernel_rfl) (by kernel_rfl) .disable (by kernel_rfl) w
theorem UH (w : World) : (callFunc 278 #[]).run Tryz.prog w = .ok (.value (.tuple #[])) w := run_call_mark0 Tryz.func278 (by kernel_rfl) (by kernel_rfl) (by kernel_rfl) .enable (by kernel_rfl) w
theorem AaY (a : Addr) (w : World) : (callFunc 279 #[.pointer (some a)]).run Tryz.prog w = .ok (.value (.tuple #[])) w := run_call_marked Tryz.func279 (by kernel_rfl) (by kernel_rfl) (by kernel_rfl) .acquire (by kernel_rfl) a w
theorem YQ (a : Addr) (w : World) : (callFunc 281 #[.pointer (some a)]).run Tryz.prog w = .ok (.value (.tuple #[])) w := run_call_marked Tryz.func281 (by kernel_rfl) (by kernel_rfl) (by kernel_rfl) .releaseMerge (by kernel_rfl) a w
theorem Ei (a : Addr) (x : Value) (u : FrameMode) (w : World) (hc : w.cell? a = some x) (hz : w.frozen? a = false) :
 CallsD Tryz.prog 241 #[.pointer (some a), .bool true] u w fun e u' w' => u' = u ∧ (e = .returned (.tuple #[]) ∧ w' = w.drew.setCell a (.int .u32 1)) := by
 have hc' : w.drew.cell? a = some x := by go_simp
 have hz' : w.drew.frozen? a = false := by go_simp
 have hst := run_call_store (P := Tryz.prog) Tryz.func264 (by kernel_rfl) (by kernel_rfl) (by kernel_rfl) (by kernel_rfl) (k := .u32) (y := 1) hc' hz'
 go_enter_d Tryz.func241, Tryz.ntmps241
 go_wp2
 go_region_calls
 all_goals (go_end0; exact ⟨rfl, rfl⟩)
theorem Abf (a : Addr) (w : World) (hc : w.cell? a = some (.int .i32 1)) (hz : w.frozen? a = false) :
 Calls Tryz.prog 263 #[.pointer (some a)] w fun e w' => e = .returned (.tuple #[]) ∧ w' = w.setCell a (.int .i32 0) := by
 have hd := YP
 have he := UH
 have hr := YQ
 have hadd := run_call_add (P := Tryz.prog) Tryz.func282 (by kernel_rfl) (by kernel_rfl) (by kernel_rfl) .i32 (by kernel_rfl) (y := -1) (s := 0) hc hz (by simp [go_sem]; rfl)
 have hcv := run_convert_to_unsafe (P := Tryz.prog) (src := 322) (dst := 326) Tryz.underlying322 Tryz.underlying326 (by kernel_rfl) hc
 go_enter Tryz.func263, Tryz.ntmps263
 go_wp2
 first | go_end0 | go_ret
 exact ⟨rfl, rfl⟩
theorem Adz (a : Addr) (w : World) (hc : w.cell? a = some (.int .i32 0)) (hz : w.frozen? a = false) :
 Calls Tryz.prog 262 #[.pointer (some a)] w fun e w' => e = .returned (.tuple #[]) ∧ w' = w.setCell a (.int .i32 1) := by
 have hd := YP
 have he := UH
 have ha := AaY
 have hcas := run_call_cas_hit (P := Tryz.prog) Tryz.func277 (by kernel_rfl) (by kernel_rfl) (by kernel_rfl) .i32 (by kernel_rfl) (y := 1) hc hz
 have hc' : (w.setCell a (.int .i32 1)).cell? a = some (.int .i32 1) := World.cell?_setCell_same w a _ hc
 have hcv := run_convert_to_unsafe (P := Tryz.prog) (src := 322) (dst := 326) Tryz.underlying322 Tryz.underlying326 (by kernel_rfl) hc'
 go_enter Tryz.func262, Tryz.ntmps262
 go_wp2
 first | go_end0 | (simp only [Exit.inBlock, Exit.then]; refine bodyPost_ret (results_none rfl _ _ _) rfl ?_) | refine bodyPost_ret (results_none rfl _ _ _) rfl ?_
 exact ⟨rfl, rfl⟩
theorem Ae8 (a : Addr) (w : World) (hc : w.cell? a = some (.int .i32 0)) (hz : w.frozen? a = false) :
 Calls Tryz.prog 239 #[.pointer (some a)] w fun e w' => e = .returned (.tuple #[]) ∧ w' = w.setCell a (.int .i32 1) := by
 have Hs := Lh (Adz a w hc hz)
 clear hc hz
 go_enter Tryz.func239, Tryz.ntmps239
 go_wp2_with fail
 refine Hs.out.mono ?_
 rintro e w1 ⟨rfl, rfl⟩
 go_wp2
 first | go_end0 | go_ret
 exact ⟨rfl, rfl⟩
theorem UO (a : Addr) (u : FrameMode) (w : World) (hc : w.cell? a = some (.int .i32 1)) (hz : w.frozen? a = false) :
 CallsD Tryz.prog 240 #[.pointer (some a)] u w fun e u' w' => u' = u ∧ (e = .returned (.tuple #[]) ∧ w' = w.setCell a (.int .i32 0)) := by
 have Hs := Lh (Abf a w hc hz)
 clear hc hz
 go_enter_d Tryz.func240, Tryz.ntmps240
 go_wp2_with fail
 refine Hs.out.mono ?_
 rintro e w1 ⟨rfl, rfl⟩
 go_wp2
 first | go_end0 | go_ret
 exact ⟨rfl, rfl⟩
def ZO (p : PgV) (dn st : Int) (v : Value) : Array Value := #[.int .i64 p.params, .slice p.va p.V.length p.vcap, .slice p.ba p.body.length p.bcap, .int .u32 dn, .int .i32 st, .int .u32 0, v]
theorem EP (a : Addr) (x : Int) (w : World) (hc : w.cell? a = some (.int .u32 x)) :
 Calls Tryz.prog 178 #[.pointer (some a)] w fun e w' => e = .returned (.bool (x != 0)) ∧ w' = w := by
 have hl := run_call_load (P := Tryz.prog) Tryz.func238 (by kernel_rfl) (by kernel_rfl) (by kernel_rfl) .u32 (by kernel_rfl) hc
 go_enter Tryz.func178, Tryz.ntmps178
 go_wp2
 go_ret
 exact ⟨rfl, rfl⟩
theorem Adm (bk : Nat) (p : PgV) (v0 : Value) (R : Value → World → Prop) (w : World) (hr : Row w bk 102 (ZO p 0 0 v0))
 (hF : Calls Tryz.prog 108 #[.pointer (some ⟨bk, 0, none⟩)] (w.setCell ⟨bk, 4, none⟩ (.int .i32 1)) fun e w1 => e = .returned (.tuple #[]) ∧ ∃ v, Row w1 bk 102 (ZO p 0 1 v) ∧ R v w1) :
 Calls Tryz.prog 179 #[.pointer (some ⟨bk, 3, none⟩), .func (.func 108) #[.pointer (some ⟨bk, 0, none⟩)] #[]] w fun e w' =>
  e = .returned (.tuple #[]) ∧ ∃ v w1, Row w1 bk 102 (ZO p 0 1 v) ∧ R v w1 ∧ w' = (w1.drew.setCell ⟨bk, 3, none⟩ (.int .u32 1)).setCell ⟨bk, 4, none⟩ (.int .i32 0) := by
 have Hlk := Lh (Ae8 ⟨bk, 4, none⟩ w (hr.cellv (i := 4) rfl) (hr.free 4))
 have r1 : Row (w.setCell ⟨bk, 4, none⟩ (.int .i32 1)) bk 102 (ZO p 0 1 v0) := hr.set 4 _
 generalize w.setCell ⟨bk, 4, none⟩ (.int .i32 1) = w1 at Hlk r1 hF
 have HF := Lh hF
 have Hld := Lh (EP ⟨bk, 3, none⟩ 0 w1 (r1.cellv (i := 3) rfl))
 have hnot : ∀ (x : Bool) (w : World), (Op.unary .not (.bool x)).run Tryz.prog w = .ok (.bool (!x)) w := fun _ _ => rfl
 clear hr hF
 go_enter_defers Tryz.func179, Tryz.ntmps179
 go_wp2_with fail
 refine Hlk.out.mono ?_
 rintro e w' ⟨rfl, rfl⟩
 clear Hlk
 go_wp2_with fail
 refine Hld.out.mono ?_
 rintro e w' ⟨rfl, rfl⟩
 clear Hld
 go_wp2_with fail
 refine HF.out.mono ?_
 rintro e w2 ⟨rfl, v, r2, hR⟩
 clear HF
 go_wp2_with fail
 refine leaves_cons (f := 241) (args := #[.pointer (some ⟨bk, 3, none⟩), .bool true]) (by simp) (by simp [go_sem]) ?_
 refine (Ei ⟨bk, 3, none⟩ (.int .u32 0) .returning _ (r2.cellv (i := 3) rfl) (r2.free 3)).mono ?_
 rintro e u' w3 ⟨rfl, rfl, rfl⟩
 have r3 : Row (w2.drew.setCell ⟨bk, 3, none⟩ (.int .u32 1)) bk 102 (ZO p 1 1 v) := Row.set (w := w2.drew) (cs := ZO p 0 1 v) r2 3 (.int .u32 1)
 refine leaves_cons (f := 240) (args := #[.pointer (some ⟨bk, 4, none⟩)]) (by simp [settle]) (by simp [go_sem]) ?_
 refine (UO ⟨bk, 4, none⟩ _ _ (r3.cellv (i := 4) rfl) (r3.free 4)).mono ?_
 rintro e u' w4 ⟨rfl, rfl, rfl⟩
 simp only [Leaves, settle]
 refine ⟨_, results_none rfl _ _ _, rfl, v, w2, r2, hR, rfl⟩
theorem Adl (bk : Nat) (p : PgV) (v0 : Value) (R : Value → World → Prop) (w : World) (hr : Row w bk 102 (ZO p 0 0 v0))
 (hF : Calls Tryz.prog 108 #[.pointer (some ⟨bk, 0, none⟩)] (w.setCell ⟨bk, 4, none⟩ (.int .i32 1)) fun e w1 => e = .returned (.tuple #[]) ∧ ∃ v, Row w1 bk 102 (ZO p 0 1 v) ∧ R v w1) :
 Calls Tryz.prog 107 #[.pointer (some ⟨bk, 3, none⟩), .func (.func 108) #[.pointer (some ⟨bk, 0, none⟩)] #[]] w fun e w' =>
  e = .returned (.tuple #[]) ∧ ∃ v w1, Row w1 bk 102 (ZO p 0 1 v) ∧ R v w1 ∧ w' = (w1.drew.setCell ⟨bk, 3, none⟩ (.int .u32 1)).setCell ⟨bk, 4, none⟩ (.int .i32 0) := by
 have Hld := Lh (EP ⟨bk, 3, none⟩ 0 w (hr.cellv (i := 3) rfl))
 have Hs := Lh (Adm bk p v0 R w hr hF)
 have hnot : ∀ (x : Bool) (w : World), (Op.unary .not (.bool x)).run Tryz.prog w = .ok (.bool (!x)) w := fun _ _ => rfl
 clear hr hF
 go_enter Tryz.func107, Tryz.ntmps107
 go_wp2_with fail
 refine Hld.out.mono ?_
 rintro e w' ⟨rfl, rfl⟩
 clear Hld
 go_wp2_with fail
 refine Hs.out.mono ?_
 rintro e w2 ⟨rfl, h⟩
 clear Hs
 go_wp2_with fail
 go_end0
 exact ⟨rfl, h⟩
end Go.Proofs.YtdcmppdhdcjpfaaGreat
